import Derived.Lib.ItoaLen
import Derived.Lib.Join
import Derived.Lib.DecodeN
import Derived.Lib.TrimUEq
import Derived.Shelf.Strings.OnBuilder
import Derived.Test.YtaielcdfcgpbiaaGreatDoorM1
import Derived.Test.YtaielcdfcgpbiaaGreatDoorM2
import Derived.Test.YtaielcdfcgpbiaaGreatDoorM3
import Derived.Test.YtaielcdfcgpbiaaGreatDoorM4
import Derived.Test.YtaielcdfcgpbiaaGreatDoorM5
import Derived.Test.YtaielcdfcgpbiaaGreatDoorM6
set_option maxRecDepth 100000
set_option linter.all false
namespace Go.Proofs.YtaielcdfcgpbiaaGreatDoor
open Go.Ab Go.Lib
theorem zk8 (n:Nat):(n:Int).fdiv (2 ^ min 6 IntKind.i64.bits)=((n / 64:Nat):Int):=by
 show (n:Int).fdiv 64=_
 rw[Int.fdiv_eq_ediv_of_nonneg _ (by omega)];omega
theorem zkF (n:Nat):(n:Int).fdiv (2 ^ min 12 IntKind.i64.bits)=((n / 4096:Nat):Int):=by
 show (n:Int).fdiv 4096=_
 rw[Int.fdiv_eq_ediv_of_nonneg _ (by omega)];omega
theorem zmf (n:Nat):(n:Int).fdiv (2 ^ min 18 IntKind.i64.bits)=((n / 262144:Nat):Int):=by
 show (n:Int).fdiv 262144=_
 rw[Int.fdiv_eq_ediv_of_nonneg _ (by omega)];omega
theorem orT:∀ x:Fin 64,(∀(b:Nat),b=128∨(b=192∧x.val<32)∨(b=224∧x.val<16)∨(b=240∧x.val<8)→IntKind.wrap .u8 (IntKind.wrap .i64 ((BitVec.ofInt IntKind.i64.bits (b:Int) ||| BitVec.ofInt IntKind.i64.bits ((x.val:Nat):Int)).toNat:Int))=((UInt8.ofNat (b+x.val)).toNat:Int)):=by
 intro x b hb
 have h1:∀ x:Fin 64,IntKind.wrap .u8 (IntKind.wrap .i64 ((BitVec.ofInt IntKind.i64.bits 128 ||| BitVec.ofInt IntKind.i64.bits ((x.val:Nat):Int)).toNat:Int))=((UInt8.ofNat (128+x.val)).toNat:Int):=by decide +kernel
 have h2:∀ x:Fin 32,IntKind.wrap .u8 (IntKind.wrap .i64 ((BitVec.ofInt IntKind.i64.bits 192 ||| BitVec.ofInt IntKind.i64.bits ((x.val:Nat):Int)).toNat:Int))=((UInt8.ofNat (192+x.val)).toNat:Int):=by decide +kernel
 have h3:∀ x:Fin 16,IntKind.wrap .u8 (IntKind.wrap .i64 ((BitVec.ofInt IntKind.i64.bits 224 ||| BitVec.ofInt IntKind.i64.bits ((x.val:Nat):Int)).toNat:Int))=((UInt8.ofNat (224+x.val)).toNat:Int):=by decide +kernel
 have h4:∀ x:Fin 8,IntKind.wrap .u8 (IntKind.wrap .i64 ((BitVec.ofInt IntKind.i64.bits 240 ||| BitVec.ofInt IntKind.i64.bits ((x.val:Nat):Int)).toNat:Int))=((UInt8.ofNat (240+x.val)).toNat:Int):=by decide +kernel
 rcases hb with rfl|⟨rfl,h⟩|⟨rfl,h⟩|⟨rfl,h⟩
 ·exact h1 x
 ·exact h2 ⟨x.val,h⟩
 ·exact h3 ⟨x.val,h⟩
 ·exact h4 ⟨x.val,h⟩
theorem zgS {m:Nat} (h:m<64):IntKind.wrap .u8 (IntKind.wrap .i64 ((BitVec.ofInt IntKind.i64.bits 128 ||| BitVec.ofInt IntKind.i64.bits (m:Int)).toNat:Int))=((UInt8.ofNat (128+m)).toNat:Int):=orT ⟨m,h⟩ 128 (.inl rfl)
theorem zl4 {m:Nat} (h:m<32):IntKind.wrap .u8 (IntKind.wrap .i64 ((BitVec.ofInt IntKind.i64.bits 192 ||| BitVec.ofInt IntKind.i64.bits (m:Int)).toNat:Int))=((UInt8.ofNat (192+m)).toNat:Int):=orT ⟨m,by omega⟩ 192 (.inr (.inl ⟨rfl,h⟩))
theorem zmq {m:Nat} (h:m<16):IntKind.wrap .u8 (IntKind.wrap .i64 ((BitVec.ofInt IntKind.i64.bits 224 ||| BitVec.ofInt IntKind.i64.bits (m:Int)).toNat:Int))=((UInt8.ofNat (224+m)).toNat:Int):=orT ⟨m,by omega⟩ 224 (.inr (.inr (.inl ⟨rfl,h⟩)))
theorem zlR {m:Nat} (h:m<8):IntKind.wrap .u8 (IntKind.wrap .i64 ((BitVec.ofInt IntKind.i64.bits 240 ||| BitVec.ofInt IntKind.i64.bits (m:Int)).toNat:Int))=((UInt8.ofNat (240+m)).toNat:Int):=orT ⟨m,by omega⟩ 240 (.inr (.inr (.inr ⟨rfl,h⟩)))
theorem zjS (n:Nat) (h:n≤1114111):Pure Tryz.prog 204 [.int .i64 n] (.str (y0 n)):=by
 refine Pure.go ir204 ck204 (Al4 _) fun KP Q hQ=>?_
 by_cases h1:n<128
 ·have h1':((n:Int)<128)=True:=eq_true (by omega)
  have e:IntKind.wrap .u8 (n:Int)=((UInt8.ofNat n).toNat:Int):=by rw[wr8,UInt8.toNat_ofNat']
  have e2:byts [[.int .u8 (UInt8.ofNat n).toNat]]=some [UInt8.ofNat n]:=YE [_]
  simp(disch:=omega) only[ir204,h1',e,e2,steps,st2,pev,rev,oev,optr,ibin,sbin,ishf,bound,mmAll,mm2,mk,mkArgs,AV.cells,AV.boxable,AV.one,AV.strip1,fillA,fillS,Nat.reduceEqDiff,reduceCtorEq,↓reduceIte,Nat.reduceAdd,Int.reduceNeg,Nat.reduceLeDiff,Int.reduceToNat,Int.reduceEq,Int.reduceLT,Int.reduceLE,Int.reduceAdd,Io,Im,If,Il,Jt,Jf,AC.rg,Jm,Jl,Ja,Fm,Fl,Fa,Imv,Imb,Iai,Iei,Igi,Isi,Ipf,Ipt,Ilb,Iia,Ilt,Iap,Ink,Iln,Ils,Iad,Iex,Ibx,Ing]
  exact hQ _ _ _ _ nofun rfl (by simp[tupOf,envOf,AV.strip,AV.strip1,y0,show n≤127 by omega])
 have h1':¬ ((n:Int)<128):=by omega
 have a0:=zg9 (n:=n) (by omega)
 by_cases h2:n<2048
 ·have h2':((n:Int)<2048)=True:=eq_true (by omega)
  have e2:byts [[.int .u8 (UInt8.ofNat (192+n / 64)).toNat],[.int .u8 (UInt8.ofNat (128+n % 64)).toNat]]=some [UInt8.ofNat (192+n / 64),UInt8.ofNat (128+n % 64)]:=YE [_,_]
  have o1:=zl4 (m:=n / 64) (by omega)
  have o2:=zgS (m:=n % 64) (by omega)
  simp(disch:=omega) only[ir204,h1',h2',zk8,a0,o1,o2,e2,steps,st2,pev,rev,oev,optr,ibin,sbin,ishf,bound,mmAll,mm2,mk,mkArgs,AV.cells,AV.boxable,AV.one,AV.strip1,fillA,fillS,Nat.reduceEqDiff,reduceCtorEq,↓reduceIte,Nat.reduceAdd,Int.reduceNeg,Nat.reduceLeDiff,Int.reduceToNat,Int.reduceEq,Int.reduceLT,Int.reduceLE,Int.reduceAdd,Io,Im,If,Il,Jt,Jf,AC.rg,Jm,Jl,Ja,Fm,Fl,Fa,Imv,Imb,Iai,Iei,Igi,Isi,Ipf,Ipt,Ilb,Iia,Ilt,Iap,Ink,Iln,Ils,Iad,Iex,Ibx,Ing]
  exact hQ _ _ _ _ nofun rfl (by simp[tupOf,envOf,AV.strip,AV.strip1,y0,show ¬ n≤127 by omega,show n≤2047 by omega])
 have h2':¬ ((n:Int)<2048):=by omega
 have a1:=zg9 (n:=n / 64) (by omega)
 have o2:=zgS (m:=n % 64) (by omega)
 have o3:=zgS (m:=n / 64 % 64) (by omega)
 by_cases h3:n<65536
 ·have h3':((n:Int)<65536)=True:=eq_true (by omega)
  have e2:byts [[.int .u8 (UInt8.ofNat (224+n / 4096)).toNat],[.int .u8 (UInt8.ofNat (128+n / 64 % 64)).toNat],[.int .u8 (UInt8.ofNat (128+n % 64)).toNat]]=some [UInt8.ofNat (224+n / 4096),UInt8.ofNat (128+n / 64 % 64),UInt8.ofNat (128+n % 64)]:=YE [_,_,_]
  have o1:=zmq (m:=n / 4096) (by omega)
  simp(disch:=omega) only[ir204,h1',h2',h3',zk8,zkF,a0,a1,o1,o2,o3,e2,steps,st2,pev,rev,oev,optr,ibin,sbin,ishf,bound,mmAll,mm2,mk,mkArgs,AV.cells,AV.boxable,AV.one,AV.strip1,fillA,fillS,Nat.reduceEqDiff,reduceCtorEq,↓reduceIte,Nat.reduceAdd,Int.reduceNeg,Nat.reduceLeDiff,Int.reduceToNat,Int.reduceEq,Int.reduceLT,Int.reduceLE,Int.reduceAdd,Io,Im,If,Il,Jt,Jf,AC.rg,Jm,Jl,Ja,Fm,Fl,Fa,Imv,Imb,Iai,Iei,Igi,Isi,Ipf,Ipt,Ilb,Iia,Ilt,Iap,Ink,Iln,Ils,Iad,Iex,Ibx,Ing]
  exact hQ _ _ _ _ nofun rfl (by simp[tupOf,envOf,AV.strip,AV.strip1,y0,show ¬ n≤127 by omega,show ¬ n≤2047 by omega,show n≤65535 by omega])
 have h3':¬ ((n:Int)<65536):=by omega
 have a2:=zg9 (n:=n / 4096) (by omega)
 have o4:=zgS (m:=n / 4096 % 64) (by omega)
 have o1:=zlR (m:=n / 262144) (by omega)
 have e2:byts [[.int .u8 (UInt8.ofNat (240+n / 262144)).toNat],[.int .u8 (UInt8.ofNat (128+n / 4096 % 64)).toNat],[.int .u8 (UInt8.ofNat (128+n / 64 % 64)).toNat],[.int .u8 (UInt8.ofNat (128+n % 64)).toNat]]=some [UInt8.ofNat (240+n / 262144),UInt8.ofNat (128+n / 4096 % 64),UInt8.ofNat (128+n / 64 % 64),UInt8.ofNat (128+n % 64)]:=YE [_,_,_,_]
 simp(disch:=omega) only[ir204,h1',h2',h3',zk8,zkF,zmf,a0,a1,a2,o1,o2,o3,o4,e2,steps,st2,pev,rev,oev,optr,ibin,sbin,ishf,bound,mmAll,mm2,mk,mkArgs,AV.cells,AV.boxable,AV.one,AV.strip1,fillA,fillS,Nat.reduceEqDiff,reduceCtorEq,↓reduceIte,Nat.reduceAdd,Int.reduceNeg,Nat.reduceLeDiff,Int.reduceToNat,Int.reduceEq,Int.reduceLT,Int.reduceLE,Int.reduceAdd,Io,Im,If,Il,Jt,Jf,AC.rg,Jm,Jl,Ja,Fm,Fl,Fa,Imv,Imb,Iai,Iei,Igi,Isi,Ipf,Ipt,Ilb,Iia,Ilt,Iap,Ink,Iln,Ils,Iad,Iex,Ibx,Ing]
 exact hQ _ _ _ _ nofun rfl (by simp[tupOf,envOf,AV.strip,AV.strip1,y0,show ¬ n≤127 by omega,show ¬ n≤2047 by omega,show ¬ n≤65535 by omega])
theorem ziJ (us:List Nat) (hl:us.length≤68719476736):Pure Tryz.prog 203 [.sl .no 1 (cU us)] (.tup [.str ((zp us).getD []),.bool (zp us).isSome]):=by
 refine Pure.go ir203 ck203 (Al4 _) fun KP Q hQ=>?_
 have hll:=zeS us
 simp(disch:=omega) only[ir203,go_sem]
 refine goL_st (fun s:List Nat×List Nat×List UInt8=>[(4,.str s.2.2),(5,.int .i64 s.1.length)]) (fun s H=>us=s.1++s.2.1∧zp us=(zp s.2.1).map (s.2.2++·)∧s.2.2.length≤2*s.1.length*2) (fun s=>s.2.1.length) ([],us,[]) (by simp(disch:=omega) only[go_sem]) ⟨rfl,by cases zp us<;>rfl,by simp⟩ ?_
 rintro⟨done,rest,out⟩ H J ⟨hd,hj,hle⟩ hJ
 simp only at hd hj hle
 have hdl:done.length+rest.length=us.length:=by rw[hd];simp
 cases rest with
 | nil =>
  simp only[List.append_nil] at hd
  have hlt:¬ ((done.length:Int)<us.length):=by rw[hd];omega
  simp(disch:=omega) only[hll,hlt,go_sem]
  simp only[zp,yd,List.append_nil] at hj
  exact hQ _ _ _ _ nofun rfl (by simp[tupOf,envOf,AV.strip,AV.strip1,hj])
 | cons u r =>
  have hlt:((done.length:Int)<us.length):=by simp at hdl;omega
  have hg:(cU us).getD done.length []=[.int .i64 u]:=by rw[hd];simp[cU]
  have hu0:¬ ((u:Int)<0):=by omega
  have hrl:r.length+1+done.length=us.length:=by simp at hdl;omega
  have none_of:zp (u::r)=none→zp us=none:=fun e=>by rw[hj,e];rfl
  by_cases a1:65535<u
  ·have e:=none_of (by rw[zp.eq_def];simp only;rw[if_pos (.inl a1)])
   have a1':((65535:Int)<u)=True:=eq_true (by omega)
   simp(disch:=omega) only[hll,hlt,hg,hu0,a1',go_sem]
   exact hQ _ _ _ _ nofun rfl (by simp[tupOf,envOf,AV.strip,AV.strip1,e])
  have a1':¬ ((65535:Int)<u):=by omega
  by_cases a2:56320≤u∧u≤57343
  ·have e:=none_of (by rw[zp.eq_def];simp only;rw[if_pos (.inr a2)])
   have a2':((56320:Int)≤u)=True:=eq_true (by omega)
   have a3':((u:Int)<57344)=True:=eq_true (by omega)
   simp(disch:=omega) only[hll,hlt,hg,hu0,a1',a2',a3',go_sem]
   exact hQ _ _ _ _ nofun rfl (by simp[tupOf,envOf,AV.strip,AV.strip1,e])
  by_cases a3:55296≤u∧u<56320
  ·have b1:¬ ((56320:Int)≤u):=by omega
   have b2:((55296:Int)≤u)=True:=eq_true (by omega)
   have b3:((u:Int)<56320)=True:=eq_true (by omega)
   cases r with
   | nil =>
    have e:=none_of (by rw[zp.eq_def];simp only;rw[if_neg (by omega),if_pos a3])
    have b4:((us.length:Int)≤(done.length:Int)+1)=True:=eq_true (by simp at hrl;omega)
    simp(disch:=omega) only[hll,hlt,hg,hu0,a1',b1,b2,b3,wrap64,b4,go_sem]
    exact hQ _ _ _ _ nofun rfl (by simp[tupOf,envOf,AV.strip,AV.strip1,e])
   | cons v r =>
    have b4:¬ ((us.length:Int)≤(done.length:Int)+1):=by simp at hrl;omega
    have b5:((done.length:Int)+1<us.length):=by simp at hrl;omega
    have b6:((done.length:Int)+1).toNat=done.length+1:=by omega
    have hg2:(cU us).getD (done.length+1) []=[.int .i64 v]:=by rw[hd];simp[cU]
    by_cases c1:v<56320
    ·have e:=none_of (by rw[zp.eq_def];simp only;rw[if_neg (by omega),if_pos a3,if_pos (.inl c1)])
     have c1':((v:Int)<56320)=True:=eq_true (by omega)
     simp(disch:=omega) only[hll,hlt,hg,hu0,a1',b1,b2,b3,wrap64,b4,b5,b6,hg2,c1',go_sem]
     exact hQ _ _ _ _ nofun rfl (by simp[tupOf,envOf,AV.strip,AV.strip1,e])
    have c1':¬ ((v:Int)<56320):=by omega
    by_cases c2:57343<v
    ·have e:=none_of (by rw[zp.eq_def];simp only;rw[if_neg (by omega),if_pos a3,if_pos (.inr c2)])
     have c2':((57344:Int)≤v)=True:=eq_true (by omega)
     simp(disch:=omega) only[hll,hlt,hg,hu0,a1',b1,b2,b3,wrap64,b4,b5,b6,hg2,c1',c2',go_sem]
     exact hQ _ _ _ _ nofun rfl (by simp[tupOf,envOf,AV.strip,AV.strip1,e])
    have c2':¬ ((57344:Int)≤v):=by omega
    have ej:zp (u::v::r)=(zp r).map (y0 (65536+1024*(u-55296)+(v-56320))++·):=by rw[zp.eq_def];simp only;rw[if_neg (by omega),if_pos a3,if_neg (by omega)]
    obtain⟨m,hm⟩:∃ m,65536+1024*(u-55296)+(v-56320)=m:=⟨_,rfl⟩
    rw[hm] at ej
    have w1:IntKind.wrap .i64 ((u:Int)-55296)=(u:Int)-55296:=wrap64 (by omega) (by omega)
    have w2:IntKind.wrap .i64 (1024*((u:Int)-55296))=1024*((u:Int)-55296):=wrap64 (by omega) (by omega)
    have w3:IntKind.wrap .i64 (65536+1024*((u:Int)-55296))=65536+1024*((u:Int)-55296):=wrap64 (by omega) (by omega)
    have w4:IntKind.wrap .i64 (65536+1024*((u:Int)-55296)+v)=65536+1024*((u:Int)-55296)+v:=wrap64 (by omega) (by omega)
    have w5:IntKind.wrap .i64 (65536+1024*((u:Int)-55296)+v-56320)=(m:Int):=by rw[wrap64 (by omega) (by omega)];omega
    have hm3:=(ZW m).1
    have hdw:IntKind.wrap .i64 ((done.length:Int)+1)=(done.length:Int)+1:=wrap64 (by omega) (by omega)
    have hdw2:IntKind.wrap .i64 ((done.length:Int)+1+1)=(done.length:Int)+1+1:=wrap64 (by omega) (by omega)
    simp(disch:=omega) only[hll,hlt,hg,hu0,a1',b1,b2,b3,hdw,b4,b5,b6,hg2,c1',c2',w1,w2,w3,w4,w5,go_sem]
    refine goK_pure (zjS m (by omega)) ?_
    have e5:(((done++[u,v]).length:Nat):Int)=(done.length:Int)+1+1:=by simp;omega
    have nx:=hJ (done++[u,v],r,out++y0 m) H (by simp;omega) ⟨by simp[hd],by simp only[hj,ej];cases zp r<;>simp,by simp;omega⟩
    simp(disch:=omega) only[hdw2,Al5,go_sem]
    exact goJ nx (by simp(disch:=omega) only[e5,go_sem])
  have ej:zp (u::r)=(zp r).map (y0 u++·):=by
   rw[zp.eq_def];simp only;rw[if_neg (by omega),if_neg a3]
  have hm3:=(ZW u).1
  have e5:(((done++[u]).length:Nat):Int)=(done.length:Int)+1:=by simp
  have hdw:IntKind.wrap .i64 ((done.length:Int)+1)=(done.length:Int)+1:=wrap64 (by omega) (by omega)
  have nx:=hJ (done++[u],r,out++y0 u) H (by simp) ⟨by simp[hd],by simp only[hj,ej];cases zp r<;>simp,by simp;omega⟩
  by_cases h:u<55296
  ·have b1:¬ ((56320:Int)≤u):=by omega
   have b2:¬ ((55296:Int)≤u):=by omega
   simp(disch:=omega) only[hll,hlt,hg,hu0,a1',b1,b2,go_sem]
   refine goK_pure (zjS u (by omega)) ?_
   simp(disch:=omega) only[hdw,Al5,go_sem]
   exact goJ nx (by simp(disch:=omega) only[e5,go_sem])
  ·have b1:((56320:Int)≤u)=True:=eq_true (by omega)
   have b2:¬ ((u:Int)<57344):=by omega
   have b3:((55296:Int)≤u)=True:=eq_true (by omega)
   have b4:¬ ((u:Int)<56320):=by omega
   simp(disch:=omega) only[hll,hlt,hg,hu0,a1',b1,b2,b3,b4,go_sem]
   refine goK_pure (zjS u (by omega)) ?_
   simp(disch:=omega) only[hdw,Al5,go_sem]
   exact goJ nx (by simp(disch:=omega) only[e5,go_sem])
end Go.Proofs.YtaielcdfcgpbiaaGreatDoor
namespace Go.Proofs.YtaielcdfcgpbiaaGreatDoor
open Go.Ab
theorem wrap_u8 {x:Int} (h0:0≤x) (h1:x<256):IntKind.wrap .u8 x=x:=by
 unfold IntKind.wrap
 simp[IntKind.signed,IntKind.bits]
 omega
open Go.Lib
theorem zgH (s:List UInt8) (c:UInt8) (hs:s.length≤Lim):Pure Tryz.prog 154 [.str s,.int .u8 c.toNat] (.int .i64 (Lib.indexByte s c)):=by
 refine Pure.go ir154 ck154 (Al4 _) fun KP Q hQ=>?_
 simp only[Lim] at hs
 have none:∀ l:List UInt8,c ∉ l→Lib.indexByte l c=-1:=fun l=>by
  induction l with
  | nil=>intro _;rfl
  | cons b l ih =>
   intro h
   have h1:¬ b=c:=fun e=>h (by simp[e])
   have h2:=ih fun e=>h (by simp[e])
   simp[Lib.indexByte,h1,h2]
 have at':∀(l r:List UInt8),c ∉ l→Lib.indexByte (l++c::r) c=l.length:=fun l=>by
  induction l with
  | nil=>intro r _;simp[Lib.indexByte]
  | cons b l ih =>
   intro r h
   have h1:¬ b=c:=fun e=>h (by simp[e])
   have h2:=ih r fun e=>h (by simp[e])
   simp only[Al6,Lib.indexByte,h2]
   simp[h1]
   try omega
 simp(disch:=omega) only[ir154,go_sem]
 refine goL_range s 5 (fun _:Unit=>[]) (fun done rest _ H'=>c ∉ done) () (by simp(disch:=omega) only[go_sem]) (by simp) ?_ ?_
 ·rintro _ H2 J hn hlt
  simp(disch:=omega) only[hlt,go_sem]
  exact hQ _ _ _ _ nofun rfl (by simp[tupOf,envOf,AV.strip,AV.strip1,none s hn])
 ·rintro done x rest _ H2 J hd hlt hlt2 hn hJ
  have hg:=zki hd
  by_cases hx:x=c
  ·subst hx
   have e:=at' done rest hn
   rw[← hd] at e
   simp(disch:=omega) only[hlt,hg,go_sem]
   exact hQ _ _ _ _ nofun rfl (by simp[tupOf,envOf,AV.strip,AV.strip1,e])
  ·have hx':¬ ((x.toNat:Int)=c.toNat):=by rw[zlV];exact hx
   have nx:=hJ () H2 (by simp only[List.mem_append,List.mem_singleton,not_or];exact⟨hn,fun e=>hx e.symm⟩)
   simp(disch:=omega) only[hlt,hg,hx',wrap64,go_sem]
   exact goJ nx (by simp(disch:=omega) only[go_sem])
theorem zjH (c:UInt8):hexD c=if 48≤c.toNat∧c.toNat≤57 then some (c.toNat-48) else if 97≤c.toNat∧c.toNat≤102 then some (c.toNat-87) else if 65≤c.toNat∧c.toNat≤70 then some (c.toNat-55) else none :=
 zbv (P:=fun c=>hexD c=if 48≤c.toNat∧c.toNat≤57 then some (c.toNat-48) else if 97≤c.toNat∧c.toNat≤102 then some (c.toNat-87) else if 65≤c.toNat∧c.toNat≤70 then some (c.toNat-55) else none) (by decide +kernel) c
theorem zkY {a b:Nat} (ha:a<16777216) (hb:b<16):IntKind.wrap .i64 ((BitVec.ofInt IntKind.i64.bits ((a*16:Nat):Int) ||| BitVec.ofInt IntKind.i64.bits (b:Int)).toNat:Int)=((a*16+b:Nat):Int):=by
 have e:(BitVec.ofInt IntKind.i64.bits ((a*16:Nat):Int) ||| BitVec.ofInt IntKind.i64.bits (b:Int)).toNat=a*16+b:=by
  rw[BitVec.toNat_or]
  show (BitVec.ofInt 64 ((a*16:Nat):Int)).toNat ||| (BitVec.ofInt 64 (b:Int)).toNat=_
  rw[y1 (by omega),y1 (by omega)]
  have:=Nat.two_pow_add_eq_or_of_lt (i:=4) (b:=b) (by omega) a
  rw[show (2:Nat) ^ 4=16 by rfl] at this
  rw[Nat.mul_comm a 16,this]
 rw[e]
 exact YQ (by omega)
theorem zmy {a:Nat} (ha:a<16777216):IntKind.wrap .i64 ((a:Int)*2 ^ min 4 IntKind.i64.bits)=((a*16:Nat):Int):=by
 show IntKind.wrap .i64 ((a:Int)*16)=_
 rw[wrap64 (by omega) (by omega)];omega
def zfK (x:Option Nat):Int:=match x with|some u=>u|none=>-1
theorem zln (s:List UInt8) (i:Nat) (hi:i≤s.length) (hs:s.length≤Lim):Pure Tryz.prog 202 [.str s,.int .i64 i] (.int .i64 (zfK (Zo (s.drop i)))):=by
 refine Pure.go ir202 ck202 (Al4 _) fun KP Q hQ=>?_
 simp only[Lim] at hs
 have w0:IntKind.wrap .i64 ((s.length:Int)-i)=(s.length:Int)-i:=wrap64 (by omega) (by omega)
 by_cases h4:s.length<i+4
 ·have h4':((s.length:Int)-i<4)=True:=eq_true (by omega)
  have e:Zo (s.drop i)=none:=by
   cases hu:Zo (s.drop i) with
   | none=>rfl
   | some u=>have:=Yd _ _ _ _ hu;simp at this;omega
  simp(disch:=omega) only[ir202,w0,h4',steps,st2,pev,rev,oev,optr,ibin,sbin,ishf,bound,mmAll,mm2,mk,mkArgs,AV.cells,AV.boxable,AV.one,AV.strip1,fillA,fillS,Nat.reduceEqDiff,reduceCtorEq,↓reduceIte,Nat.reduceAdd,Int.reduceNeg,Nat.reduceLeDiff,Int.reduceToNat,Int.reduceEq,Int.reduceLT,Int.reduceLE,Int.reduceAdd,Io,Im,If,Il,Jt,Jf,AC.rg,Jm,Jl,Ja,Fm,Fl,Fa,Imv,Imb,Iai,Iei,Igi,Isi,Ipf,Ipt,Ilb,Iia,Ilt,Iap,Ink,Iln,Ils,Iad,Iex,Ibx,Ing]
  exact hQ _ _ _ _ nofun rfl (by simp[tupOf,envOf,AV.strip,AV.strip1,e,zfK])
 have h4':¬ ((s.length:Int)-i<4):=by omega
 have w1:IntKind.wrap .i64 ((i:Int)+4)=(i:Int)+4:=wrap64 (by omega) (by omega)
 simp(disch:=omega) only[ir202,w0,h4',w1,steps,st2,pev,rev,oev,optr,ibin,sbin,ishf,bound,mmAll,mm2,mk,mkArgs,AV.cells,AV.boxable,AV.one,AV.strip1,fillA,fillS,Nat.reduceEqDiff,reduceCtorEq,↓reduceIte,Nat.reduceAdd,Int.reduceNeg,Nat.reduceLeDiff,Int.reduceToNat,Int.reduceEq,Int.reduceLT,Int.reduceLE,Int.reduceAdd,Io,Im,If,Il,Jt,Jf,AC.rg,Jm,Jl,Ja,Fm,Fl,Fa,Imv,Imb,Iai,Iei,Igi,Isi,Ipf,Ipt,Ilb,Iia,Ilt,Iap,Ink,Iln,Ils,Iad,Iex,Ibx,Ing]
 refine goL_st (fun x:Nat×Nat=>[(5,.int .i64 (x.2:Int)),(6,.int .i64 ((i+x.1:Nat):Int))]) (fun x H'=>x.1≤4∧x.2<65536∧x.2<16 ^ x.1∧Zo (s.drop i)=Zb (4-x.1) (s.drop (i+x.1)) x.2) (fun x=>4-x.1) (0,0) (by simp(disch:=omega) only[Nat.add_zero,steps,st2,pev,rev,oev,optr,ibin,sbin,ishf,bound,mmAll,mm2,mk,mkArgs,AV.cells,AV.boxable,AV.one,AV.strip1,fillA,fillS,Nat.reduceEqDiff,reduceCtorEq,↓reduceIte,Nat.reduceAdd,Int.reduceNeg,Nat.reduceLeDiff,Int.reduceToNat,Int.reduceEq,Int.reduceLT,Int.reduceLE,Int.reduceAdd]) ⟨by simp,by simp,by simp,rfl⟩ ?_
 rintro⟨k,a⟩ H' J ⟨hk,ha,hp,hu⟩ hJ
 simp only at hk ha hp hu
 by_cases h1:k=4
 ·subst h1
  have h2:¬ (((i+4:Nat):Int)<(i:Int)+4):=by omega
  simp only[Nat.sub_self,Zb] at hu
  simp(disch:=omega) only[h2,w1,steps,st2,pev,rev,oev,optr,ibin,sbin,ishf,bound,mmAll,mm2,mk,mkArgs,AV.cells,AV.boxable,AV.one,AV.strip1,fillA,fillS,Nat.reduceEqDiff,reduceCtorEq,↓reduceIte,Nat.reduceAdd,Int.reduceNeg,Nat.reduceLeDiff,Int.reduceToNat,Int.reduceEq,Int.reduceLT,Int.reduceLE,Int.reduceAdd]
  exact hQ _ _ _ _ nofun rfl (by simp[tupOf,envOf,AV.strip,AV.strip1,hu,zfK])
 ·have h2:(((i+k:Nat):Int)<(i:Int)+4)=True:=eq_true (by omega)
  have hl:i+k<s.length:=by omega
  have hl':(((i+k:Nat):Int)<s.length)=True:=eq_true (by omega)
  have hl0:((0:Int)≤((i+k:Nat):Int))=True:=eq_true (by omega)
  obtain⟨c,hc⟩:∃ c,s[i+k]?=some c:=⟨_,Al9 hl⟩
  have hg:s.getD (i+k) 0=c:=by simp[List.getD,hc]
  have hdr:s.drop (i+k)=c::s.drop (i+k+1):=by
   rw[List.drop_eq_getElem_cons hl]
   have:=Al9 hl
   rw[hc] at this;rw[← Option.some.inj this]
  have hk1:4-k=(4-(k+1))+1:=by omega
  rw[hdr,hk1,Zb] at hu
  have pw:(16:Nat) ^ k≤4096:=by
   have:k=0∨k=1∨k=2∨k=3:=by omega
   rcases this with rfl|rfl|rfl|rfl<;>decide
  have hw:IntKind.wrap .i64 (((i+k:Nat):Int)+1)=((i+(k+1):Nat):Int):=by rw[wrap64 (by omega) (by omega)];omega
  have hsh:=zmy (a:=a) (by omega)
  have hcl:=c.toNat_lt
  have hx:=zjH c
  have step:∀ d,d<16→hexD c=some d→J ((setAll _ [(5,.int .i64 ((a*16+d:Nat):Int)),(6,.int .i64 ((i+(k+1):Nat):Int))]).keep [0,1,5,6]) H':=fun d hd e=>by
   have e1:a*16+d=16*a+d:=by omega
   refine hJ (k+1,a*16+d) H' (by simp;omega) ⟨by simp;omega,by simp;omega,?_,?_⟩
   ·simp only[Nat.pow_succ];omega
   ·rw[hu,e];simp only;rw[e1];rfl
  by_cases d1:48≤c.toNat∧c.toNat≤57
  ·have e1:isD c=true:=by simp[isD,d1]
   rw[if_pos d1] at hx
   have o1:=zkY (a:=a) (b:=c.toNat-48) (by omega) (by omega)
   have s1:IntKind.wrap .i64 (IntKind.wrap .u8 ((c.toNat:Int)-48))=((c.toNat-48:Nat):Int):=by
    rw[wrap_u8 (by omega) (by omega),wrap64 (by omega) (by omega)];omega
   simp(disch:=omega) only[h2,hl',hl0,hg,w1,steps,st2,pev,rev,oev,optr,ibin,sbin,ishf,bound,mmAll,mm2,mk,mkArgs,AV.cells,AV.boxable,AV.one,AV.strip1,fillA,fillS,Nat.reduceEqDiff,reduceCtorEq,↓reduceIte,Nat.reduceAdd,Int.reduceNeg,Nat.reduceLeDiff,Int.reduceToNat,Int.reduceEq,Int.reduceLT,Int.reduceLE,Int.reduceAdd]
   refine goK_pure (zdm c) ?_
   rw[e1]
   simp(disch:=omega) only[hsh,s1,o1,hw,steps,st2,pev,rev,oev,optr,ibin,sbin,ishf,bound,mmAll,mm2,mk,mkArgs,AV.cells,AV.boxable,AV.one,AV.strip1,fillA,fillS,Nat.reduceEqDiff,reduceCtorEq,↓reduceIte,Nat.reduceAdd,Int.reduceNeg,Nat.reduceLeDiff,Int.reduceToNat,Int.reduceEq,Int.reduceLT,Int.reduceLE,Int.reduceAdd]
   exact goJ (step _ (by omega) hx) (by simp(disch:=omega) only[steps,st2,pev,rev,oev,optr,ibin,sbin,ishf,bound,mmAll,mm2,mk,mkArgs,AV.cells,AV.boxable,AV.one,AV.strip1,fillA,fillS,Nat.reduceEqDiff,reduceCtorEq,↓reduceIte,Nat.reduceAdd,Int.reduceNeg,Nat.reduceLeDiff,Int.reduceToNat,Int.reduceEq,Int.reduceLT,Int.reduceLE,Int.reduceAdd])
  ·have e1:isD c=false:=by simp[isD];omega
   rw[if_neg d1] at hx
   simp(disch:=omega) only[h2,hl',hl0,hg,w1,steps,st2,pev,rev,oev,optr,ibin,sbin,ishf,bound,mmAll,mm2,mk,mkArgs,AV.cells,AV.boxable,AV.one,AV.strip1,fillA,fillS,Nat.reduceEqDiff,reduceCtorEq,↓reduceIte,Nat.reduceAdd,Int.reduceNeg,Nat.reduceLeDiff,Int.reduceToNat,Int.reduceEq,Int.reduceLT,Int.reduceLE,Int.reduceAdd]
   refine goK_pure (zdm c) ?_
   rw[e1]
   by_cases d2:97≤c.toNat∧c.toNat≤102
   ·rw[if_pos d2] at hx
    have o1:=zkY (a:=a) (b:=c.toNat-87) (by omega) (by omega)
    have g1:((97:Int)≤c.toNat)=True:=eq_true (by omega)
    have g2:((c.toNat:Int)≤102)=True:=eq_true (by omega)
    have s1:IntKind.wrap .i64 (IntKind.wrap .u8 (IntKind.wrap .u8 ((c.toNat:Int)-97)+10))=((c.toNat-87:Nat):Int):=by
     rw[wrap_u8 (x:=(c.toNat:Int)-97) (by omega) (by omega),wrap_u8 (by omega) (by omega),wrap64 (by omega) (by omega)];omega
    simp(disch:=omega) only[g1,g2,hsh,s1,o1,hw,steps,st2,pev,rev,oev,optr,ibin,sbin,ishf,bound,mmAll,mm2,mk,mkArgs,AV.cells,AV.boxable,AV.one,AV.strip1,fillA,fillS,Nat.reduceEqDiff,reduceCtorEq,↓reduceIte,Nat.reduceAdd,Int.reduceNeg,Nat.reduceLeDiff,Int.reduceToNat,Int.reduceEq,Int.reduceLT,Int.reduceLE,Int.reduceAdd]
    exact goJ (step _ (by omega) hx) (by simp(disch:=omega) only[steps,st2,pev,rev,oev,optr,ibin,sbin,ishf,bound,mmAll,mm2,mk,mkArgs,AV.cells,AV.boxable,AV.one,AV.strip1,fillA,fillS,Nat.reduceEqDiff,reduceCtorEq,↓reduceIte,Nat.reduceAdd,Int.reduceNeg,Nat.reduceLeDiff,Int.reduceToNat,Int.reduceEq,Int.reduceLT,Int.reduceLE,Int.reduceAdd])
   ·rw[if_neg d2] at hx
    by_cases d3:65≤c.toNat∧c.toNat≤70
    ·rw[if_pos d3] at hx
     have o1:=zkY (a:=a) (b:=c.toNat-55) (by omega) (by omega)
     have g0:¬ ((97:Int)≤c.toNat):=by omega
     have g1:((65:Int)≤c.toNat)=True:=eq_true (by omega)
     have g2:((c.toNat:Int)≤70)=True:=eq_true (by omega)
     have s1:IntKind.wrap .i64 (IntKind.wrap .u8 (IntKind.wrap .u8 ((c.toNat:Int)-65)+10))=((c.toNat-55:Nat):Int):=by
      rw[wrap_u8 (x:=(c.toNat:Int)-65) (by omega) (by omega),wrap_u8 (by omega) (by omega),wrap64 (by omega) (by omega)];omega
     simp(disch:=omega) only[g0,g1,g2,hsh,s1,o1,hw,steps,st2,pev,rev,oev,optr,ibin,sbin,ishf,bound,mmAll,mm2,mk,mkArgs,AV.cells,AV.boxable,AV.one,AV.strip1,fillA,fillS,Nat.reduceEqDiff,reduceCtorEq,↓reduceIte,Nat.reduceAdd,Int.reduceNeg,Nat.reduceLeDiff,Int.reduceToNat,Int.reduceEq,Int.reduceLT,Int.reduceLE,Int.reduceAdd]
     exact goJ (step _ (by omega) hx) (by simp(disch:=omega) only[steps,st2,pev,rev,oev,optr,ibin,sbin,ishf,bound,mmAll,mm2,mk,mkArgs,AV.cells,AV.boxable,AV.one,AV.strip1,fillA,fillS,Nat.reduceEqDiff,reduceCtorEq,↓reduceIte,Nat.reduceAdd,Int.reduceNeg,Nat.reduceLeDiff,Int.reduceToNat,Int.reduceEq,Int.reduceLT,Int.reduceLE,Int.reduceAdd])
    ·rw[if_neg d3] at hx
     rw[hx] at hu
     simp only at hu
     by_cases g0:(97:Int)≤c.toNat
     ·have g2:¬ ((c.toNat:Int)≤102):=by omega
      by_cases g1:(65:Int)≤c.toNat
      ·have g3:¬ ((c.toNat:Int)≤70):=by omega
       simp(disch:=omega) only[g0,g1,g2,g3,steps,st2,pev,rev,oev,optr,ibin,sbin,ishf,bound,mmAll,mm2,mk,mkArgs,AV.cells,AV.boxable,AV.one,AV.strip1,fillA,fillS,Nat.reduceEqDiff,reduceCtorEq,↓reduceIte,Nat.reduceAdd,Int.reduceNeg,Nat.reduceLeDiff,Int.reduceToNat,Int.reduceEq,Int.reduceLT,Int.reduceLE,Int.reduceAdd]
       exact hQ _ _ _ _ nofun rfl (by simp[tupOf,envOf,AV.strip,AV.strip1,hu,zfK])
      ·omega
     ·by_cases g1:(65:Int)≤c.toNat
      ·have g3:¬ ((c.toNat:Int)≤70):=by omega
       simp(disch:=omega) only[g0,g1,g3,steps,st2,pev,rev,oev,optr,ibin,sbin,ishf,bound,mmAll,mm2,mk,mkArgs,AV.cells,AV.boxable,AV.one,AV.strip1,fillA,fillS,Nat.reduceEqDiff,reduceCtorEq,↓reduceIte,Nat.reduceAdd,Int.reduceNeg,Nat.reduceLeDiff,Int.reduceToNat,Int.reduceEq,Int.reduceLT,Int.reduceLE,Int.reduceAdd]
       exact hQ _ _ _ _ nofun rfl (by simp[tupOf,envOf,AV.strip,AV.strip1,hu,zfK])
      ·simp(disch:=omega) only[g0,g1,steps,st2,pev,rev,oev,optr,ibin,sbin,ishf,bound,mmAll,mm2,mk,mkArgs,AV.cells,AV.boxable,AV.one,AV.strip1,fillA,fillS,Nat.reduceEqDiff,reduceCtorEq,↓reduceIte,Nat.reduceAdd,Int.reduceNeg,Nat.reduceLeDiff,Int.reduceToNat,Int.reduceEq,Int.reduceLT,Int.reduceLE,Int.reduceAdd]
       exact hQ _ _ _ _ nofun rfl (by simp[tupOf,envOf,AV.strip,AV.strip1,hu,zfK])
structure DecOk (l:List UInt8) (c k:Nat):Prop where
 enc:y0 c=l.take k
 le:c≤1114111
 pos:1≤k
 len:k≤l.length
 one:k=1→c=(l.getD 0 0).toNat∧(l.getD 0 0).toNat<128
 high:k≠1→∀ x∈l.take k,128≤x.toNat
theorem YN {n:Nat} {b:UInt8} (h:n=b.toNat):UInt8.ofNat n=b:=UInt8.toNat_inj.1 (by rw[UInt8.toNat_ofNat',h];have:=b.toNat_lt;omega)
theorem zjG {b0 b1:UInt8} {t:List UInt8} (h0:b0.toNat / 32=6) (h1:b1.toNat / 64=2) (hc:128≤b0.toNat % 32*64+b1.toNat % 64):DecOk (b0::b1::t) (b0.toNat % 32*64+b1.toNat % 64) 2:=by
 refine⟨?_,by omega,by omega,by simp,fun h=>by omega,fun _ x hx=>?_⟩
 ·unfold y0
  rw[if_neg (by omega),if_pos (by omega)]
  simp only[zab,List.take_zero,List.cons.injEq,and_true]
  exact⟨YN (by omega),YN (by omega)⟩
 ·simp only[zab,List.take_zero,List.mem_cons,List.not_mem_nil,or_false] at hx
  rcases hx with rfl|rfl<;>omega
theorem zhI {b0 b1 b2:UInt8} {t:List UInt8} (h0:b0.toNat / 16=14) (h1:b1.toNat / 64=2) (h2:b2.toNat / 64=2) (hc:2048≤b0.toNat % 16*4096+b1.toNat % 64*64+b2.toNat % 64) :
  DecOk (b0::b1::b2::t) (b0.toNat % 16*4096+b1.toNat % 64*64+b2.toNat % 64) 3:=by
 refine⟨?_,by omega,by omega,by simp,fun h=>by omega,fun _ x hx=>?_⟩
 ·unfold y0
  rw[if_neg (by omega),if_neg (by omega),if_pos (by omega)]
  simp only[zab,List.take_zero,List.cons.injEq,and_true]
  exact⟨YN (by omega),YN (by omega),YN (by omega)⟩
 ·simp only[zab,List.take_zero,List.mem_cons,List.not_mem_nil,or_false] at hx
  rcases hx with rfl|rfl|rfl<;>omega
theorem zh9 {b0 b1 b2 b3:UInt8} {t:List UInt8} (h0:b0.toNat / 8=30) (h1:b1.toNat / 64=2) (h2:b2.toNat / 64=2) (h3:b3.toNat / 64=2)
  (hc:65536≤b0.toNat % 8*262144+b1.toNat % 64*4096+b2.toNat % 64*64+b3.toNat % 64) (hd:b0.toNat % 8*262144+b1.toNat % 64*4096+b2.toNat % 64*64+b3.toNat % 64≤1114111) :
  DecOk (b0::b1::b2::b3::t) (b0.toNat % 8*262144+b1.toNat % 64*4096+b2.toNat % 64*64+b3.toNat % 64) 4:=by
 refine⟨?_,by omega,by omega,by simp,fun h=>by omega,fun _ x hx=>?_⟩
 ·unfold y0
  rw[if_neg (by omega),if_neg (by omega),if_neg (by omega)]
  simp only[zab,List.take_zero,List.cons.injEq,and_true]
  exact⟨YN (by omega),YN (by omega),YN (by omega),YN (by omega)⟩
 ·simp only[zab,List.take_zero,List.mem_cons,List.not_mem_nil,or_false] at hx
  rcases hx with rfl|rfl|rfl|rfl<;>omega
theorem zgB {l:List UInt8} (hne:l≠[]) (h:decodeL l≠(65533,1)):DecOk l (decodeL l).1 (decodeL l).2:=by
 rw[decodeL_N] at h ⊢
 obtain⟨b0,t,rfl⟩:∃ b0 t,l=b0::t:=by cases l with|nil=>exact absurd rfl hne|cons a b=>exact⟨a,b,rfl⟩
 simp only[List.getD_cons_zero,List.getD_cons_succ] at h ⊢
 unfold decodeN at h ⊢
 split at h
 ·rename_i h0
  rw[if_pos h0]
  refine⟨?_,by simp only;omega,by simp,by simp,fun _=>⟨by simp,by simpa using h0⟩,fun h=>absurd rfl h⟩
  simp only
  unfold y0
  rw[if_pos (by omega)]
  simp only[zab,List.take_zero,List.cons.injEq,and_true]
  exact YN rfl
 ·rename_i h0
  rw[if_neg h0]
  split at h
  ·rename_i h1
   rw[if_pos h1]
   split at h
   ·rename_i h2
    rw[if_pos h2]
    obtain⟨b1,t,rfl⟩:∃ b1 r,t=b1::r:=by cases t with|nil=>simp at h1|cons a b=>exact⟨a,b,rfl⟩
    exact zjG h1.1 (by simpa using h1.2.2) (by simpa using h2)
   ·exact absurd rfl h
  ·rename_i h1
   rw[if_neg h1]
   split at h
   ·rename_i h2
    rw[if_pos h2]
    split at h
    ·rename_i h3
     rw[if_pos h3]
     obtain⟨b1,t,rfl⟩:∃ b1 r,t=b1::r:=by cases t with|nil=>simp at h2|cons a b=>exact⟨a,b,rfl⟩
     obtain⟨b2,t,rfl⟩:∃ b2 r,t=b2::r:=by cases t with|nil=>simp at h2|cons a b=>exact⟨a,b,rfl⟩
     exact zhI h2.1 (by simpa using h2.2.1.2) (by simpa using h2.2.2.2) (by simpa using h3.1)
    ·exact absurd rfl h
   ·rename_i h2
    rw[if_neg h2]
    split at h
    ·rename_i h3
     rw[if_pos h3]
     split at h
     ·rename_i h4
      rw[if_pos h4]
      obtain⟨b1,t,rfl⟩:∃ b1 r,t=b1::r:=by cases t with|nil=>simp at h3|cons a b=>exact⟨a,b,rfl⟩
      obtain⟨b2,t,rfl⟩:∃ b2 r,t=b2::r:=by cases t with|nil=>simp at h3|cons a b=>exact⟨a,b,rfl⟩
      obtain⟨b3,t,rfl⟩:∃ b3 r,t=b3::r:=by cases t with|nil=>simp at h3|cons a b=>exact⟨a,b,rfl⟩
      exact zh9 h3.1 (by simpa using h3.2.1.2) (by simpa using h3.2.2.1.2) (by simpa using h3.2.2.2.2) (by simpa using h4.1) (by have:=h4.2;simp at this ⊢;omega)
     ·exact absurd rfl h
    ·exact absurd rfl h
theorem zjO {l:List UInt8} (hne:l≠[]) (hv:validD l=true):DecOk l (zy l).1 (zy l).2∧validD (l.drop (zy l).2)=true:=by
 rw[validD_step l hne] at hv
 split at hv
 ·cases hv
 ·rename_i h
  have h':decodeL l≠(65533,1):=fun e=>h ⟨by rw[e],by rw[e]⟩
  have e:zy l=decodeL l:=by unfold zy;rw[if_neg hne,if_neg h']
  rw[e]
  exact⟨zgB hne h',hv⟩
theorem zcz {may:UInt8→Bool}:∀(n m:Nat) (t:List UInt8) (q:Sd),t.length<n→t.length<m→Z1 may n t q=Z1 may m t q
 | 0,_,_,_,h,_=>by omega
 | _,0,_,_,_,h=>by omega
 | _+1,_+1,[],_,_,_=>rfl
 | n+1,m+1,c::t,q,h1,h2=>by
  simp only[Al2] at h1 h2
  simp only[Z1]
  split
  ·rfl
  ·split
   ·cases he:Zx q t with
    | none=>rfl
    | some x =>
     have:=(zcb (q':=x.1) (t':=x.2) he).2
     exact zcz n m x.2 x.1 (by omega) (by omega)
   ·split
    ·exact zcz n m t _ (by omega) (by omega)
    ·rfl
def zah (may:UInt8→Bool) (t:List UInt8) (q:Sd):Option (Sd×List UInt8):=Z1 may (t.length+1) t q
theorem zg1 (may:UInt8→Bool) (t:List UInt8) (q:Sd):zah may (34::t) q=some (zS q,t):=by simp[zah,Z1]
theorem za3 (may:UInt8→Bool) (t:List UInt8) (q:Sd):zah may (92::t) q=match Zx q t with|none=>none|some (q',t')=>zah may t' q':=by
 unfold zah
 simp only[Al2,Z1]
 rw[if_neg (by decide),if_pos trivial]
 cases he:Zx q t with
 | none=>rfl
 | some x =>
  have:=(zcb (q':=x.1) (t':=x.2) he).2
  exact zcz _ _ x.2 x.1 (by omega) (by omega)
theorem zdF (may:UInt8→Bool) {c:UInt8} (t:List UInt8) (q:Sd) (h1:c≠34) (h2:c≠92):zah may (c::t) q=if may c then zah may t (q.put c) else none:=by
 unfold zah
 simp only[Al2,Z1]
 rw[if_neg h1,if_neg h2]
theorem zdX {may:UInt8→Bool}:∀(n:Nat) (t:List UInt8) (q q':Sd) (t':List UInt8),q.ok=false→Z1 may n t q=some (q',t')→q'.ok=false
 | 0,_,_,_,_,_,h=>by cases h
 | _+1,[],_,_,_,_,h=>by cases h
 | n+1,c::t,q,q',t',hq,h=>by
  simp only[Z1] at h
  split at h
  ·simp only[Al1,Al8] at h
   rw[← h.1];simp[zS,hq]
  ·split at h
   ·cases he:Zx q t with
    | none=>simp[he] at h
    | some x =>
     obtain⟨q1,t1⟩:=x
     simp only[he] at h
     refine zdX n t1 q1 q' t' ?_ h
     cases t with
     | nil=>cases he
     | cons d t =>
      simp only[Zx] at he
      split at he
      ·cases hu:Zo t with
       | none=>simp[hu] at he
       | some u=>simp only[hu,yd,Al1,Al8] at he;rw[← he.1];exact hq
      ·split at he
       ·cases he
       ·simp only[Al1,Al8] at he;rw[← he.1];simp[Sd.put,zS,hq]
   ·split at h
    ·exact zdX n t _ q' t' (by simp[Sd.put,zS,hq]) h
    ·cases h
def zdc (x:Option (Sd×List UInt8)):Option (List UInt8×List UInt8):=match x with
 | some (q,t')=>if q.ok then some (q.b,t') else none
 | none=>none
theorem zk5 (may:UInt8→Bool) (t:List UInt8):Zc may t=zdc (zah may t ⟨[],[],true⟩):=rfl
theorem zfG {may:UInt8→Bool} {t:List UInt8} {q:Sd} (h:q.ok=false):zdc (zah may t q)=none:=by
 cases hx:zah may t q with
 | none=>rfl
 | some x =>
  have:=zdX _ _ _ x.1 x.2 h hx
  simp[zdc,this]
theorem zeL {may:UInt8→Bool} {c:UInt8} {t out:List UInt8} {us:List Nat} (hj:zp us=none) (hc:∀ r,c=92→t≠117::r):zdc (zah may (c::t) ⟨out,us,true⟩)=none:=by
 by_cases h1:c=34
 ·subst h1;rw[zg1];simp[zdc,zS,hj]
 ·by_cases h2:c=92
  ·subst h2
   rw[za3]
   cases t with
   | nil=>rfl
   | cons d t =>
    have hd:d≠117:=fun e=>hc t rfl (by rw[e])
    simp only[Zx]
    rw[if_neg hd]
    split
    ·rename_i h;split at h
     ·rfl
     ·cases h
    ·rename_i h
     split at h
     ·cases h
     ·simp only[Al1,Al8] at h
      exact zfG (by rw[← h.1];simp[Sd.put,zS,hj])
  ·rw[zdF may t _ h1 h2]
   split
   ·exact zfG (by simp[Sd.put,zS,hj])
   ·rfl
def z8 (c:UInt8):Bool:=decide (c≠10)&&decide (c≠13)
theorem zeA:∀(bs t out:List UInt8),(∀ x∈bs,128≤x.toNat)→zah z8 (bs++t) ⟨out,[],true⟩=zah z8 t ⟨out++bs,[],true⟩
 | [],t,out,_=>by simp
 | b::bs,t,out,h=>by
  have hb:=h b (.head _)
  have h0:∀ n:UInt8,n.toNat<128→b≠n:=fun n hn e=>by subst e;omega
  rw[Al6,zdF z8 _ _ (h0 34 (by decide)) (h0 92 (by decide)),if_pos (by simp[z8,h0 10 (by decide),h0 13 (by decide)])]
  have e:Sd.put ⟨out,[],true⟩ b=⟨out++[b],[],true⟩:=by simp[Sd.put,zS,zp]
  rw[e,zeA bs t (out++[b]) fun x hx=>h x (.tail _ hx)]
  simp
theorem zhH {l out:List UInt8} {us:List Nat} {tt:List UInt8} (hj:zp us=some tt) {c k:Nat} (h:DecOk l c k) (hne:l≠[]) (h1:l.getD 0 0≠34) (h2:l.getD 0 0≠92) (h3:z8 (l.getD 0 0)=true) :
  zah z8 l ⟨out,us,true⟩=zah z8 (l.drop k) ⟨out++tt++l.take k,[],true⟩:=by
 obtain⟨b,t,rfl⟩:∃ b t,l=b::t:=by cases l with|nil=>exact absurd rfl hne|cons a b=>exact⟨a,b,rfl⟩
 simp only[List.getD_cons_zero] at h1 h2 h3
 obtain⟨m,rfl⟩:∃ m,k=m+1:=⟨k-1,by have:=h.pos;omega⟩
 rw[zdF z8 t _ h1 h2,if_pos h3]
 have e:Sd.put ⟨out,us,true⟩ b=⟨out++tt++[b],[],true⟩:=by simp[Sd.put,zS,hj]
 rw[e,List.drop_succ_cons,zab]
 by_cases hm:m=0
 ·subst hm;simp
 ·have hh:=h.high (by omega)
  rw[zab] at hh
  have:=zeA (t.take m) (t.drop m) (out++tt++[b]) fun x hx=>hh x (.tail _ hx)
  rw[List.take_append_drop] at this
  rw[this];simp
def zce (n:Nat) (x:Option (List UInt8×List UInt8)):AV:=match x with
 | some (b,t')=>.tup [.str b,.int .i64 ((n-t'.length:Nat):Int),.bool true]
 | none=>.tup [.str [],.int .i64 0,.bool false]
structure QI (s t0:List UInt8) (x:List UInt8×List UInt8×List Nat×Own) (H:Heap):Prop where
 pos:∃ p,p++x.1=s
 val:validD x.1=true
 eq:Zc z8 t0=zdc (zah z8 x.1 ⟨x.2.1,x.2.2.1,true⟩)
 len:x.2.1.length+4*x.2.2.1.length+4*x.1.length≤4*s.length
 own:Owned H x.2.2.2 x.2.2.1.length 1
theorem zj4 (us:List Nat) (v:Nat):cU us++[[AV.int .i64 (v:Int)]]=cU (us++[v]):=by simp[cU]
set_option maxHeartbeats 2000000 in
theorem zkq (s:List UInt8) (i:Nat) (hi:i≤s.length) (hv:validD (s.drop i)=true) (hs:s.length≤Zi) :
  Pure Tryz.prog 156 [.str s,.int .i64 i] (zce s.length (Zc z8 (s.drop i))):=by
 refine Pure.go ir156 ck156 (Al4 _) fun KP Q hQ=>?_
 simp only[Zi] at hs
 generalize ht0:s.drop i=t0 at hv hQ ⊢
 have hi2:(i:Int)=((s.length-t0.length:Nat):Int):=by rw[← ht0,zU];omega
 rw[hi2]
 simp(disch:=omega) only[ir156,go_sem]
 refine goL_st (fun x:List UInt8×List UInt8×List Nat×Own=>[(1,.int .i64 ((s.length-x.1.length:Nat):Int)),(7,.str x.2.1),(8,.sl x.2.2.2 1 (cU x.2.2.1))]) (fun x H=>QI s t0 x H) (fun x=>x.1.length) (t0,[],[],.nil) (by simp(disch:=omega) only[cU,go_sem]) ⟨⟨s.take i,by rw[← ht0];simp⟩,hv,zk5 _ _,by simp;rw[← ht0];simp;omega,rfl⟩ ?_
 rintro⟨t,out,us,o⟩ H J ⟨⟨p,hp⟩,hvt,he,hlen,ho⟩ hJ
 simp only at hp hvt he hlen ho
 have hpl:p.length+t.length=s.length:=by rw[← hp];simp
 have epos:s.length-t.length=p.length:=by omega
 rw[epos]
 have hul:=zeS us
 have bad:Zc z8 t0=none→(zce s.length (Zc z8 t0))=.tup [.str [],.int .i64 0,.bool false]:=fun e=>by rw[e];rfl
 cases t with
 | nil =>
  have h1:((s.length:Int)≤p.length)=True:=eq_true (by simp at hpl;omega)
  have hb:=bad (by rw[he];rfl)
  rw[hb] at hQ
  simp(disch:=omega) only[h1,go_sem]
  exact hQ _ _ _ _ nofun rfl (by simp[tupOf,envOf,AV.strip,AV.strip1])
 | cons c r =>
  have hpl':p.length+r.length+1=s.length:=by simp at hpl;omega
  have h1:¬ ((s.length:Int)≤p.length):=by omega
  have hlt:((p.length:Int)<s.length)=True:=eq_true (by omega)
  have hg:s.getD p.length 0=c:=by rw[← hp];simp
  have hdp:s.drop p.length=c::r:=by rw[← hp];simp
  have w1:IntKind.wrap .i64 ((p.length:Int)+1)=(p.length:Int)+1:=wrap64 (by omega) (by omega)
  have w2:IntKind.wrap .i64 ((p.length:Int)+2)=((p.length+2:Nat):Int):=by rw[wrap64 (by omega) (by omega)];omega
  have w6:IntKind.wrap .i64 ((p.length:Int)+6)=(p.length:Int)+6:=wrap64 (by omega) (by omega)
  have n1:((p.length:Int)+1).toNat=p.length+1:=by omega
  simp only[Al2] at hlen
  by_cases c92:c=92
  ·have g92:((c.toNat:Int)=92)=True:=eq_true (by rw[c92];rfl)
   cases r with
   | nil =>
    have h2:¬ ((p.length:Int)+1<s.length):=by simp at hpl';omega
    have h3:((s.length:Int)≤(p.length:Int)+1)=True:=eq_true (by simp at hpl';omega)
    have g34:¬ ((c.toNat:Int)=34):=by rw[c92];decide
    have g10:¬ ((c.toNat:Int)=10):=by rw[c92];decide
    have g13:¬ ((c.toNat:Int)=13):=by rw[c92];decide
    have hb:=bad (by rw[he,c92,za3];rfl)
    rw[hb] at hQ
    simp(disch:=omega) only[h1,hlt,hg,g92,w1,h2,go_sem]
    refine goK_pure (Pure.low (ziJ us (by omega))) ?_
    cases hj:zp us with
    | none =>
     simp(disch:=omega) only[Option.getD_none,Option.isSome_none,go_sem]
     exact hQ _ _ _ _ nofun rfl (by simp[tupOf,envOf,AV.strip,AV.strip1])
    | some tt =>
     have:=Yf us tt hj
     simp(disch:=omega) only[h1,hlt,hg,g92,g34,g10,g13,w1,h3,Option.getD_some,Option.isSome_some,go_sem]
     exact hQ _ _ _ _ nofun rfl (by simp[tupOf,envOf,AV.strip,AV.strip1])
   | cons d r =>
    have hpl2:p.length+r.length+2=s.length:=by simp at hpl';omega
    have h2:((p.length:Int)+1<s.length)=True:=eq_true (by omega)
    have h3:¬ ((s.length:Int)≤(p.length:Int)+1):=by omega
    have hg2:s.getD (p.length+1) 0=d:=by rw[← hp];simp
    have hl0:((0:Int)≤(p.length:Int)+1)=True:=eq_true (by omega)
    have hvd:validD (d::r)=true:=by rw[c92,validD_cons _ _ (by decide)] at hvt;exact hvt
    simp only[Al2] at hlen
    by_cases d117:d=117
    ·have gd:((d.toNat:Int)=117)=True:=eq_true (by rw[d117];rfl)
     have hdp2:s.drop (p.length+2)=r:=by rw[← hp,c92,d117];simp
     have hvr:validD r=true:=by rw[d117,validD_cons _ _ (by decide)] at hvd;exact hvd
     simp(disch:=omega) only[h1,hlt,hg,g92,w1,w2,h2,n1,hg2,hl0,gd,go_sem]
     refine goK_pure (zln s (p.length+2) (by omega) (by simp only[Lim];omega)) ?_
     rw[hdp2]
     cases hu:Zo r with
     | none =>
      have hb:=bad (by rw[he,c92,za3,d117];simp[Zx,hu,zdc])
      rw[hb] at hQ
      simp(disch:=omega) only[zfK,go_sem]
      exact hQ _ _ _ _ nofun rfl (by simp[tupOf,envOf,AV.strip,AV.strip1])
     | some u =>
      have h4:=Yd _ _ _ _ hu
      have h5:=zi9 hu
      have h6:¬ ((u:Int)<0):=by omega
      have e:Zc z8 t0=zdc (zah z8 (r.drop 4) ⟨out,us++[u],true⟩):=by rw[he,c92,za3,d117];simp[Zx,hu]
      have h7:validD (r.drop 4)=true:=by rw[← validD_ascii 4 r (zcG 4 r 0 u hu)];exact hvr
      have e6:(p.length:Int)+6=((s.length-(r.drop 4).length:Nat):Int):=by rw[zU];omega
      simp(disch:=omega) only[zfK,h6,go_sem]
      refine goP_ownS (by rw[hul];exact ho) (by simp[hul];omega) (by simp[hul,maxLen];omega) fun o' H' hs=>?_
      have hs':=hs.own
      rw[hul] at hs'
      have nx:=hJ (r.drop 4,out,us++[u],o') H' (by simp;omega) ⟨⟨p++[92,117]++r.take 4,by rw[← hp,c92,d117];simp⟩,h7,e,by simp;omega,by simpa using hs'⟩
      simp(disch:=omega) only[w6,zj4,go_sem]
      exact goJ nx (by simp(disch:=omega) only[e6,go_sem])
    ·have gd:¬ ((d.toNat:Int)=117):=fun e=>d117 (UInt8.toNat_inj.1 (by have:(117:UInt8).toNat=117:=rfl;omega))
     have g34:¬ ((c.toNat:Int)=34):=by rw[c92];decide
     have g10:¬ ((c.toNat:Int)=10):=by rw[c92];decide
     have g13:¬ ((c.toNat:Int)=13):=by rw[c92];decide
     simp(disch:=omega) only[h1,hlt,hg,g92,w1,h2,n1,hg2,hl0,gd,go_sem]
     refine goK_pure (Pure.low (ziJ us (by omega))) ?_
     cases hj:zp us with
     | none =>
      have hb:=bad (by rw[he];exact zeL hj fun r' _ e=>d117 (List.cons.inj e).1)
      rw[hb] at hQ
      simp(disch:=omega) only[Option.getD_none,Option.isSome_none,go_sem]
      exact hQ _ _ _ _ nofun rfl (by simp[tupOf,envOf,AV.strip,AV.strip1])
     | some tt =>
      have htl:=Yf us tt hj
      simp(disch:=omega) only[h1,hlt,hg,g92,g34,g10,g13,w1,h3,h2,n1,hg2,hl0,Option.getD_some,Option.isSome_some,go_sem]
      refine goK_pure (zgH YA d (by decide)) ?_
      have hix:=zff YA d
      by_cases hk:Lib.indexByte YA d<0
      ·have hb:=bad (by rw[he,c92,za3];simp[Zx,d117,hk,zdc])
       rw[hb] at hQ
       simp(disch:=omega) only[hk,go_sem]
       exact hQ _ _ _ _ nofun rfl (by simp[tupOf,envOf,AV.strip,AV.strip1])
      ·have e:Zc z8 t0=zdc (zah z8 r ⟨out++tt++[zgu.getD (Lib.indexByte YA d).toNat 0],[],true⟩):=by
        rw[he,c92,za3];simp[Zx,d117,hk,Sd.put,zS,hj]
       have hlo:=zgZ d hk
       have h8:(Lib.indexByte YA d<8)=True:=eq_true hix.2
       have h9:((0:Int)≤Lib.indexByte YA d)=True:=eq_true (by omega)
       have eb:byts [[.int .u8 (([34,92,47,8,12,10,13,9]:List UInt8).getD (Lib.indexByte YA d).toNat 0).toNat]]=some [zgu.getD (Lib.indexByte YA d).toNat 0]:=YE [_]
       have e6:(p.length:Int)+2=((s.length-r.length:Nat):Int):=by omega
       have hvr:validD r=true:=by rw[validD_cons _ _ hlo.1] at hvd;exact hvd
       have nx:=hJ (r,out++tt++[zgu.getD (Lib.indexByte YA d).toNat 0],[],.nil) H (by simp;omega) ⟨⟨p++[c,d],by rw[← hp];simp⟩,hvr,e,by simp;omega,rfl⟩
       have w2':IntKind.wrap .i64 ((p.length:Int)+2)=(p.length:Int)+2:=wrap64 (by omega) (by omega)
       simp(disch:=omega) only[hk,h8,h9,eb,w2',Al5,go_sem]
       exact goJ nx (by simp(disch:=omega) only[e6,cU,go_sem])
  ·have g92:¬ ((c.toNat:Int)=92):=fun e=>c92 (UInt8.toNat_inj.1 (by have:(92:UInt8).toNat=92:=rfl;omega))
   simp(disch:=omega) only[h1,hlt,hg,g92,go_sem]
   refine goK_pure (Pure.low (ziJ us (by omega))) ?_
   cases hj:zp us with
   | none =>
    have hb:=bad (by rw[he];exact zeL hj fun r' e=>absurd e c92)
    rw[hb] at hQ
    simp(disch:=omega) only[Option.getD_none,Option.isSome_none,go_sem]
    exact hQ _ _ _ _ nofun rfl (by simp[tupOf,envOf,AV.strip,AV.strip1])
   | some tt =>
    have htl:=Yf us tt hj
    by_cases c34:c=34
    ·have g34:((c.toNat:Int)=34)=True:=eq_true (by rw[c34];rfl)
     have e:Zc z8 t0=some (out++tt,r):=by rw[he,c34,zg1];simp[zdc,zS,hj]
     have e6:(p.length:Int)+1=((s.length-r.length:Nat):Int):=by omega
     have hb:zce s.length (Zc z8 t0)=.tup [.str (out++tt),.int .i64 ((s.length-r.length:Nat):Int),.bool true]:=by rw[e];rfl
     rw[hb] at hQ
     simp(disch:=omega) only[h1,hlt,hg,g34,w1,Option.getD_some,Option.isSome_some,go_sem]
     exact hQ _ _ _ _ nofun rfl (by simp[tupOf,envOf,AV.strip,AV.strip1,e6])
    ·have g34:¬ ((c.toNat:Int)=34):=fun e=>c34 (UInt8.toNat_inj.1 (by have:(34:UInt8).toNat=34:=rfl;omega))
     by_cases c10:c=10
     ·have g10:((c.toNat:Int)=10)=True:=eq_true (by rw[c10];rfl)
      have hb:=bad (by rw[he,zdF _ _ _ c34 c92,if_neg (by rw[c10];decide)];rfl)
      rw[hb] at hQ
      simp(disch:=omega) only[h1,hlt,hg,g34,g10,Option.getD_some,Option.isSome_some,go_sem]
      exact hQ _ _ _ _ nofun rfl (by simp[tupOf,envOf,AV.strip,AV.strip1])
     have g10:¬ ((c.toNat:Int)=10):=fun e=>c10 (UInt8.toNat_inj.1 (by have:(10:UInt8).toNat=10:=rfl;omega))
     by_cases c13:c=13
     ·have g13:((c.toNat:Int)=13)=True:=eq_true (by rw[c13];rfl)
      have hb:=bad (by rw[he,zdF _ _ _ c34 c92,if_neg (by rw[c13];decide)];rfl)
      rw[hb] at hQ
      simp(disch:=omega) only[h1,hlt,hg,g34,g10,g13,Option.getD_some,Option.isSome_some,go_sem]
      exact hQ _ _ _ _ nofun rfl (by simp[tupOf,envOf,AV.strip,AV.strip1])
     have g13:¬ ((c.toNat:Int)=13):=fun e=>c13 (UInt8.toNat_inj.1 (by have:(13:UInt8).toNat=13:=rfl;omega))
     simp(disch:=omega) only[h1,hlt,hg,g34,g10,g13,g92,Option.getD_some,Option.isSome_some,go_sem]
     refine goK_pure (zky s p.length (by omega) (by simp only[Lim];omega)) ?_
     rw[hdp]
     obtain⟨hok,hvr⟩:=zjO (l:=c::r) (by simp) hvt
     have e:=zhH (out:=out) hj hok (by simp) (by simpa using c34) (by simpa using c92) (by simp[z8,c10,c13])
     have hkp:=hok.pos
     have hkl:=hok.len
     have hle:=hok.le
     have henc:=hok.enc
     have hel:=(ZW (zy (c::r)).1).1
     simp only[Al2] at hkl
     generalize (zy (c::r)).1=cc at *
     generalize (zy (c::r)).2=k at *
     have w7:IntKind.wrap .i64 ((p.length:Int)+(k:Int))=(p.length:Int)+k:=wrap64 (by omega) (by omega)
     have hk1:¬ ((k:Int)<1):=by omega
     have e6:(p.length:Int)+k=((s.length-((c::r).drop k).length:Nat):Int):=by simp;omega
     have htk:((c::r).take k).length=k:=by simp;omega
     have nx:=hJ ((c::r).drop k,out++tt++(c::r).take k,[],.nil) H (by simp;omega) ⟨⟨p++(c::r).take k,by rw[← hp];simp⟩,hvr,by rw[he,e],by simp only[Al5,htk,zU,Al2,Al3];omega,rfl⟩
     simp(disch:=omega) only[go_sem]
     refine goK_pure (zjS cc hle) ?_
     rw[henc]
     have hmm:(if (1:Int) > (k:Int) then (1:Int) else k)=k:=if_neg (by omega)
     simp(disch:=omega) only[w7,hk1,hmm,htk,Al5,go_sem]
     exact goJ nx (by simp(disch:=omega) only[e6,cU,go_sem])
def ZE:List UInt8:=[46,46,46]
def Z2:List UInt8:=[33,36,38,40,41,58,61,64,91,93,123,124,125]
def ziN:List UInt8→Bool
 | [c]=>decide (0≤Lib.indexByte Z2 c)
 | _=>false
def Zn (t:Tok):Bool:=if t.k=1 then decide (t.s=ZE)||ziN t.s else if t.k=2 then zaD t.s else if t.k=3∨t.k=4 then decide (zao t.s=t.k) else if t.k=5 then validD t.s else false
def zM:List UInt8→List UInt8→List (List UInt8)
 | cur,[]=>[cur]
 | cur,[c]=>if c=10∨c=13 then [cur,[]] else [cur++[c]]
 | cur,c::d::r=>if c=10 then cur::zM [] (d::r) else if c=13 then (if d=10 then cur::zM [] r else cur::zM [] (d::r)) else zM (cur++[c]) (d::r)
def zo (s:List UInt8):List (List UInt8):=zM [] s
def zbC (c:UInt8):Bool:=decide (c=9)||decide (c=32)
def Za (s:List UInt8):Nat:=(s.takeWhile zbC).length
def zA (s:List UInt8):Bool:=s.all zbC
def zaf:List (List UInt8)→Int→Int
 | [],a=>a
 | s::r,a=>zaf r (if zA s then a else if a<0∨(Za s:Int)<a then Za s else a)
def indM (l:List (List UInt8)):Int:=zaf l.tail (-1)
def YJ (l:List (List UInt8)):List (List UInt8):=match l with
 | []=>[]
 | x::r=>x::r.map fun s=>s.drop (indM l).toNat
def Zs (l:List (List UInt8)):List (List UInt8):=(l.reverse.dropWhile zA).reverse
def zK (raw:List UInt8):List UInt8:=Lib.join (Zs ((YJ (zo raw)).dropWhile zA)) [10]
def zF:List UInt8:=[34,34,34]
def zc5:List UInt8:=[92,34,34,34]
def zfe:List UInt8:=[239,187,191]
def yH:Nat→List UInt8→List UInt8→Option (List UInt8×List UInt8)
 | 0,_,_=>none
 | n+1,raw,t=>match t with
  | []=>none
  | c::r=>if zF.isPrefixOf (c::r) then some (raw,r.drop 2) else if zc5.isPrefixOf (c::r) then yH n (raw++zF) (r.drop 3) else yH n (raw++[c]) r
def zJ (c:UInt8):Bool:=!(decide (c=10)||decide (c=13))
def Zl:List UInt8→Nat
 | []=>0
 | c::r=>if c=9∨c=10∨c=13∨c=32∨c=44 then 1 else if zfe.isPrefixOf (c::r) then 3 else if c=35 then 1+(r.takeWhile zJ).length else 0
def yi (s:List UInt8):Nat:=(s.takeWhile fun c=>isL c||isD c).length
def yp:List UInt8→Option (Tok×List UInt8)
 | []=>none
 | c::r=>if zF.isPrefixOf (c::r) then (yH (r.length+1) [] (r.drop 2)).map fun x=>(⟨5,zK x.1⟩,x.2)
  else if c=34 then (Zc z8 r).map fun x=>(⟨5,x.1⟩,x.2)
  else if ZE.isPrefixOf (c::r) then some (⟨1,ZE⟩,r.drop 2)
  else if 0≤Lib.indexByte Z2 c then some (⟨1,[c]⟩,r)
  else if isL c then some (⟨2,(c::r).take (yi (c::r))⟩,(c::r).drop (yi (c::r)))
  else if (zL (c::r)).1=0 then none
  else if ((c::r).drop (zL (c::r)).1).head?.any fun d=>isL d||isD d||decide (d=46) then none
  else some (⟨(zL (c::r)).2,(c::r).take (zL (c::r)).1⟩,(c::r).drop (zL (c::r)).1)
def ZX:Nat→List Tok→List UInt8→Except Int (List Tok)
 | 0,_,_=>.error 0
 | n+1,l,t=>if t=[] then .ok l else if Zl t≠0 then ZX n l (t.drop (Zl t)) else match yp t with
  | none=>.error 2
  | some (x,t')=>ZX n (l++[x]) t'
def Y4 (c:Nat):Bool:=decide (c=9)||(decide (c=10)||(decide (c=13)||(decide (32≤c)&&decide (c≤65535))))
def zd0:Nat→List UInt8→Bool
 | 0,_=>true
 | n+1,l=>if l=[] then true else decide (0<(zy l).2)&&(Y4 (zy l).1&&zd0 n (l.drop (zy l).2))
def zbm (s:List UInt8):Bool:=zd0 s.length s
def yB (s:List UInt8):Except Int (List Tok):=if 8192<s.length then .error 3 else if zbm s then ZX (s.length+1) [] s else .error 2
theorem zlI (s:List UInt8):decodeGo ⟨s.toArray⟩=if s=[] then (65533,0) else decodeL s:=by
 unfold decodeGo
 cases s with
 | nil=>rfl
 | cons c r=>rw[if_neg (by simp[ByteArray.size]),if_neg (by simp)];rfl
theorem zkf (s:List UInt8):Pure Tryz.prog 169 [.str s] (.tup [.int .i32 ((if s=[] then (65533,0) else decodeL s:Nat×Nat).1),.int .i64 ((if s=[] then (65533,0) else decodeL s:Nat×Nat).2)]):=by
 refine Pure.of_below fun γ w vs ht hv=>?_
 rw[zkm hv]
 have h:=Tryz.utf8_DecodeRuneInString ⟨s.toArray⟩ w (ziB ht)
 rw[zlI] at h
 exact Calls.mono h fun e w' ⟨he,hb⟩=>⟨hb,_,he,zc1 (.int _ _) (.int _ _)⟩
theorem zgO:Go.Proofs.Builder.Extra Tryz.prog Tryz.lays156_ren where
 sizeBuilder:=by kernel_rfl
 liesBuilder:=by kernel_rfl
 t5:=Tryz.underlying5
 a5:=Tryz.isAgg5
 z5:=Tryz.sizeOf5
 v5:=Tryz.zeroValue5
 infoByte:=by kernel_rfl
 cellsByte:=by kernel_rfl
 sizeByte:=by kernel_rfl
 neB5:=by decide
theorem Y1 (l:List (List UInt8)) (sep:List UInt8) (hl:(Lib.join l sep).length≤140737488355328) (hn:l.length≤140737488355328):Pure Tryz.prog 63 [.sl .no 1 (cT l),.str sep] (.str (Lib.join l sep)):=by
 refine Pure.of_below fun γ w vs ht hv=>?_
 obtain⟨hlv,hr⟩:=hv
 match vs,hlv with
 | [v,u],_ =>
  have h0:=hr 0 _ _ rfl rfl
  cases hr 1 _ _ rfl rfl
  generalize hx:cT l=xs at h0
  cases h0 with
  | slnil _ _ ho =>
   have:l=[]:=by cases l with|nil=>rfl|cons a b=>simp[cT] at hx
   subst this
   exact(Any.strings_Join_none Tryz.lays156 zgO none 0 ⟨sep.toArray⟩ w).mono fun e w' ⟨he,hw⟩=>⟨by rw[hw];exact RowKit.Below.refl _ _,_,he,.str _⟩
  | sl0 _ _ a ho =>
   have:l=[]:=by cases l with|nil=>rfl|cons a b=>simp[cT] at hx
   subst this
   exact(Any.strings_Join_none Tryz.lays156 zgO (some a) 0 ⟨sep.toArray⟩ w).mono fun e w' ⟨he,hw⟩=>⟨by rw[hw];exact RowKit.Below.refl _ _,_,he,.str _⟩
  | sl _ _ _ b off cap cv hc hm hu hcell hrr ho =>
   subst hx
   have hcl:=zbn l
   cases hl0:l with
   | nil =>
    subst hl0
    exact(Any.strings_Join_none Tryz.lays156 zgO (some ⟨b,off,none⟩) cap ⟨sep.toArray⟩ w).mono fun e w' ⟨he,hw⟩=>⟨by rw[hw];exact RowKit.Below.refl _ _,_,he,.str _⟩
   | cons x0 r0 =>
    have hcells:∀(j:Nat) x,(l.map fun s=>(⟨s.toArray⟩:ByteArray))[j]?=some x→w.cell? ⟨b,off+j,none⟩=some (.string x):=fun j x hj=>by
     rw[Zm,Yp] at hj
     obtain⟨s,h1,rfl⟩:=hj
     have g1:(cT l)[j]?=some [.str s]:=by simp[cT,h1]
     have h2:=hcell j _ g1 0 (by decide)
     have h3:=hrr j _ g1 0 (.str s) rfl
     have e:off+(j*1+0)=off+j:=by omega
     rw[e] at h2
     generalize cv j 0=y at h2 h3
     cases h3
     exact h2.1
    have hbk:b<w.heap.size:=by
     have:=hcells 0 ⟨x0.toArray⟩ (by rw[hl0];rfl)
     exact World.block_lt_of_cell? w _ this
    have hmap:(l.map fun s=>(⟨s.toArray⟩:ByteArray)).map (·.data.toList)=l:=by
     rw[List.map_map];exact(List.map_congr_left (g:=id) fun s _=>by simp).trans (List.map_id l)
    have h:=Any.strings_Join Tryz.lays156 zgO b off cap (l.map fun s=>(⟨s.toArray⟩:ByteArray)) ⟨sep.toArray⟩ w hcells hbk (by simpa using hn) (by rw[List.length_map];omega) (by rw[hmap];exact hl)
    rw[List.length_map,hmap] at h
    rw[← hl0,hcl]
    exact h.mono fun e w' ⟨he,hb⟩=>⟨hb,_,he,.str _⟩
theorem zmi (s:List UInt8) (i:Nat) (hi:i<s.length) (hs:s.length≤Lim):Pure Tryz.prog 115 [.str s,.int .i64 i] (.tup [.int .i64 (zy (s.drop i)).1,.int .i64 (zy (s.drop i)).2]):=by
 refine Pure.go ir115 ck115 (Al4 _) fun KP Q hQ=>?_
 simp only[Lim] at hs
 have hne:s.drop i≠[]:=fun e=>by have:=congrArg List.length e;simp at this;omega
 have h1:¬ ((i:Int)<0):=by omega
 have h2:¬ ((s.length:Int)≤i):=by omega
 have h3:((i:Int)≤s.length)=True:=eq_true (by omega)
 simp(disch:=omega) only[ir115,h1,h2,h3,go_sem]
 refine goK_pure (zkf (s.drop i)) ?_
 have hw:=decodeL_width (s.drop i)
 have hr:=decodeL_rune (s.drop i)
 unfold zy at hQ
 simp only[hne,if_false] at hQ ⊢
 generalize decodeL (s.drop i)=x at *
 obtain⟨c,k⟩:=x
 simp only at hw hr hQ
 have e:IntKind.wrap .i64 (c:Int)=c:=wrap64 (by omega) (by omega)
 by_cases hc:c=65533
 ·have g1:((c:Int)=65533)=True:=eq_true (by omega)
  by_cases hk:k<2
  ·have g2:((k:Int)<2)=True:=eq_true (by omega)
   have e1:(c,k)=(65533,1):=by rw[hc];congr 1;omega
   rw[if_pos e1] at hQ
   simp(disch:=omega) only[g1,g2,go_sem]
   exact hQ _ _ _ _ nofun rfl (by simp[tupOf,envOf,AV.strip,AV.strip1])
  ·have g2:¬ ((k:Int)<2):=by omega
   have e1:¬ ((c,k)=(65533,1)):=fun h=>by cases h;omega
   rw[if_neg e1] at hQ
   simp(disch:=omega) only[g1,g2,e,go_sem]
   exact hQ _ _ _ _ nofun rfl (by simp[tupOf,envOf,AV.strip,AV.strip1])
 ·have g1:¬ ((c:Int)=65533):=by omega
  have e1:¬ ((c,k)=(65533,1)):=fun h=>by cases h;omega
  rw[if_neg e1] at hQ
  simp(disch:=omega) only[g1,e,go_sem]
  exact hQ _ _ _ _ nofun rfl (by simp[tupOf,envOf,AV.strip,AV.strip1])
theorem zlP (c:Nat) (h:c≤1114111):Pure Tryz.prog 116 [.int .i64 c] (.bool (Y4 c)):=by
 refine Pure.go ir116 ck116 (Al4 _) fun KP Q hQ=>?_
 by_cases h1:c=9
 ·have g:((c:Int)=9)=True:=eq_true (by omega)
  simp(disch:=omega) only[ir116,g,go_sem]
  exact hQ _ _ _ _ nofun rfl (by simp[tupOf,envOf,AV.strip,AV.strip1,Y4,h1])
 have g1:¬ ((c:Int)=9):=by omega
 by_cases h2:c=10
 ·have g:((c:Int)=10)=True:=eq_true (by omega)
  simp(disch:=omega) only[ir116,g1,g,go_sem]
  exact hQ _ _ _ _ nofun rfl (by simp[tupOf,envOf,AV.strip,AV.strip1,Y4,h2])
 have g2:¬ ((c:Int)=10):=by omega
 by_cases h3:c=13
 ·have g:((c:Int)=13)=True:=eq_true (by omega)
  simp(disch:=omega) only[ir116,g1,g2,g,go_sem]
  exact hQ _ _ _ _ nofun rfl (by simp[tupOf,envOf,AV.strip,AV.strip1,Y4,h3])
 have g3:¬ ((c:Int)=13):=by omega
 by_cases h4:32≤c
 ·have g4:((32:Int)≤c)=True:=eq_true (by omega)
  by_cases h5:c≤65535
  ·have g5:((c:Int)≤65535)=True:=eq_true (by omega)
   simp(disch:=omega) only[ir116,g1,g2,g3,g4,g5,go_sem]
   exact hQ _ _ _ _ nofun rfl (by simp[tupOf,envOf,AV.strip,AV.strip1,Y4,h4,h5])
  ·have g5:¬ ((c:Int)≤65535):=by omega
   simp(disch:=omega) only[ir116,g1,g2,g3,g4,g5,go_sem]
   exact hQ _ _ _ _ nofun rfl (by simp[tupOf,envOf,AV.strip,AV.strip1,Y4,h1,h2,h3,h5])
 ·have g4:¬ ((32:Int)≤c):=by omega
  simp(disch:=omega) only[ir116,g1,g2,g3,g4,go_sem]
  exact hQ _ _ _ _ nofun rfl (by simp[tupOf,envOf,AV.strip,AV.strip1,Y4,h1,h2,h3,h4])
theorem zhX {l:List UInt8} (hne:l≠[]) (h:(zy l).2≠0):zy l=decodeL l∧decodeL l≠(65533,1):=by
 unfold zy at h ⊢
 rw[if_neg hne] at h ⊢
 split at h
 ·exact absurd rfl h
 ·rename_i h2;rw[if_neg h2];exact⟨rfl,h2⟩
def zd6 (r:List UInt8):Prop:=r=[]∨∃ c t,r=c::t∧(c=32∨c=10)
theorem zgc {r:List UInt8} (h:zd6 r):zn r=0:=by
 rcases h with rfl|⟨c,t,rfl,rfl|rfl⟩
 ·rfl
 all_goals simp[zn,isD]
theorem zaF:∀(a:List UInt8) {r:List UInt8},zd6 r→zn (a++r)=zn a
 | [],r,h=>zgc h
 | c::a,r,h=>by simp only[Al6,zn];rw[zaF a h]
theorem zf7 (a:List UInt8) {r:List UInt8} (h:zd6 r):yT (a++r)=yT a:=by
 unfold yT
 rw[zaF a h]
 cases a with
 | nil=>simp[zn]
 | cons c a=>simp
theorem zgt (a:List UInt8) {r:List UInt8} (h:zd6 r):zi (a++r)=zi a:=by
 cases a with
 | nil =>
  have h1:=zgc h
  have h2:zi []=0:=rfl
  rw[zar,h2]
  unfold zi
  rcases h with rfl|⟨c,t,rfl,rfl|rfl⟩
  ·rfl
  all_goals
   rw[if_neg (by simp)];unfold yT;rw[if_pos h1]
 | cons c a =>
  by_cases hc:c=45
  ·subst hc;rw[Al6,ZR,ZR,zaF a h,zf7 a h]
  ·rw[Zw (s:=c::a++r) (by simp[hc]),Zw (s:=c::a) (by simp[hc]),zf7 (c::a) h]
theorem zhz (a:List UInt8) {r:List UInt8} (h:zd6 r):zQ (a++r)=zQ a:=by
 cases a with
 | nil=>rcases h with rfl|⟨c,t,rfl,rfl|rfl⟩<;>rfl
 | cons c a=>simp[zQ,zaF a h]
theorem zjl (a:List UInt8) {r:List UInt8} (h:zd6 r):y8 (a++r)=y8 a:=by
 cases a with
 | nil =>
  rcases h with rfl|⟨c,t,rfl,rfl|rfl⟩
  ·rfl
  all_goals simp[y8,isE]
 | cons c a =>
  have hs:sgN (a++r)=sgN a:=by
   cases a with
   | nil=>rcases h with rfl|⟨c,t,rfl,rfl|rfl⟩<;>simp[sgN]
   | cons d a=>simp[sgN]
  have hd:(a++r).drop (sgN a)=a.drop (sgN a)++r:=zbS (zfn a)
  simp only[Al6,y8,hs,hd,zaF _ h]
theorem zjb {a:List UInt8} {r:List UInt8} (h:zd6 r):zL (a++r)=zL a:=by
 have h1:=zaT a
 have e1:(a++r).drop (zi a)=a.drop (zi a)++r:=zbS h1
 have h2:=zdJ (a.drop (zi a))
 simp only[zU] at h2
 have e2:(a++r).drop (zi a+zQ (a.drop (zi a)))=a.drop (zi a+zQ (a.drop (zi a)))++r:=zbS (by omega)
 unfold zL
 rw[zgt a h,e1,zhz _ h,e2,zjl _ h]
theorem zkc {P:UInt8→Bool} (h:(List.range 256).all (fun n=>P (UInt8.ofNat n))=true) (c:UInt8):P c=true:=by
 have h1:=Yz.1 h c.toNat (List.mem_range.2 (UInt8.toNat_lt c))
 simpa using h1
def zhn (c:UInt8):Bool:=decide (0≤Lib.indexByte Z2 c)
def spB (c:UInt8):Bool:=decide (c=9∨c=10∨c=13∨c=32∨c=44)||decide (c=239)||decide (c=35)
theorem zh7 (c:UInt8):(!zhn c||(!(decide (c=34))&&(!(decide (c=46))&&(!(isL c)&&(!(isD c)&&(!(decide (c=45))&&(!(spB c)&&decide (32≤c.toNat∧c.toNat<128))))))))=true:=zkc (P:=fun c=>(!zhn c||(!(decide (c=34))&&(!(decide (c=46))&&(!(isL c)&&(!(isD c)&&(!(decide (c=45))&&(!(spB c)&&decide (32≤c.toNat∧c.toNat<128))))))))) (by decide +kernel) c
theorem zeB {p:UInt8→Bool} {r:List UInt8} (h10:p 10=false) (h32:p 32=false) (h:zd6 r):∀ s:List UInt8,(s++r).takeWhile p=s.takeWhile p
 | []=>by
  rcases h with rfl|⟨c,t,rfl,rfl|rfl⟩
  ·rfl
  ·simp[h32]
  ·simp[h10]
 | c::s=>by
  simp only[Al6,List.takeWhile_cons]
  split
  ·rw[zeB h10 h32 h s]
  ·rfl
theorem zer {p:UInt8→Bool}:∀ s:List UInt8,(∀ c∈s,p c=true)→s.takeWhile p=s
 | [],_=>rfl
 | c::s,h=>by
  simp only[List.takeWhile_cons,h c (.head _),if_true]
  rw[zer s fun d hd=>h d (.tail _ hd)]
theorem zhv (s:List UInt8) {r:List UInt8} (h:zd6 r):yi (s++r)=yi s:=by
 unfold yi;rw[zeB (by decide) (by decide) h s]
theorem zhK {s:List UInt8} (h:(zL s).1≠0):zi s≠0:=fun e=>h (by unfold zL;rw[if_pos e])
theorem zix {s:List UInt8} (h:(zL s).1≠0):(zL s).2=3∨(zL s).2=4:=by
 have hw:=zhK h
 unfold zL
 rw[if_neg hw]
 simp only
 split<;>simp
theorem zeE:∀(n m:Nat) (l:List UInt8),l.length≤n→l.length≤m→zd0 n l=zd0 m l
 | 0,m,l,h,_=>by
  obtain rfl:l=[]:=zhF.1 (by omega)
  cases m<;>simp[zd0]
 | n+1,0,l,_,h=>by
  obtain rfl:l=[]:=zhF.1 (by omega)
  simp[zd0]
 | n+1,m+1,l,h1,h2=>by
  simp only[zd0]
  split
  ·rfl
  ·by_cases hp:0<(zy l).2
   ·rw[zeE n m (l.drop (zy l).2) (by simp;omega) (by simp;omega)]
   ·simp[hp]
theorem zeu {l:List UInt8} (hne:l≠[]):zbm l=(decide (0<(zy l).2)&&(Y4 (zy l).1&&zbm (l.drop (zy l).2))):=by
 unfold zbm
 have hl:0<l.length:=List.length_pos_iff.2 hne
 obtain⟨m,hm⟩:∃ m,l.length=m+1:=⟨l.length-1,by omega⟩
 rw[hm,zd0,if_neg hne]
 by_cases hp:0<(zy l).2
 ·rw[zeE m (l.drop (zy l).2).length (l.drop (zy l).2) (by simp;omega) (Al4 _)]
 ·simp[hp]
theorem ziK:zbm []=true:=rfl
theorem zhx (c:UInt8):nch c=true→32≤c.toNat∧c.toNat<128:=zbv (P:=fun c=>nch c=true→32≤c.toNat∧c.toNat<128) (by decide +kernel) c
theorem zh0 {s:List UInt8} (h:zao s≠0):∀ b∈s,32≤b.toNat∧b.toNat<128:=fun b hb=>zhx b ((zi7 h).1 b hb)
theorem YH:∀(p s t:List UInt8),(∀ x∈p,x≠10)→p.isPrefixOf (s++10::t)=p.isPrefixOf s
 | [],s,t,_=>by cases s<;>simp
 | x::p,[],t,h=>by
  have h1:=h x (.head _)
  simp[List.isPrefixOf,h1]
 | x::p,c::s,t,h=>by
  simp only[Al6,List.isPrefixOf]
  rw[YH p s t fun y hy=>h y (.tail _ hy)]
theorem yF:∀(p s:List UInt8),p.isPrefixOf s=true→p.length≤s.length
 | [],s,_=>Nat.zero_le _
 | x::p,[],h=>by simp[List.isPrefixOf] at h
 | x::p,c::s,h=>by
  simp only[List.isPrefixOf,Al0] at h
  have:=yF p s h.2
  simp only[Al2];omega
theorem zkE (t:List UInt8):zd6 (10::t):=.inr ⟨10,t,rfl,.inr rfl⟩
theorem zdB:∀(n:Nat) (raw s:List UInt8) (b s':List UInt8),yH n raw s=some (b,s')→s'.length<s.length∧∀(m:Nat) (t:List UInt8),n≤m→yH m raw (s++10::t)=some (b,s'++10::t)
 | 0,_,_,_,_,h=>by cases h
 | n+1,raw,[],_,_,h=>by simp[yH] at h
 | n+1,raw,c::r,b,s',h=>by
  simp only[yH] at h
  by_cases h1:zF.isPrefixOf (c::r)=true
  ·rw[if_pos h1] at h
   have hl:=yF _ _ h1
   simp only[zF,Al2,Al3] at hl
   simp only[Al1,Al8] at h
   obtain⟨rfl,rfl⟩:=h
   refine⟨by simp;omega,fun m t hm=>?_⟩
   obtain⟨k,rfl⟩:∃ k,m=k+1:=⟨m-1,by omega⟩
   have e:=YH zF (c::r) t (by decide)
   rw[Al6] at e
   simp only[yH,Al6]
   rw[e,if_pos h1,zbS (by omega)]
  ·rw[if_neg h1] at h
   by_cases h2:zc5.isPrefixOf (c::r)=true
   ·rw[if_pos h2] at h
    have hl:=yF _ _ h2
    simp only[zc5,Al2,Al3] at hl
    obtain⟨g1,g2⟩:=zdB n _ _ _ _ h
    refine⟨by simp at g1 ⊢;omega,fun m t hm=>?_⟩
    obtain⟨k,rfl⟩:∃ k,m=k+1:=⟨m-1,by omega⟩
    have e:=YH zF (c::r) t (by decide)
    have e2:=YH zc5 (c::r) t (by decide)
    rw[Al6] at e e2
    simp only[yH,Al6]
    rw[e,if_neg h1,e2,if_pos h2,zbS (by omega)]
    exact g2 k t (by omega)
   ·rw[if_neg h2] at h
    obtain⟨g1,g2⟩:=zdB n _ _ _ _ h
    refine⟨by simp;omega,fun m t hm=>?_⟩
    obtain⟨k,rfl⟩:∃ k,m=k+1:=⟨m-1,by omega⟩
    have e:=YH zF (c::r) t (by decide)
    have e2:=YH zc5 (c::r) t (by decide)
    rw[Al6] at e e2
    simp only[yH,Al6]
    rw[e,if_neg h1,e2,if_neg h2]
    exact g2 k t (by omega)
theorem zex:∀(n:Nat) (s:List UInt8) (u v:Nat) (t:List UInt8),Zb n s u=some v→n≤s.length∧Zb n (s++t) u=some v
 | 0,s,u,v,t,h=>by
  simp only[Zb] at h ⊢
  exact⟨Nat.zero_le _,h⟩
 | n+1,[],u,v,t,h=>by simp[Zb] at h
 | n+1,c::s,u,v,t,h=>by
  simp only[Zb,Al6] at h ⊢
  cases hx:hexD c with
  | none=>rw[hx] at h;cases h
  | some k =>
   rw[hx] at h
   simp only at h ⊢
   have:=zex n s _ v t h
   exact⟨by simp;omega,this.2⟩
theorem zi6 {q q':Sd} {s s':List UInt8} (t:List UInt8) (h:Zx q s=some (q',s')):Zx q (s++t)=some (q',s'++t):=by
 cases s with
 | nil=>cases h
 | cons c r =>
  simp only[Zx,Al6] at h ⊢
  by_cases h1:c=117
  ·rw[if_pos h1] at h ⊢
   cases hu:Zo r with
   | none=>rw[hu] at h;cases h
   | some u =>
    obtain⟨g1,g2⟩:=zex 4 r 0 u t hu
    rw[hu] at h
    simp only[yd,Al1,Al8] at h
    obtain⟨rfl,rfl⟩:=h
    rw[Zo,g2]
    simp only[yd,Al1,Al8,true_and]
    exact zbS g1
  ·rw[if_neg h1] at h ⊢
   split at h
   ·cases h
   ·rename_i h2
    rw[if_neg h2]
    simp only[Al1,Al8] at h ⊢
    obtain⟨rfl,rfl⟩:=h
    exact⟨rfl,rfl⟩
theorem zc4 {may:UInt8→Bool} (t:List UInt8):∀(n:Nat) (s:List UInt8) (q q':Sd) (s':List UInt8),Z1 may n s q=some (q',s')→∀ m,n≤m→Z1 may m (s++t) q=some (q',s'++t)
 | 0,_,_,_,_,h=>by cases h
 | n+1,[],_,_,_,h=>by cases h
 | n+1,c::s,q,q',s',h=>fun m hm=>by
  obtain⟨k,rfl⟩:∃ k,m=k+1:=⟨m-1,by omega⟩
  simp only[Z1,Al6] at h ⊢
  by_cases h1:c=34
  ·rw[if_pos h1] at h ⊢
   simp only[Al1,Al8] at h ⊢
   exact⟨h.1,by rw[h.2]⟩
  rw[if_neg h1] at h ⊢
  by_cases h2:c=92
  ·rw[if_pos h2] at h ⊢
   cases he:Zx q s with
   | none=>rw[he] at h;cases h
   | some x =>
    rw[he] at h
    rw[zi6 t (q':=x.1) (s':=x.2) he]
    exact zc4 t n _ _ _ _ h k (by omega)
  rw[if_neg h2] at h ⊢
  split at h
  ·rename_i h3
   rw[if_pos h3]
   exact zc4 t n _ _ _ _ h k (by omega)
  ·cases h
theorem zjx {may:UInt8→Bool} {s s' b:List UInt8} (t:List UInt8) (h:Zc may s=some (b,s')):Zc may (s++t)=some (b,s'++t):=by
 unfold Zc at h ⊢
 cases hq:Z1 may (s.length+1) s ⟨[],[],true⟩ with
 | none=>rw[hq] at h;cases h
 | some x =>
  rw[hq] at h
  rw[zc4 t _ _ _ x.1 x.2 hq _ (by simp)]
  simp only at h ⊢
  split at h
  ·rename_i h1
   simp only[Al1,Al8] at h
   rw[if_pos h1]
   simp[h.1,h.2]
  ·cases h
theorem zcd (s:List UInt8):yi s≤s.length:=by unfold yi;exact(List.takeWhile_sublist _).length_le
theorem zaE (s:List UInt8):(zL s).1≤s.length:=by
 unfold zL
 split
 ·simp
 ·have h1:=zaT s
  have h2:=zdJ (s.drop (zi s))
  have h3:=zfi (s.drop (zi s+zQ (s.drop (zi s))))
  simp only[zU] at h2 h3
  simp only;omega
theorem zjc {s s':List UInt8} {x:Tok} (h:yp s=some (x,s')) (t:List UInt8):s'.length<s.length∧yp (s++10::t)=some (x,s'++10::t):=by
 cases s with
 | nil=>cases h
 | cons c r =>
  have e3:=YH zF (c::r) t (by decide)
  have ed:=YH ZE (c::r) t (by decide)
  rw[Al6] at e3 ed
  have hw:=zhv (c::r) (zkE t)
  have hn:=zjb (a:=c::r) (zkE t)
  simp only[yp] at h
  simp only[yp,Al6]
  rw[e3,ed]
  by_cases h1:zF.isPrefixOf (c::r)=true
  ·rw[if_pos h1] at h ⊢
   have hl:=yF _ _ h1
   simp only[zF,Al2,Al3] at hl
   cases hr:yH (r.length+1) [] (r.drop 2) with
   | none=>rw[hr] at h;cases h
   | some y =>
    rw[hr] at h
    simp only[yd,Al1,Al8] at h
    obtain⟨rfl,rfl⟩:=h
    obtain⟨g1,g2⟩:=zdB _ _ _ y.1 y.2 hr
    simp only[zU] at g1
    rw[zbS (by omega),g2 _ t (by simp)]
    exact⟨by simp only[Al2];omega,rfl⟩
  rw[if_neg h1] at h ⊢
  by_cases h2:c=34
  ·rw[if_pos h2] at h ⊢
   cases hr:Zc z8 r with
   | none=>rw[hr] at h;cases h
   | some y =>
    rw[hr] at h
    simp only[yd,Al1,Al8] at h
    obtain⟨rfl,rfl⟩:=h
    have g1:=zfu (t':=y.2) (b:=y.1) hr
    rw[zjx (10::t) (b:=y.1) (s':=y.2) hr]
    exact⟨by simp only[Al2];omega,rfl⟩
  rw[if_neg h2] at h ⊢
  by_cases h3:ZE.isPrefixOf (c::r)=true
  ·rw[if_pos h3] at h ⊢
   have hl:=yF _ _ h3
   simp only[ZE,Al2,Al3] at hl
   simp only[Al1,Al8] at h ⊢
   obtain⟨rfl,rfl⟩:=h
   exact⟨by simp;omega,rfl,zbS (by omega)⟩
  rw[if_neg h3] at h ⊢
  by_cases h4:0≤Lib.indexByte Z2 c
  ·rw[if_pos h4] at h ⊢
   simp only[Al1,Al8] at h ⊢
   obtain⟨rfl,rfl⟩:=h
   exact⟨by simp,rfl,rfl⟩
  rw[if_neg h4] at h ⊢
  by_cases h5:isL c=true
  ·rw[if_pos h5] at h ⊢
   have hl:=zcd (c::r)
   have hp:0<yi (c::r):=by unfold yi;simp[h5]
   simp only[Al1,Al8] at h ⊢
   obtain⟨rfl,rfl⟩:=h
   rw[← Al6,hw,List.take_append_of_le_length hl,zbS hl]
   exact⟨by rw[zU];simp only[Al2] at hl ⊢;omega,rfl,rfl⟩
  rw[if_neg h5] at h ⊢
  rw[← Al6,hn]
  by_cases h6:(zL (c::r)).1=0
  ·rw[if_pos h6] at h;cases h
  rw[if_neg h6] at h ⊢
  have hl:=zaE (c::r)
  rw[List.take_append_of_le_length hl,zbS hl]
  have hh:(((c::r).drop (zL (c::r)).1++10::t).head?.any fun d=>isL d||isD d||decide (d=46))=(((c::r).drop (zL (c::r)).1).head?.any fun d=>isL d||isD d||decide (d=46)):=by
   cases (c::r).drop (zL (c::r)).1 with
   | nil=>simp[isL,isD]
   | cons d t=>rfl
  rw[hh]
  split at h
  ·cases h
  ·rename_i h7
   rw[if_neg h7]
   simp only[Al1,Al8] at h ⊢
   obtain⟨rfl,rfl⟩:=h
   exact⟨by rw[zU];simp only[Al2] at hl ⊢;omega,rfl,rfl⟩
theorem zca (s:List UInt8):Zl s≤s.length:=by
 cases s with
 | nil=>simp[Zl]
 | cons c r =>
  simp only[Zl]
  split
  ·simp
  ·split
   ·rename_i h;have:=yF _ _ h;simpa[zfe] using this
   ·split
    ·have:=(List.takeWhile_sublist zJ (l:=r)).length_le;simp only[Al2];omega
    ·simp
theorem zaU {s s':List UInt8} {x:Tok} (h:yp s=some (x,s')):s'.length<s.length:=(zjc h []).1
theorem Y6:∀(n m:Nat) (l:List Tok) (s:List UInt8),s.length<n→s.length<m→ZX n l s=ZX m l s
 | 0,_,_,_,h,_=>by omega
 | _,0,_,_,_,h=>by omega
 | n+1,m+1,l,s,h1,h2=>by
  simp only[ZX]
  split
  ·rfl
  ·rename_i hne
   split
   ·rename_i hg
    have hl:0<s.length:=List.length_pos_iff.2 hne
    exact Y6 n m _ _ (by rw[zU];omega) (by rw[zU];omega)
   ·cases ho:yp s with
    | none=>rfl
    | some x =>
     have:=zaU (x:=x.1) (s':=x.2) ho
     exact Y6 n m _ _ (by omega) (by omega)
theorem zfy {s:List UInt8} {l:List Tok} (h:yB s=.ok l):s.length≤8192∧zbm s=true∧ZX (s.length+1) [] s=.ok l:=by
 unfold yB at h
 split at h
 ·cases h
 ·split at h
  ·rename_i h1 h2;exact⟨by omega,h2,h⟩
  ·cases h
theorem zaH:∀(l:List UInt8) (m:Nat),zn (l.take m)=min m (zn l)
 | [],m=>by simp[zn]
 | c::l,0=>by simp[zn]
 | c::l,m+1=>by
  simp only[zab,zn]
  split
  ·rw[zaH l m];omega
  ·simp
theorem zfR (s:List UInt8) (m:Nat) (h:yT s≤m):yT (s.take m)=yT s:=by
 unfold yT at h ⊢
 rw[zaH]
 by_cases h1:zn s=0
 ·rw[h1];simp
 rw[if_neg h1] at h ⊢
 by_cases h2:s.getD 0 0=48
 ·rw[if_pos h2] at h ⊢
  have e:(s.take m).getD 0 0=s.getD 0 0:=by
   cases s with
   | nil=>simp
   | cons c r=>obtain⟨k,rfl⟩:∃ k,m=k+1:=⟨m-1,by omega⟩;simp
  rw[e,if_pos h2,if_neg (by omega)]
 ·rw[if_neg h2] at h ⊢
  have e:(s.take m).getD 0 0=s.getD 0 0:=by
   cases s with
   | nil=>simp
   | cons c r=>obtain⟨k,rfl⟩:∃ k,m=k+1:=⟨m-1,by omega⟩;simp
  rw[e,if_neg h2,if_neg (by omega)]
  omega
theorem zdI (s:List UInt8) (m:Nat) (h:zi s≤m):zi (s.take m)=zi s:=by
 cases s with
 | nil=>simp
 | cons c r =>
  cases m with
  | zero =>
   have:zi (c::r)=0:=by omega
   rw[this];rfl
  | succ m =>
   by_cases hc:c=45
   ·subst hc
    rw[zab]
    rw[ZR] at h ⊢
    rw[ZR,zaH]
    by_cases h1:zn r=0
    ·rw[h1];simp
    ·rw[if_neg h1] at h ⊢
     have h2:yT r≠0:=by unfold yT;rw[if_neg h1];split<;>omega
     rw[if_neg (by omega),zfR r m (by omega)]
   ·rw[Zw (s:=c::r) (by simp[hc])] at h ⊢
    rw[Zw (s:=(c::r).take (m+1)) (by simp[hc]),zfR _ _ h]
theorem zbD (c:UInt8) (r:List UInt8):zQ (c::r)=if c=46∧0<zn r then 1+zn r else 0:=by simp[zQ]
theorem zhT (s:List UInt8) (m:Nat) (h:zQ s≤m):zQ (s.take m)=zQ s:=by
 cases s with
 | nil=>simp
 | cons c r =>
  cases m with
  | zero =>
   have:zQ (c::r)=0:=by omega
   rw[this];rfl
  | succ m =>
   rw[zab,zbD,zbD,zaH]
   rw[zbD] at h
   by_cases h1:c=46∧0<zn r
   ·rw[if_pos h1] at h ⊢
    rw[if_pos ⟨h1.1,by omega⟩];omega
   ·rw[if_neg h1]
    rw[if_neg]
    rintro⟨g1,g2⟩
    exact h1 ⟨g1,by omega⟩
theorem zjY (r:List UInt8) (m:Nat) (h:m≠0):sgN (r.take m)=sgN r:=by
 cases r with
 | nil=>simp
 | cons c r =>
  obtain⟨k,rfl⟩:∃ k,m=k+1:=⟨m-1,by omega⟩
  simp[sgN]
theorem zjh (s:List UInt8) (m:Nat) (h:y8 s≤m):y8 (s.take m)=y8 s:=by
 cases s with
 | nil=>simp
 | cons c r =>
  cases m with
  | zero =>
   have:y8 (c::r)=0:=by omega
   rw[this];rfl
  | succ m =>
   simp only[zab,y8] at h ⊢
   by_cases h1:isE c=true
   case neg=>rw[if_neg h1,if_neg h1]
   rw[if_pos h1] at h ⊢
   rw[if_pos h1]
   by_cases hm:m=0
   ·subst hm
    have h2:zn (r.drop (sgN r))=0:=by
     by_cases h2:zn (r.drop (sgN r))=0
     ·exact h2
     ·rw[if_neg h2] at h;omega
    rw[if_pos h2]
    simp[zn]
   ·rw[zjY r m hm,List.drop_take,zaH]
    by_cases h2:zn (r.drop (sgN r))=0
    ·rw[if_pos h2,if_pos (by omega)]
    ·rw[if_neg h2] at h ⊢
     rw[if_neg (by omega)];omega
theorem zfX (s:List UInt8) (m:Nat) (h:(zL s).1≤m):zL (s.take m)=zL s:=by
 by_cases hw:zi s=0
 ·unfold zL
  rw[zdI s m (by omega),if_pos hw,if_pos hw]
 ·have h':=h
  unfold zL at h
  rw[if_neg hw] at h
  simp only at h
  unfold zL
  rw[zdI s m (by omega),if_neg hw,if_neg hw,List.drop_take,List.drop_take,zhT _ _ (by omega),zjh _ _ (by omega)]
theorem zht {s:List UInt8} (h:(zL s).1≠0):Zn ⟨(zL s).2,s.take (zL s).1⟩=true:=by
 have h2:=zix h
 have hl:=zaE s
 unfold Zn
 simp only
 rw[if_neg (by omega),if_neg (by omega),if_pos h2]
 unfold zao
 rw[zfX s _ (Al4 _),List.length_take,Nat.min_eq_left hl,if_pos rfl]
 simp
theorem zfZ:∀(s:List UInt8) (i:Nat),i≠0→(∀ c∈s,(isL c||isD c)=true)→zeF s i=true
 | [],_,_,_=>rfl
 | c::r,i,hi,h=>by
  have h1:=h c (.head _)
  simp only[zeF]
  rw[if_pos (by simpa[hi] using h1)]
  exact zfZ r (i+1) (by omega) fun d hd=>h d (.tail _ hd)
theorem zfm {p:UInt8→Bool}:∀(s:List UInt8),∀ c∈s.takeWhile p,p c=true
 | [],c,h=>by simp at h
 | d::s,c,h=>by
  simp only[List.takeWhile_cons] at h
  split at h
  ·rename_i hd
   rcases List.mem_cons.1 h with rfl|h
   ·exact hd
   ·exact zfm s c h
  ·simp at h
theorem zdM (p:UInt8→Bool) (s:List UInt8):s.take (s.takeWhile p).length=s.takeWhile p:=by
 induction s with
 | nil=>rfl
 | cons c s ih =>
  simp only[List.takeWhile_cons]
  split
  ·simp[ih]
  ·rfl
theorem zft {c:UInt8} {r:List UInt8} (h:isL c=true):Zn ⟨2,(c::r).take (yi (c::r))⟩=true:=by
 unfold Zn
 simp only
 rw[if_neg (by decide),if_pos trivial]
 unfold yi
 rw[zdM]
 have h1:=zfm (p:=fun c=>isL c||isD c) (c::r)
 simp only[List.takeWhile_cons,h,Bool.true_or,if_true] at h1 ⊢
 simp only[zaD,zeF,h,Bool.true_or,if_true,Al0,zu]
 exact⟨zfZ _ 1 (by decide) fun d hd=>h1 d (.tail _ hd),by simp⟩
theorem Zv {c:UInt8} (hc:c.toNat<128) {b:List UInt8} (h:validD (c::b)=true):validD b=true:=(zaC hc (a:=[]) h).2
theorem ziR {c:UInt8} (hc:c.toNat<128) {b:List UInt8} (h:validD b=true):validD (c::b)=true:=YG (a:=[c]) (zcD fun d hd=>by simp only[List.mem_singleton] at hd;subst hd;exact hc) h
theorem Yc:∀ {p s:List UInt8},p.isPrefixOf s=true→s=p++s.drop p.length
 | [],s,_=>rfl
 | x::p,[],h=>by simp[List.isPrefixOf] at h
 | x::p,c::s,h=>by
  simp only[List.isPrefixOf,Al0,beq_iff_eq] at h
  have:=Yc h.2
  rw[h.1]
  simp only[Al6,Al2,List.drop_succ_cons,List.cons.injEq,true_and]
  exact this
theorem zbs:∀(n:Nat) (raw t b s':List UInt8),yH n raw t=some (b,s')→validD (raw++t)=true→validD b=true∧validD s'=true
 | 0,_,_,_,_,h,_=>by cases h
 | n+1,raw,[],_,_,h,_=>by simp[yH] at h
 | n+1,raw,c::r,b,s',h,hv=>by
  simp only[yH] at h
  split at h
  ·rename_i h1
   simp only[Al1,Al8] at h
   obtain⟨rfl,rfl⟩:=h
   have e:=Yc h1
   simp only[zF,Al6,zar,Al2,Al3,List.drop_succ_cons,Nat.zero_add,Nat.reduceAdd] at e
   rw[e] at hv
   have g:=zaC (c:=34) (by decide) hv
   exact⟨g.1,Zv (c:=34) (by decide) (Zv (c:=34) (by decide) g.2)⟩
  ·split at h
   ·rename_i h2
    have e:=Yc h2
    simp only[zc5,Al6,zar,Al2,Al3,List.drop_succ_cons,Nat.zero_add,Nat.reduceAdd] at e
    rw[e] at hv
    have g:=zaC (c:=92) (by decide) hv
    refine zbs n _ _ _ _ h ?_
    rw[zcP]
    exact YG g.1 g.2
   ·exact zbs n _ _ _ _ h (by rw[zcP];exact hv)
theorem ZA:∀(s cur:List UInt8),validD (cur++s)=true→∀ x∈zM cur s,validD x=true
 | [],cur,h,x,hx=>by
  simp only[zM,List.mem_singleton] at hx
  subst hx;simpa using h
 | [c],cur,h,x,hx=>by
  simp only[zM] at hx
  split at hx
  ·rename_i hc
   have hc2:c.toNat<128:=by rcases hc with rfl|rfl<;>decide
   have g:=zaC hc2 h
   simp only[List.mem_cons,List.not_mem_nil,or_false] at hx
   rcases hx with rfl|rfl
   ·exact g.1
   ·rfl
  ·simp only[List.mem_singleton] at hx
   subst hx;exact h
 | c::d::r,cur,h,x,hx=>by
  simp only[zM] at hx
  split at hx
  ·rename_i hc
   subst hc
   have g:=zaC (c:=10) (by decide) h
   rcases List.mem_cons.1 hx with rfl|hx
   ·exact g.1
   ·exact ZA (d::r) [] g.2 x hx
  ·split at hx
   ·rename_i hc
    subst hc
    have g:=zaC (c:=13) (by decide) h
    split at hx
    ·rename_i hd
     subst hd
     rcases List.mem_cons.1 hx with rfl|hx
     ·exact g.1
     ·exact ZA r [] (Zv (c:=10) (by decide) g.2) x hx
    ·rcases List.mem_cons.1 hx with rfl|hx
     ·exact g.1
     ·exact ZA (d::r) [] g.2 x hx
   ·exact ZA (d::r) (cur++[c]) (by rw[zcP];exact h) x hx
termination_by s=>s.length
theorem ziD {c:UInt8} (h:zbC c=true):c.toNat<128:=by
 simp only[zbC,zbQ,zu] at h
 rcases h with rfl|rfl<;>decide
theorem zho:∀(s:List UInt8) (n:Nat),n≤Za s→validD s=true→validD (s.drop n)=true
 | [],n,_,_=>by simp;rfl
 | c::s,0,_,h=>h
 | c::s,n+1,hn,h=>by
  unfold Za at hn
  simp only[List.takeWhile_cons] at hn
  split at hn
  ·rename_i hc
   simp only[Al2] at hn
   exact zho s n (by unfold Za;omega) (Zv (ziD hc) h)
  ·simp at hn
theorem zfd:∀(L:List (List UInt8)) (a:Int),(0≤a→zaf L a≤a∧0≤zaf L a)∧(∀ s∈L,zA s=false→zaf L a≤Za s∧0≤zaf L a)
 | [],a=>⟨fun h=>⟨Int.le_refl _,h⟩,fun s hs=>nomatch hs⟩
 | s::r,a=>by
  simp only[zaf]
  have ih:=zfd r
  by_cases hb:zA s=true
  ·rw[if_pos hb]
   refine⟨(ih a).1,fun x hx hxb=>?_⟩
   rcases List.mem_cons.1 hx with rfl|hx
   ·rw[hb] at hxb;cases hxb
   ·exact(ih a).2 x hx hxb
  ·rw[if_neg hb]
   by_cases hc:a<0∨(Za s:Int)<a
   ·rw[if_pos hc]
    have h1:=(ih (Za s)).1 (by omega)
    refine⟨fun h=>⟨by omega,h1.2⟩,fun x hx hxb=>?_⟩
    rcases List.mem_cons.1 hx with rfl|hx
    ·exact h1
    ·exact(ih _).2 x hx hxb
   ·rw[if_neg hc]
    have h1:=(ih a).1 (by omega)
    refine⟨fun _=>h1,fun x hx hxb=>?_⟩
    rcases List.mem_cons.1 hx with rfl|hx
    ·exact⟨by omega,h1.2⟩
    ·exact(ih _).2 x hx hxb
theorem zeG {s:List UInt8} (h:zA s=true):Za s=s.length:=by
 unfold zA at h
 unfold Za
 rw[zer s (Yz.1 h)]
theorem zfp {l:List (List UInt8)} (h:∀ x∈l,validD x=true):∀ x∈YJ l,validD x=true:=by
 cases l with
 | nil=>exact fun x hx=>nomatch hx
 | cons y r =>
  intro x hx
  simp only[YJ] at hx
  rcases List.mem_cons.1 hx with rfl|hx
  ·exact h _ (.head _)
  ·obtain⟨s,hs,rfl⟩:=List.mem_map.1 hx
   have hv:=h s (.tail _ hs)
   by_cases hl:(indM (y::r)).toNat≤Za s
   ·exact zho s _ hl hv
   ·cases hb:zA s with
    | true =>
     have:=zeG hb
     rw[List.drop_eq_nil_of_le (by omega)];rfl
    | false =>
     have:=(zfd r (-1)).2 s hs hb
     have e:indM (y::r)=zaf r (-1):=rfl
     rw[e] at hl
     omega
theorem zb9:∀ l:List (List UInt8),(∀ x∈l,validD x=true)→validD (Lib.join l [10])=true
 | [],_=>rfl
 | [x],h=>by simpa[Lib.join] using h x (.head _)
 | x::y::r,h=>by
  have e:Lib.join (x::y::r) [10]=x++10::Lib.join (y::r) [10]:=by simp[Lib.join]
  rw[e]
  exact YG (h x (.head _)) (ziR (by decide) (zb9 (y::r) fun z hz=>h z (.tail _ hz)))
theorem zjw {l:List (List UInt8)}:∀ x∈Zs l,x∈l:=fun x hx=>by
 unfold Zs at hx
 have h1:=List.mem_reverse.1 hx
 exact List.mem_reverse.1 ((List.dropWhile_sublist _).subset h1)
theorem ze9 {raw:List UInt8} (h:validD raw=true):validD (zK raw)=true:=by
 unfold zK
 refine zb9 _ fun x hx=>?_
 exact zfp (ZA raw [] h) x ((List.dropWhile_sublist _).subset (zjw x hx))
theorem zeg {s s':List UInt8} {x:Tok} (hv:validD s=true) (h:yp s=some (x,s')):Zn x=true∧validD s'=true:=by
 cases s with
 | nil=>cases h
 | cons c r =>
  simp only[yp] at h
  by_cases h1:zF.isPrefixOf (c::r)=true
  ·rw[if_pos h1] at h
   have e:=Yc h1
   simp only[zF,Al6,zar,Al2,Al3,List.drop_succ_cons,Nat.zero_add,Nat.reduceAdd] at e
   cases hr:yH (r.length+1) [] (r.drop 2) with
   | none=>rw[hr] at h;cases h
   | some y =>
    rw[hr] at h
    simp only[yd,Al1,Al8] at h
    obtain⟨rfl,rfl⟩:=h
    rw[e] at hv
    have g:=zbs _ _ _ y.1 y.2 hr (Zv (c:=34) (by decide) (Zv (c:=34) (by decide) (Zv (c:=34) (by decide) hv)))
    refine⟨?_,g.2⟩
    simp[Zn,ze9 g.1]
  rw[if_neg h1] at h
  by_cases h2:c=34
  ·rw[if_pos h2] at h
   cases hr:Zc z8 r with
   | none=>rw[hr] at h;cases h
   | some y =>
    rw[hr] at h
    simp only[yd,Al1,Al8] at h
    obtain⟨rfl,rfl⟩:=h
    have g:=zgJ (b:=y.1) (t':=y.2) hr (Zv (by rw[h2];decide) hv)
    exact⟨by simp[Zn,g.1],g.2⟩
  rw[if_neg h2] at h
  by_cases h3:ZE.isPrefixOf (c::r)=true
  ·rw[if_pos h3] at h
   have e:=Yc h3
   simp only[ZE,Al6,zar,Al2,Al3,List.drop_succ_cons,Nat.zero_add,Nat.reduceAdd] at e
   simp only[Al1,Al8] at h
   obtain⟨rfl,rfl⟩:=h
   rw[e] at hv
   exact⟨by decide,Zv (c:=46) (by decide) (Zv (c:=46) (by decide) (Zv (c:=46) (by decide) hv))⟩
  rw[if_neg h3] at h
  by_cases h4:0≤Lib.indexByte Z2 c
  ·rw[if_pos h4] at h
   simp only[Al1,Al8] at h
   obtain⟨rfl,rfl⟩:=h
   have hm:=zh7 c
   have hm2:zhn c=true:=by simpa[zhn] using h4
   simp only[hm2,Bool.not_true,Bool.false_or,Al0,zu] at hm
   exact⟨by simp[Zn,ziN,h4],Zv hm.2.2.2.2.2.2.2 hv⟩
  rw[if_neg h4] at h
  by_cases h5:isL c=true
  ·rw[if_pos h5] at h
   simp only[Al1,Al8] at h
   obtain⟨rfl,rfl⟩:=h
   refine⟨zft h5,?_⟩
   have ht:validD ((c::r).take (yi (c::r)))=true:=zcD fun d hd=>by
    unfold yi at hd
    rw[zdM] at hd
    have:=zfm (p:=fun c=>isL c||isD c) _ d hd
    simp only[isL,isD,zbQ,Al0,zu] at this
    omega
   rw[← ze8 ht,List.take_append_drop];exact hv
  rw[if_neg h5] at h
  by_cases h6:(zL (c::r)).1=0
  ·rw[if_pos h6] at h;cases h
  rw[if_neg h6] at h
  split at h
  ·cases h
  ·simp only[Al1,Al8] at h
   obtain⟨rfl,rfl⟩:=h
   have hr:=zht h6
   refine⟨hr,?_⟩
   have hk:zao ((c::r).take (zL (c::r)).1)≠0:=by
    unfold zao
    rw[zfX _ _ (Al4 _),List.length_take,Nat.min_eq_left (zaE _),if_pos rfl]
    have:=zix h6
    omega
   have ht:validD ((c::r).take (zL (c::r)).1)=true:=zcD fun d hd=>(zh0 hk d hd).2
   rw[← ze8 ht,List.take_append_drop];exact hv
theorem zdA (p:UInt8→Bool):∀ r:List UInt8,r.drop (r.takeWhile p).length=r.dropWhile p
 | []=>rfl
 | c::r=>by
  simp only[List.takeWhile_cons,List.dropWhile_cons]
  split
  ·simp[zdA p r]
  ·rfl
theorem zf9 {s:List UInt8} (hv:validD s=true):validD (s.drop (Zl s))=true:=by
 cases s with
 | nil=>rfl
 | cons c r =>
  simp only[Zl]
  split
  ·rename_i h
   have hc:c.toNat<128:=by rcases h with rfl|rfl|rfl|rfl|rfl<;>decide
   exact Zv hc hv
  ·split
   ·rename_i h
    have e:=Yc h
    rw[e] at hv
    have hb:validD zfe=true:=by decide
    rw[ze8 hb] at hv
    exact hv
   ·split
    ·rename_i h
     subst h
     have hr:=Zv (c:=35) (by decide) hv
     rw[show 1+(r.takeWhile zJ).length=(r.takeWhile zJ).length+1 by omega,List.drop_succ_cons]
     have ec:r.takeWhile zJ++r.dropWhile zJ=r:=List.takeWhile_append_dropWhile
     rw[zdA]
     cases hd:r.dropWhile zJ with
     | nil=>rfl
     | cons d t =>
      have hnd:zJ d=false:=by
       have:=List.head_dropWhile_not zJ (l:=r) (by rw[hd];simp)
       simpa[hd] using this
      have hdl:d.toNat<128:=by
       simp only[zJ,Bool.not_eq_false',zbQ,zu] at hnd
       rcases hnd with rfl|rfl<;>decide
      rw[hd] at ec
      rw[← ec] at hr
      exact ziR hdl (zaC hdl hr).2
    ·exact hv
theorem zaq:∀(n:Nat) (l:List Tok) (s:List UInt8) (l':List Tok),ZX n l s=.ok l'→validD s=true→l.all Zn=true→l'.all Zn=true
 | 0,_,_,_,h,_,_=>by cases h
 | n+1,l,s,l',h,hv,hl=>by
  simp only[ZX] at h
  split at h
  ·cases h;exact hl
  ·split at h
   ·exact zaq n _ _ _ h (zf9 hv) hl
   ·cases ho:yp s with
    | none=>rw[ho] at h;cases h
    | some x =>
     rw[ho] at h
     obtain⟨g1,g2⟩:=zeg (x:=x.1) (s':=x.2) hv ho
     exact zaq n _ _ _ h g2 (by simp[hl,g1])
theorem zbM:∀(n:Nat) (s:List UInt8),s.length≤n→zbm s=true→validD s=true
 | 0,s,hn,_=>by
  obtain rfl:s=[]:=zhF.1 (by omega)
  rfl
 | n+1,s,hn,h=>by
  by_cases hne:s=[]
  ·subst hne;rfl
  ·rw[zeu hne] at h
   simp only[Al0,zu] at h
   rw[(zbu hne (by omega)).1]
   exact zbM n _ (by rw[zU];omega) h.2.2
theorem zcK {s:List UInt8} {l:List Tok} (h:yB s=.ok l):l.all Zn=true:=by
 obtain⟨_,h2,h3⟩:=zfy h
 exact zaq _ _ _ _ h3 (zbM _ s (Al4 _) h2) rfl
def RT (t:TS):Prop:=∀ x∈t,Zn x=true
def GR {α:Type} (ok:α→Prop) (f:TS→PR α):Prop:=∀ t a t',RT t→f t=.ok (a,t')→ok a∧RT t'
theorem RT.tail {t:TS} (h:RT t):RT t.tail:=fun x hx=>h x (List.mem_of_mem_tail hx)
theorem RT.hd {t:TS} (h:RT t) (hk:(hdT t).k≠0):Zn (hdT t)=true:=by
 cases t with
 | nil=>exact absurd rfl hk
 | cons x t=>exact h x (.head _)
theorem zj2 {t:TS} (h:RT t) (hk:(hdT t).k=2):zaD (hdT t).s=true:=by
 have:=h.hd (by rw[hk];decide)
 simpa[Zn,hk] using this
theorem zhg (m:List UInt8):GR T1 (yk m):=fun t a t' hr h=>by
 unfold yk at h
 split at h
 ·simp only[zfN,Al8] at h;obtain⟨_,rfl⟩:=h;exact⟨trivial,hr.tail⟩
 ·cases h
theorem zj3:GR (fun s=>zaD s=true) ya:=fun t a t' hr h=>by
 unfold ya at h
 split at h
 ·rename_i hk
  simp only[zfN,Al8] at h;obtain⟨rfl,rfl⟩:=h;exact⟨zj2 hr hk,hr.tail⟩
 ·cases h
end Go.Proofs.YtaielcdfcgpbiaaGreatDoor
namespace Go.Proofs.YtaielcdfcgpbiaaGreatDoor
open Go.Ab
theorem Y0 (t:TS):zI t <:+ t∧wT (zI t)≤wT t:=by
 unfold zI
 split
 ·rename_i h
  have:=zbE (t:=t) (by rw[h];decide)
  exact⟨this.1,by omega⟩
 ·exact⟨List.suffix_refl _,Al4 _⟩
theorem yX:GP bW wfW 1 yy:=fun t a t' h=>by
 obtain⟨s,t2,h3,h4⟩:=zj h
 obtain⟨_,t3,h5,h6⟩:=zj h4
 obtain⟨ty,t4,h7,h8⟩:=zj h6
 have g0:=Y0 t
 have g2:=zH _ _ _ h3
 have g3:=yq _ _ _ _ h5
 have g4:=zbZ 4 _ _ _ h7
 have w2:=g2.w
 have w3:=g3.w
 have w4:=g4.w
 simp only[b0] at w3
 have hw:=zhi g4.ok
 split at h8
 ·rename_i hp
  have h0:=Ys hp
  obtain⟨v,t5,h9,h10⟩:=zj h8
  cases h10
  have g5:=yv true 16 _ _ _ h9
  have w5:=g5.w
  exact⟨((((g5.suf.trans h0.1).trans g4.suf).trans g3.suf).trans g2.suf).trans g0.1,by simp only[bW];omega,hw.1,hw.2,g5.ok⟩
 ·cases h8
  exact⟨((g4.suf.trans g3.suf).trans g2.suf).trans g0.1,by simp only[bW,zeX.1];omega,hw.1,hw.2,zeX.2⟩
theorem yu:GP bL wfL 1 yY:=fun t a t' h=>by
 obtain⟨s,t1,h1,h2⟩:=zj h
 obtain⟨ps,t2,h3,h4⟩:=zj h2
 obtain⟨_,t3,h5,h6⟩:=zj h4
 obtain⟨ty,t4,h7,h8⟩:=zj h6
 obtain⟨ds,t5,h9,h10⟩:=zj h8
 cases h10
 have g0:=Y0 t
 have g1:=zH _ _ _ h1
 have g2:t2 <:+ t1∧bWs ps+wT t2≤wT t1∧∀ x∈ps,wfW x:=by
  split at h3
  ·rename_i hp
   have h0:=Ys hp
   have g:=Yi yX _ _ _ h3
   have w:=g.w
   have e:=zim ps
   exact⟨g.suf.trans h0.1,by omega,g.ok⟩
  ·cases h3;exact⟨List.suffix_refl _,by simp[bWs],fun x hx=>(by cases hx)⟩
 have g3:=yq _ _ _ _ h5
 have g4:=zbZ 4 _ _ _ h7
 have g5:=zhL true 16 _ _ _ h9
 have w1:=g1.w
 have w3:=g3.w
 have w4:=g4.w
 have w5:=g5.w
 simp only[b0] at w3
 have hw:=zhi g4.ok
 exact⟨((((g5.suf.trans g4.suf).trans g3.suf).trans g2.1).trans g1.suf).trans g0.1,by simp only[bL];omega,g2.2.2,hw.1,hw.2,g5.ok⟩
theorem Ye:GP List.length T1 4 Z3:=fun t a t' h=>by
 unfold Z3 at h
 split at h
 ·cases h
 ·have g0:=Y0 t
  have g1:=zH _ _ _ h
  have w1:=g1.w
  exact⟨g1.suf.trans g0.1,by omega,trivial⟩
theorem GP.low {α:Type} {b:α→Nat} {ok:α→Prop} {c c':Nat} {f:TS→PR α} (h:GP b ok c f) (hc:c'≤c):GP b ok c' f:=fun t a t' e=>by
 have g:=h t a t' e
 have w:=g.w
 exact⟨g.suf,by omega,g.ok⟩
theorem zkM (l:List (List UInt8)):bT l=sm List.length l:=by
 unfold bT sm
 induction l with
 | nil=>rfl
 | cons s r ih=>simp only[List.map_cons,List.sum_cons,Al2];omega
theorem zkT (l:List FldD):bLs l+l.length=sm bL l:=rfl
theorem zdP (m:List UInt8):GP bT T1 1 (ZM m):=fun t a t' h=>by
 obtain⟨s,t1,h1,h2⟩:=zj h
 have g0:(if isP m t then t.tail else t) <:+ t∧wT (if isP m t then t.tail else t)≤wT t:=by
  split
  ·rename_i hp;have:=Ys hp;exact⟨this.1,by omega⟩
  ·exact⟨List.suffix_refl _,Al4 _⟩
 have g1:=zH _ _ _ h1
 have w1:=g1.w
 have g2:=zbq (zH.low (by decide)) _ [s] _ _ _ (fun x hx=>trivial) h2
 have e:=zkM a
 have e1:sm List.length [s]=s.length+1:=by simp[sm]
 exact⟨(g2.1.trans g1.suf).trans g0.1,by omega,trivial⟩
theorem zbR (k:Int):GP bE wfE 1 (za9 k):=fun t a t' h=>by
 obtain⟨s,t1,h1,h2⟩:=zj h
 obtain⟨fs,t2,h3,h4⟩:=zj h2
 obtain⟨_,t3,h5,h6⟩:=zj h4
 obtain⟨l,t4,h7,h8⟩:=zj h6
 cases h8
 have g1:=zH _ _ _ h1
 have g2:t2 <:+ t1∧bT fs+wT t2≤wT t1:=by
  split at h3
  ·rename_i hp
   have h0:=zaR hp
   have g:=zdP _ _ _ _ h3
   have w:=g.w
   exact⟨g.suf.trans h0.1,by omega⟩
  ·cases h3;exact⟨List.suffix_refl _,by simp[bT]⟩
 have g3:=yq _ _ _ _ h5
 have g4:=Yi yu _ _ _ h7
 have w1:=g1.w
 have w3:=g3.w
 have w4:=g4.w
 simp only[b0] at w3
 have e:=zkT l
 exact⟨((g4.suf.trans g3.suf).trans g2.1).trans g1.suf,by simp only[bE,bT,bWs,List.map_nil,List.sum_nil] at g2 ⊢;omega,g4.ok,fun y hy=>nomatch hy⟩
theorem zea:GP bE wfE 1 Y2:=fun t a t' h=>by
 obtain⟨s,t1,h1,h2⟩:=zj h
 obtain⟨_,t3,h5,h6⟩:=zj h2
 obtain⟨l,t4,h7,h8⟩:=zj h6
 cases h8
 have g1:=zH _ _ _ h1
 have g3:=yq _ _ _ _ h5
 have g4:=Yi (Ye.low (by decide)) _ _ _ h7
 have w1:=g1.w
 have w3:=g3.w
 have w4:=g4.w
 simp only[b0] at w3
 have e:=zkM l
 exact⟨(g4.suf.trans g3.suf).trans g1.suf,by simp only[bE,bLs,bWs,List.map_nil,List.sum_nil,show bT []=0 from rfl] at e ⊢;omega,fun y hy=>(nomatch hy),fun y hy=>nomatch hy⟩
theorem zdn:GP bE wfE 1 ZN:=fun t a t' h=>by
 obtain⟨s,t1,h1,h2⟩:=zj h
 obtain⟨_,t3,h5,h6⟩:=zj h2
 obtain⟨l,t4,h7,h8⟩:=zj h6
 cases h8
 have g1:=zH _ _ _ h1
 have g3:=yq _ _ _ _ h5
 have g4:=zdP _ _ _ _ h7
 have w1:=g1.w
 have w3:=g3.w
 have w4:=g4.w
 simp only[b0] at w3
 exact⟨(g4.suf.trans g3.suf).trans g1.suf,by simp only[bE,bLs,bWs,List.map_nil,List.sum_nil,show bT []=0 from rfl];omega,fun y hy=>(nomatch hy),fun y hy=>nomatch hy⟩
theorem zdH:GP bE wfE 1 ZQ:=fun t a t' h=>by
 obtain⟨s,t1,h1,h2⟩:=zj h
 obtain⟨_,t3,h5,h6⟩:=zj h2
 obtain⟨l,t4,h7,h8⟩:=zj h6
 cases h8
 have g1:=zH _ _ _ h1
 have g3:=yq _ _ _ _ h5
 have g4:=Yi yX _ _ _ h7
 have w1:=g1.w
 have w3:=g3.w
 have w4:=g4.w
 simp only[b0] at w3
 have e:=zim l
 exact⟨(g4.suf.trans g3.suf).trans g1.suf,by simp only[bE,bLs,List.map_nil,List.sum_nil,show bT []=0 from rfl];omega,fun y hy=>(nomatch hy),g4.ok⟩
def bSR (d:SR):Nat:=bEs d.defs+d.q.length+d.m.length
def zgk (d:SR):Prop:=∀ x∈d.defs,wfE x
theorem zfz (l:List DefD) (x:DefD):bEs (l++[x])=bEs l+bE x:=by simp[bEs]
theorem ziz {d:SR} {x:DefD} (hw:zgk d) (hx:wfE x):zgk (Zy d x)∧bSR (Zy d x)=bSR d+bE x:=by
 refine⟨fun y hy=>?_,by simp only[bSR,Zy,zfz];omega⟩
 rcases List.mem_append.1 hy with h|h
 ·exact hw y h
 ·simp at h;subst h;exact hx
structure SchFit (d:SR) (t:TS) (d':SR) (t':TS):Prop where
 suf:t' <:+ t
 w:bSR d'+1+wT t'≤bSR d+wT t
 wf:zgk d→zgk d'
theorem zes {d:SR} {t:TS} {d':SR} {t':TS} (h:zam d t=.ok (d',t')):SchFit d t d' t':=by
 obtain⟨_,t1,h1,h2⟩:=zj h
 obtain⟨_,t2,h3,h4⟩:=zj h2
 obtain⟨_,t3,h5,h6⟩:=zj h4
 obtain⟨q,t4,h7,h8⟩:=zj h6
 obtain⟨m,t5,h9,h10⟩:=zj h8
 obtain⟨_,t6,h11,h12⟩:=zj h10
 cases h12
 have g1:=yq _ _ _ _ h1
 have g2:t2 <:+ t1∧wT t2≤wT t1:=by
  split at h3
  ·rename_i hw;cases h3;have h0:=zaR hw;exact⟨h0.1,by omega⟩
  ·cases h3
 have g3:=yq _ _ _ _ h5
 have g4:=zH _ _ _ h7
 have g5:t5 <:+ t4∧m.length+wT t5≤wT t4:=by
  split at h9
  ·rename_i hw
   have h0:=zaR hw
   obtain⟨_,t7,h13,h14⟩:=zj h9
   have g6:=yq _ _ _ _ h13
   have g7:=zH _ _ _ h14
   have w6:=g6.w
   have w7:=g7.w
   exact⟨(g7.suf.trans g6.suf).trans h0.1,by simp only[b0] at w6;omega⟩
  ·cases h9;exact⟨List.suffix_refl _,by simp⟩
 have g6:=yq _ _ _ _ h11
 have w1:=g1.w
 have w3:=g3.w
 have w4:=g4.w
 have w6:=g6.w
 simp only[b0] at w1 w3 w6
 exact⟨((((g6.suf.trans g5.1).trans g4.suf).trans g3.suf).trans g2.1).trans g1.suf,by simp only[bSR];omega,fun hw=>hw⟩
theorem zaK {d:SR} {w:List UInt8} {t:TS} (hw:isW w t=true) {f:TS→PR DefD} (hf:GP bE wfE 1 f) {d':SR} {t':TS} (h:pb (f t.tail) (fun x t=>.ok (Zy d x,t))=.ok (d',t')):SchFit d t d' t':=by
 obtain⟨x,t1,h1,h2⟩:=zj h
 cases h2
 have h0:=zaR hw
 have g:=hf _ _ _ h1
 have w1:=g.w
 have e:bSR (Zy d x)=bSR d+bE x:=by simp only[bSR,Zy,zfz];omega
 exact⟨g.suf.trans h0.1,by omega,fun hw=>(ziz hw g.ok).1⟩
theorem YR {d:SR} {t:TS} {d':SR} {t':TS} (h:zN d t=.ok (d',t')):SchFit d t d' t':=by
 unfold zN at h
 have g0:=Y0 t
 generalize zI t=u at h g0
 suffices hs:SchFit d u d' t' from ⟨hs.suf.trans g0.1,by have:=hs.w;omega,hs.wf⟩
 unfold YL at h
 split at h
 ·rename_i hc
  have h0:=zaR hc.2
  have g:=zes h
  have w:=g.w
  exact⟨g.suf.trans h0.1,by omega,g.wf⟩
 split at h
 ·rename_i hc;exact zaK hc (zbR 1) h
 split at h
 ·rename_i hc;exact zaK hc (zbR 2) h
 split at h
 ·rename_i hc;exact zaK hc zdn h
 split at h
 ·rename_i hc;exact zaK hc zea h
 split at h
 ·rename_i hc;exact zaK hc zdH h
 ·cases h
theorem zcN (d d':SR) (t:TS):¬ zN d t=.ok (d',t):=fun h=>by
 unfold zN at h
 have g0:=Y0 t
 generalize zI t=u at h g0
 have tl:∀ w,isW w u=true→wT u.tail<wT t:=fun w hw=>by have:=zaR hw;omega
 have put:∀ {f:TS→PR DefD},GP bE wfE 1 f→wT u.tail<wT t→pb (f u.tail) (fun x t=>(.ok (Zy d x,t):PR SR))=.ok (d',t)→False:=fun {f} hf hl h=>by
  obtain⟨x,t1,h1,h2⟩:=zj h
  cases h2
  have:=(hf _ _ _ h1).w
  omega
 unfold YL at h
 split at h
 ·rename_i hc
  have h1:=tl _ hc.2
  have h2:=zlC (zes h).suf
  omega
 split at h
 ·rename_i hc;exact put (zbR 1) (tl _ hc) h
 split at h
 ·rename_i hc;exact put (zbR 2) (tl _ hc) h
 split at h
 ·rename_i hc;exact put zdn (tl _ hc) h
 split at h
 ·rename_i hc;exact put zea (tl _ hc) h
 split at h
 ·rename_i hc;exact put zdH (tl _ hc) h
 ·cases h
theorem SchFit.lt {d:SR} {t:TS} {d':SR} {t':TS} (h:SchFit d t d' t') (hd:bSR d≤bSR d'):t'.length<t.length:=by
 obtain⟨p,hp⟩:=h.suf
 have h2:=h.w
 cases p with
 | nil=>simp at hp;subst hp;omega
 | cons x p=>rw[← hp];simp;omega
theorem zdr:∀(n:Nat) (d:SR) (t:TS) (d':SR) (t':TS),Yu n d t=.ok (d',t')→t'=[]∧bSR d'≤bSR d+wT t∧(zgk d→zgk d')
 | 0,_,_,_,_,h=>by cases h
 | n+1,d,t,d',t',h=>by
  simp only[Yu] at h
  split at h
  ·rename_i ht;cases h;exact⟨ht,by omega,id⟩
  ·obtain⟨d1,t1,h1,h2⟩:=zj h
   have g1:=YR h1
   have g2:=zdr n _ _ _ _ h2
   have w:=g1.w
   exact⟨g2.1,by omega,fun hw=>g2.2.2 (g1.wf hw)⟩
theorem zfI {t:TS} {d:SR} {t':TS} (h:zcj t=.ok (d,t')):t'=[]∧bSR d≤wT t∧zgk d:=by
 obtain⟨d1,t1,h1,h2⟩:=zj h
 have g1:=YR h1
 have g2:=zdr _ _ _ _ _ h2
 have w:=g1.w
 have e:bSR sr0=0:=rfl
 exact⟨g2.1,by omega,g2.2.2 (g1.wf fun x hx=>nomatch hx)⟩
theorem RT.said {t:TS} (h:RT t):RT (zI t):=by unfold zI;split;exact h.tail;exact h
section
variable (L:TS)
def zx (s:St):St:=if (s.hd L).k=5 then stepS s else s
def yz (s:St):VarD×St:=zde L (za L (zx L s)).1 (yR L 4 (zd L [58] (za L (zx L s)).2)).1 (yR L 4 (zd L [58] (za L (zx L s)).2)).2
def psS (s:St):List VarD×St:=if isS L [40] s then
  ((zO L [41] true (yz L) (L.length+2) [] (zd L [40] s)).1,zd L [41] (zO L [41] true (yz L) (L.length+2) [] (zd L [40] s)).2)
 else ([],s)
def YP (nm:List UInt8) (ps:List VarD) (ty:TyD) (s:St):FldD×St:=(⟨nm,ps,ty,(zbh L true 16 s).1⟩,(zbh L true 16 s).2)
def zai (nm:List UInt8) (ps:List VarD) (s:St):FldD×St:=YP L nm ps (yR L 4 (zd L [58] s)).1 (yR L 4 (zd L [58] s)).2
def yn (s:St):FldD×St:=zai L (za L (zx L s)).1 (psS L (za L (zx L s)).2).1 (psS L (za L (zx L s)).2).2
def zcQ (m:List UInt8) (s:St):St:=if isS L m s then zd L m s else s
def yo (m:List UInt8) (s:St):List (List UInt8)×St:=yQ L m (za L) (L.length+2) [(za L (zcQ L m s)).1] (za L (zcQ L m s)).2
def zbY (s:St):Bool:=zG L [116,114,117,101] s||(zG L [102,97,108,115,101] s||zG L [110,117,108,108] s)
def yV (s:St):List UInt8×St:=za L (if zbY L (zx L s) then yc 2 (zx L s) else zx L s)
def y6 (s:St):List (List UInt8)×St:=if zG L [105,109,112,108,101,109,101,110,116,115] s then yo L [38] (za L s).2 else ([],s)
def yU {α:Type} (f:St→α×St) (s:St):List α×St:=((zO L [125] true f (L.length+2) [] (zd L [123] s)).1,zd L [125] (zO L [125] true f (L.length+2) [] (zd L [123] s)).2)
def YS (k:Int) (s:St):DefD×St:=(⟨k,(za L s).1,(y6 L (za L s).2).1,(yU L (yn L) (y6 L (za L s).2).2).1,[],[]⟩,(yU L (yn L) (y6 L (za L s).2).2).2)
def zb0 (s:St):DefD×St:=(⟨4,(za L s).1,[],[],(yU L (yV L) (za L s).2).1,[]⟩,(yU L (yV L) (za L s).2).2)
def zaw (s:St):DefD×St:=(⟨3,(za L s).1,[],[],(yo L [124] (zd L [61] (za L s).2)).1,[]⟩,(yo L [124] (zd L [61] (za L s).2)).2)
def zat (s:St):DefD×St:=(⟨5,(za L s).1,[],[],[],(yU L (yz L) (za L s).2).1⟩,(yU L (yz L) (za L s).2).2)
def zbN (s:St):St:=(za L (if zG L [113,117,101,114,121] s then s else yc 2 s)).2
def zbd (s:St):List UInt8×St:=if zG L [109,117,116,97,116,105,111,110] s then za L (zd L [58] (za L s).2) else ([],s)
def zev (d:SR) (q m:List UInt8) (s:St):SR×St:=(⟨d.defs,q,m,true⟩,zd L [125] s)
def zfC (d:SR) (q:List UInt8) (s:St):SR×St:=zev L d q (zbd L s).1 (zbd L s).2
def zdu (d:SR) (s:St):SR×St:=zfC L d (za L s).1 (za L s).2
def zbT (d:SR) (s:St):SR×St:=zdu L d (zd L [58] (zbN L (zd L [123] s)))
def zcA (d:SR) (r:DefD×St):SR×St:=(Zy d r.1,r.2)
def YB (d:SR) (s:St):SR×St :=
 if zG L [116,121,112,101] s then zcA d (YS L 1 (za L s).2)
 else if zG L [105,110,116,101,114,102,97,99,101] s then zcA d (YS L 2 (za L s).2)
 else if zG L [117,110,105,111,110] s then zcA d (zaw L (za L s).2)
 else if zG L [101,110,117,109] s then zcA d (zb0 L (za L s).2)
 else if zG L [105,110,112,117,116] s then zcA d (zat L (za L s).2)
 else if zG L [115,99,104,101,109,97] s&&decide (d.q=[]) then zbT L d (za L s).2
 else (d,yc 2 s)
def zZ (d:SR) (s:St):SR×St:=YB L d (zx L s)
def ZO:Nat→Bool→SR→St→SR×St
 | 0,_,d,s=>(d,s)
 | n+1,first,d,s=>if s.e=0∧(first=true∨s.i<L.length) then ZO n false (zZ L d s).1 (zZ L d s).2 else (d,s)
end
theorem zcm {L:TS} {s:St} (h:s.e≠0):zx L s=s:=by simp[zx,zco h]
theorem zb4 {L:TS} {i:Nat} {dp:Int}:∃ j,zx L ⟨i,dp,0⟩=⟨j,dp,0⟩∧zI (L.drop i)=L.drop j:=by
 unfold zx zI
 rw[hd_ok]
 split
 ·exact⟨i+1,rfl,zt L i⟩
 ·exact⟨i,rfl,rfl⟩
theorem zbW {L:TS} {nm:List UInt8} {ty:TyD} {s:St} (h:s.e≠0):(zde L nm ty s).2.e=s.e:=by simp[zde,ZV h]
theorem zi0 {L:TS} (hL:∀ x∈L,yI x) (nm:List UInt8) (ty:TyD) (i:Nat):ZI L (if isP [61] (L.drop i) then pb (yW true 16 (L.drop i).tail) fun v t=>.ok (⟨nm,ty,true,v⟩,t) else .ok (⟨nm,ty,false,zV⟩,L.drop i)) 0 (zde L nm ty ⟨i,0,0⟩):=by
 unfold zde
 rw[yj]
 cases hp:isP [61] (L.drop i) with
 | true =>
  simp only[if_true]
  rw[Zz hp,zt]
  exact((zaJ hL true 16 (by decide)).rel (i+1)).bind (β:=VarD) (g:=fun q=>(⟨nm,ty,true,q.1⟩,q.2)) (fun _ _ _ _=>.ok) fun q hq=>rfl
 | false=>exact .ok
theorem zby {L:TS} (hL:∀ x∈L,yI x):SimS L yy 0 (yz L):=by
 refine⟨fun i=>?_,fun s h=>by simp only[yz];rw[zcm h,zR h];(try simp only);rw[zC h];rw[zbW (by rw[yZ 4 s h];exact h),yZ 4 s h]⟩
 obtain⟨j,e1,e2⟩:=zb4 (L:=L) (i:=i) (dp:=0)
 unfold yy yz
 rw[e1,e2]
 refine(yb L j 0).bind (β:=VarD) (g:=fun q=>zde L q.1 (yR L 4 (zd L [58] q.2)).1 (yR L 4 (zd L [58] q.2)).2) (fun nm i2 _ _=>?_) fun q hq=>by
  (try simp only);rw[zC hq];rw[zbW (by rw[yZ 4 _ hq];exact hq),yZ 4 _ hq]
 refine(yN L [58] i2 0).bind (β:=VarD) (g:=fun q=>zde L nm (yR L 4 q.2).1 (yR L 4 q.2).2) (fun _ i3 _ _=>?_) fun q hq=>by
  (try simp only);rw[zbW (by rw[yZ 4 _ hq];exact hq),yZ 4 _ hq]
 refine((zax 0 4 (by decide)).rel i3).bind (β:=VarD) (g:=fun q=>zde L nm q.1 q.2) (fun ty i4 _ _=>?_) fun q hq=>zbW hq
 exact zi0 hL nm ty i4
theorem zfh {L:TS} {s:St} (h:s.e≠0):psS L s=([],s):=by simp[psS,ZV h]
theorem zgU {L:TS} (hL:∀ x∈L,yI x) (i:Nat):ZI L (if isP [40] (L.drop i) then yS [41] yy (L.drop i).tail else .ok ([],L.drop i)) 0 (psS L ⟨i,0,0⟩):=by
 unfold psS
 rw[yj]
 cases hp:isP [40] (L.drop i) with
 | true =>
  simp only[if_true]
  rw[Zz hp,zt]
  exact zbj (zby hL) (i+1) (yX.lt (by decide))
 | false=>exact .ok
theorem zbJ {L:TS} {nm:List UInt8} {ps:List VarD} {s:St} (h:s.e≠0):(zai L nm ps s).2.e=s.e:=by
 simp only[zai,YP];rw[zC h,zaV (by rw[yZ 4 s h];exact h),yZ 4 s h]
theorem Yn {L:TS} (hL:∀ x∈L,yI x):SimS L yY 0 (yn L):=by
 have hd:=zhs hL true 16 (by decide)
 refine⟨fun i=>?_,fun s h=>by simp only[yn];rw[zcm h,zR h];(try simp only);rw[zfh h];exact zbJ h⟩
 obtain⟨j,e1,e2⟩:=zb4 (L:=L) (i:=i) (dp:=0)
 unfold yY yn
 rw[e1,e2]
 refine(yb L j 0).bind (β:=FldD) (g:=fun q=>zai L q.1 (psS L q.2).1 (psS L q.2).2) (fun nm i2 _ _=>?_) fun q hq=>by (try simp only);rw[zfh hq];exact zbJ hq
 refine(zgU hL i2).bind (β:=FldD) (g:=fun q=>zai L nm q.1 q.2) (fun ps i3 _ _=>?_) fun q hq=>zbJ hq
 unfold zai
 refine(yN L [58] i3 0).bind (β:=FldD) (g:=fun q=>YP L nm ps (yR L 4 q.2).1 (yR L 4 q.2).2) (fun _ i4 _ _=>?_) fun q hq=>by
  simp only[YP];rw[zaV (by rw[yZ 4 _ hq];exact hq),yZ 4 _ hq]
 refine((zax 0 4 (by decide)).rel i4).bind (β:=FldD) (g:=fun q=>YP L nm ps q.1 q.2) (fun ty i5 _ _=>?_) fun q hq=>by simp only[YP];rw[zaV hq]
 exact(hd.rel i5).bind (β:=FldD) (g:=fun q=>(⟨nm,ps,ty,q.1⟩,q.2)) (fun _ _ _ _=>.ok) fun q hq=>rfl
theorem ziC {L:TS} {m:List UInt8} {s:St} (h:s.e≠0):zcQ L m s=s:=by simp[zcQ,ZV h]
theorem zac {L:TS} {m:List UInt8} {s:St} (h:s.e≠0):(yo L m s).2.e=s.e:=by
 simp only[yo];rw[ziC h,zR h];(try simp only);rw[Y7 h]
theorem zbk {L:TS} (m:List UInt8) (dp:Int):SimS L (ZM m) dp (yo L m):=by
 refine⟨fun i=>?_,fun s h=>zac h⟩
 obtain⟨j,e1,e2⟩:∃ j,zcQ L m ⟨i,dp,0⟩=⟨j,dp,0⟩∧(if isP m (L.drop i) then (L.drop i).tail else L.drop i)=L.drop j:=by
  unfold zcQ
  rw[yj]
  cases hp:isP m (L.drop i) with
  | true=>simp only[if_true];exact⟨i+1,Zz hp,zt L i⟩
  | false=>exact⟨i,rfl,rfl⟩
 unfold ZM yo
 rw[e1,e2]
 refine(yb L j dp).bind (g:=fun q=>yQ L m (za L) (L.length+2) [q.1] q.2) (fun s i1 _ _=>?_) fun q hq=>by (try simp only);rw[Y7 hq]
 exact zbF (zep L dp) _ _ [s] i1 (by simp) (by omega) (zH.lt (by decide))
theorem zhq {L:TS} {i:Nat} {dp:Int}:zbY L ⟨i,dp,0⟩=true↔(isW [116,114,117,101] (L.drop i)=true∨isW [102,97,108,115,101] (L.drop i)=true∨isW [110,117,108,108] (L.drop i)=true):=by
 simp only[zbY,zay,zbQ]
theorem zit {L:TS} {s:St} (h:s.e≠0):zbY L s=false:=by simp[zbY,zaY h]
theorem zeh {L:TS} (dp:Int):SimS L Z3 dp (yV L):=by
 refine⟨fun i=>?_,fun s h=>by simp only[yV];rw[zcm h,zit h];simp only[Al7,if_false];rw[zR h]⟩
 obtain⟨j,e1,e2⟩:=zb4 (L:=L) (i:=i) (dp:=dp)
 unfold Z3 yV
 rw[e1,e2]
 by_cases hc:zbY L ⟨j,dp,0⟩=true
 ·rw[if_pos (zhq.1 hc),if_pos hc]
  have e:(yc 2 ⟨j,dp,0⟩:St).e≠0:=by simp[yc]
  refine⟨by decide,?_⟩
  rw[zR e];rfl
 ·rw[if_neg fun h=>hc (zhq.2 h),if_neg hc]
  exact yb L j dp
theorem zdC {L:TS} {s:St} (h:s.e≠0):y6 L s=([],s):=by simp[y6,zaY h]
theorem Ze {L:TS} {w:List UInt8} {i:Nat} {dp:Int} (hw:isW w (L.drop i)=true):za L ⟨i,dp,0⟩=(w,⟨i+1,dp,0⟩):=by
 simp only[isW,Al0,zu] at hw
 unfold za
 rw[hd_ok,if_pos hw.1,hw.2];rfl
theorem zgz {L:TS} (i:Nat) (dp:Int):ZI L (if isW [105,109,112,108,101,109,101,110,116,115] (L.drop i) then ZM [38] (L.drop i).tail else .ok ([],L.drop i)) dp (y6 L ⟨i,dp,0⟩):=by
 unfold y6
 rw[zay]
 cases hw:isW [105,109,112,108,101,109,101,110,116,115] (L.drop i) with
 | true =>
  simp only[if_true]
  rw[Ze hw,zt]
  exact(zbk [38] dp).rel (i+1)
 | false=>exact .ok
theorem ZL {α:Type} {L:TS} {f:St→α×St} {s:St} (h:s.e≠0):yU L f s=([],s):=by
 simp only[yU];rw[zC h,Ya h];(try simp only);rw[zC h]
theorem zcf {α β:Type} {L:TS} {f:TS→PR α} {fS:St→α×St} {dp:Int} (hf:SimS L f dp fS) (hlt:∀ t a t',f t=.ok (a,t')→t'.length<t.length) (F:List α→β) (i:Nat) :
  ZI L (pb (yk [123] (L.drop i)) fun _ t=>pb (yS [125] f t) fun l t=>.ok (F l,t)) dp (F (yU L fS ⟨i,dp,0⟩).1,(yU L fS ⟨i,dp,0⟩).2):=by
 unfold yU
 refine(yN L [123] i dp).bind (β:=β) (g:=fun q=>(F (zO L [125] true fS (L.length+2) [] q.2).1,zd L [125] (zO L [125] true fS (L.length+2) [] q.2).2)) (fun _ i1 _ _=>?_) fun q hq=>by
  (try simp only);rw[Ya hq];(try simp only);rw[zC hq]
 exact(zbj hf i1 hlt).bind (β:=β) (g:=fun q=>(F q.1,q.2)) (fun _ _ _ _=>.ok) fun q hq=>rfl
theorem zf6 {L:TS} (hL:∀ x∈L,yI x) (k:Int):SimS L (za9 k) 0 (YS L k):=by
 refine⟨fun i=>?_,fun s h=>by simp only[YS];rw[zR h];(try simp only);rw[zdC h];(try simp only);rw[ZL h]⟩
 unfold za9
 refine(yb L i 0).bind (β:=DefD) (g:=fun q=>(⟨k,q.1,(y6 L q.2).1,(yU L (yn L) (y6 L q.2).2).1,[],[]⟩,(yU L (yn L) (y6 L q.2).2).2)) (fun nm i1 _ _=>?_) fun q hq=>by
  (try simp only);rw[zdC hq];(try simp only);rw[ZL hq]
 refine(zgz i1 0).bind (β:=DefD) (g:=fun q=>(⟨k,nm,q.1,(yU L (yn L) q.2).1,[],[]⟩,(yU L (yn L) q.2).2)) (fun fs i2 _ _=>?_) fun q hq=>by (try simp only);rw[ZL hq]
 exact zcf (Yn hL) (yu.lt (by decide)) (fun l=>DefD.mk k nm fs l [] []) i2
theorem zhW {L:TS}:SimS L Y2 0 (zb0 L):=by
 refine⟨fun i=>?_,fun s h=>by simp only[zb0];rw[zR h];(try simp only);rw[ZL h]⟩
 unfold Y2
 refine(yb L i 0).bind (β:=DefD) (g:=fun q=>(⟨4,q.1,[],[],(yU L (yV L) q.2).1,[]⟩,(yU L (yV L) q.2).2)) (fun nm i1 _ _=>?_) fun q hq=>by (try simp only);rw[ZL hq]
 exact zcf (zeh 0) (Ye.lt (by decide)) (fun l=>DefD.mk 4 nm [] [] l []) i1
theorem zgw {L:TS} (hL:∀ x∈L,yI x):SimS L ZQ 0 (zat L):=by
 refine⟨fun i=>?_,fun s h=>by simp only[zat];rw[zR h];(try simp only);rw[ZL h]⟩
 unfold ZQ
 refine(yb L i 0).bind (β:=DefD) (g:=fun q=>(⟨5,q.1,[],[],[],(yU L (yz L) q.2).1⟩,(yU L (yz L) q.2).2)) (fun nm i1 _ _=>?_) fun q hq=>by (try simp only);rw[ZL hq]
 exact zcf (zby hL) (yX.lt (by decide)) (fun l=>DefD.mk 5 nm [] [] [] l) i1
theorem zgm {L:TS}:SimS L ZN 0 (zaw L):=by
 refine⟨fun i=>?_,fun s h=>by simp only[zaw];rw[zR h];(try simp only);rw[zC h];exact zac h⟩
 unfold ZN
 refine(yb L i 0).bind (β:=DefD) (g:=fun q=>(⟨3,q.1,[],[],(yo L [124] (zd L [61] q.2)).1,[]⟩,(yo L [124] (zd L [61] q.2)).2)) (fun nm i1 _ _=>?_) fun q hq=>by (try simp only);rw[zC hq];exact zac hq
 refine(yN L [61] i1 0).bind (β:=DefD) (g:=fun q=>(⟨3,nm,[],[],(yo L [124] q.2).1,[]⟩,(yo L [124] q.2).2)) (fun _ i2 _ _=>?_) fun q hq=>zac hq
 exact((zbk [124] 0).rel i2).bind (β:=DefD) (g:=fun q=>(⟨3,nm,[],[],q.1,[]⟩,q.2)) (fun _ _ _ _=>.ok) fun q hq=>rfl
theorem zfs {L:TS} {s:St} (h:s.e≠0):zbN L s=s:=by simp[zbN,zaY h,YV h,zR h]
theorem zi8 {L:TS} {s:St} (h:s.e≠0):zbd L s=([],s):=by simp[zbd,zaY h]
theorem zd7 {L:TS} {d:SR} {q:List UInt8} {s:St} (h:s.e≠0):(zfC L d q s).2.e=s.e:=by simp only[zfC,zev];rw[zi8 h];(try simp only);rw[zC h]
theorem zaO {L:TS} {d:SR} {s:St} (h:s.e≠0):(zdu L d s).2.e=s.e:=by simp only[zdu];rw[zR h];exact zd7 h
theorem zhG {L:TS} (d:SR):SimS L (zam d) 0 (zbT L d):=by
 refine⟨fun i=>?_,fun s h=>by simp only[zbT];rw[zC h,zfs h,zC h];exact zaO h⟩
 unfold zam zbT
 refine(yN L [123] i 0).bind (β:=SR) (g:=fun q=>zdu L d (zd L [58] (zbN L q.2))) (fun _ i1 _ _=>?_) fun q hq=>by (try simp only);rw[zfs hq,zC hq];exact zaO hq
 have h2:ZI L (if isW [113,117,101,114,121] (L.drop i1) then .ok ((),(L.drop i1).tail) else .error 2) 0 ((),zbN L ⟨i1,0,0⟩):=by
  unfold zbN
  rw[zay]
  cases hw:isW [113,117,101,114,121] (L.drop i1) with
  | true =>
   simp only[if_true]
   exact⟨i1+1,zt L i1,by rw[Ze hw]⟩
  | false =>
   simp only[Al7,if_false]
   refine⟨by decide,?_⟩
   have e:(yc 2 ⟨i1,0,0⟩:St).e≠0:=by simp[yc]
   rw[zR e];rfl
 refine h2.bind (β:=SR) (g:=fun q=>zdu L d (zd L [58] q.2)) (fun _ i2 _ _=>?_) fun q hq=>by (try simp only);rw[zC hq];exact zaO hq
 refine(yN L [58] i2 0).bind (β:=SR) (g:=fun q=>zdu L d q.2) (fun _ i3 _ _=>?_) fun q hq=>zaO hq
 refine(yb L i3 0).bind (β:=SR) (g:=fun q=>zfC L d q.1 q.2) (fun qn i4 _ _=>?_) fun q hq=>zd7 hq
 have h3:ZI L (if isW [109,117,116,97,116,105,111,110] (L.drop i4) then pb (yk [58] (L.drop i4).tail) fun _ t=>ya t else .ok ([],L.drop i4)) 0 (zbd L ⟨i4,0,0⟩):=by
  unfold zbd
  rw[zay]
  cases hw:isW [109,117,116,97,116,105,111,110] (L.drop i4) with
  | true =>
   simp only[if_true]
   rw[Ze hw,zt]
   exact(yN L [58] (i4+1) 0).bind (g:=fun q=>za L q.2) (fun _ i5 _ _=>yb L i5 0) fun q hq=>by (try simp only);rw[zR hq]
  | false=>exact .ok
 refine h3.bind (β:=SR) (g:=fun q=>zev L d qn q.1 q.2) (fun m i5 _ _=>?_) fun q hq=>by simp only[zev];rw[zC hq]
 exact(yN L [125] i5 0).bind (β:=SR) (g:=fun q=>(⟨d.defs,qn,m,true⟩,q.2)) (fun _ _ _ _=>.ok) fun q hq=>rfl
theorem zaL {L:TS} {d:SR} {f:TS→PR DefD} {fS:St→DefD×St} (hf:SimS L f 0 fS) (i:Nat):ZI L (pb (f (L.drop i)) fun x t=>.ok (Zy d x,t)) 0 (zcA d (fS ⟨i,0,0⟩)) :=
 (hf.rel i).bind (β:=SR) (g:=fun q=>zcA d q) (fun _ _ _ _=>.ok) fun q hq=>rfl
theorem zap {v w:List UInt8} (hvw:v≠w) {t:TS} (h:isW v t=true):isW w t=false:=by
 simp only[isW,Al0,zu] at h
 simp[isW,h.1,h.2,hvw]
theorem zil {L:TS} (hL:∀ x∈L,yI x) (d:SR) (hd:d.told=decide (d.q≠[])) (i:Nat):ZI L (YL d (L.drop i)) 0 (YB L d ⟨i,0,0⟩):=by
 unfold YL YB
 simp only[zay]
 have hq:((d.told=false∧isW [115,99,104,101,109,97] (L.drop i)=true)↔(isW [115,99,104,101,109,97] (L.drop i)&&decide (d.q=[]))=true):=by
  rw[hd];simp[and_comm]
 by_cases h0:d.told=false∧isW [115,99,104,101,109,97] (L.drop i)=true
 ·rw[if_pos h0,if_neg (by rw[zap (w:=[116,121,112,101]) (by decide) h0.2];decide),if_neg (by rw[zap (w:=[105,110,116,101,114,102,97,99,101]) (by decide) h0.2];decide),if_neg (by rw[zap (w:=[117,110,105,111,110]) (by decide) h0.2];decide),
   if_neg (by rw[zap (w:=[101,110,117,109]) (by decide) h0.2];decide),if_neg (by rw[zap (w:=[105,110,112,117,116]) (by decide) h0.2];decide),if_pos (hq.1 h0),Ze h0.2,zt]
  exact(zhG d).rel (i+1)
 rw[if_neg h0]
 cases h1:isW [116,121,112,101] (L.drop i) with
 | true=>simp only[if_true];rw[Ze h1,zt];exact zaL (zf6 hL 1) (i+1)
 | false =>
 simp only[Al7,if_false]
 cases h2:isW [105,110,116,101,114,102,97,99,101] (L.drop i) with
 | true=>simp only[if_true];rw[Ze h2,zt];exact zaL (zf6 hL 2) (i+1)
 | false =>
 simp only[Al7,if_false]
 cases h3:isW [117,110,105,111,110] (L.drop i) with
 | true=>simp only[if_true];rw[Ze h3,zt];exact zaL zgm (i+1)
 | false =>
 simp only[Al7,if_false]
 cases h4:isW [101,110,117,109] (L.drop i) with
 | true=>simp only[if_true];rw[Ze h4,zt];exact zaL zhW (i+1)
 | false =>
 simp only[Al7,if_false]
 cases h5:isW [105,110,112,117,116] (L.drop i) with
 | true=>simp only[if_true];rw[Ze h5,zt];exact zaL (zgw hL) (i+1)
 | false =>
 simp only[Al7,if_false]
 rw[if_neg fun h=>h0 (hq.2 h)]
 exact⟨by decide,rfl⟩
theorem zcH {L:TS} (hL:∀ x∈L,yI x) (d:SR) (hd:d.told=decide (d.q≠[])) (i:Nat):ZI L (zN d (L.drop i)) 0 (zZ L d ⟨i,0,0⟩):=by
 obtain⟨j,e1,e2⟩:=zb4 (L:=L) (i:=i) (dp:=0)
 unfold zN zZ
 rw[e1,e2]
 exact zil hL d hd j
theorem zbx {L:TS} {n:Nat} {b:Bool} {d:SR} {s:St} (h:s.e≠0):ZO L n b d s=(d,s):=by
 cases n with
 | zero=>rfl
 | succ n=>simp[ZO,h]
theorem zji {s:List UInt8} (h:zaD s=true):s≠[]:=fun e=>by subst e;simp[zaD,zeF] at h
theorem zbK {d:SR} {t:TS} {d':SR} {t':TS} (hr:RT t) (hd:d.told=decide (d.q≠[])) (h:zN d t=.ok (d',t')):d'.told=decide (d'.q≠[]):=by
 unfold zN at h
 have hr:=hr.said
 generalize zI t=u at h hr
 have put:∀ {f:TS→PR DefD},pb (f u.tail) (fun x t=>(.ok (Zy d x,t):PR SR))=.ok (d',t')→d'.told=decide (d'.q≠[]):=fun {f} h=>by
  obtain⟨x,t1,h1,h2⟩:=zj h
  cases h2
  exact hd
 unfold YL at h
 split at h
 ·have hr:=hr.tail
  obtain⟨_,t1,h1,h2⟩:=zj h
  obtain⟨_,t2,h3,h4⟩:=zj h2
  obtain⟨_,t3,h5,h6⟩:=zj h4
  obtain⟨q,t4,h7,h8⟩:=zj h6
  obtain⟨m,t5,h9,h10⟩:=zj h8
  obtain⟨_,t6,h11,h12⟩:=zj h10
  cases h12
  have g1:=zhg _ _ _ _ hr h1
  have g2:RT t2:=by
   split at h3
   ·cases h3;exact g1.2.tail
   ·cases h3
  have g3:=zhg _ _ _ _ g2 h5
  have g4:=zj3 _ _ _ g3.2 h7
  exact(decide_eq_true (zji g4.1)).symm
 split at h
 ·exact put h
 split at h
 ·exact put h
 split at h
 ·exact put h
 split at h
 ·exact put h
 split at h
 ·exact put h
 ·cases h
theorem RT.drop {t:TS} (h:RT t) (i:Nat):RT (t.drop i):=fun x hx=>h x (List.mem_of_mem_drop hx)
theorem za1 {x:Tok} (h:Zn x=true):yI x:=fun hk=>by
 unfold Zn at h
 rw[if_neg (by omega),if_neg (by omega),if_pos hk] at h
 simpa using h
theorem zdG {L:TS} (hL:RT L):∀(n k:Nat) (d:SR) (i:Nat),d.told=decide (d.q≠[])→L.length-i<n→L.length-i<k→ZI L (Yu n d (L.drop i)) 0 (ZO L k false d ⟨i,0,0⟩)
 | 0,_,_,_,_,h,_=>by omega
 | _,0,_,_,_,_,h=>by omega
 | n+1,k+1,d,i,hd,h1,h2=>by
  simp only[Yu,ZO,Al7,false_or,true_and]
  by_cases hi:i<L.length
  ·rw[if_neg (by simp;omega),if_pos hi]
   refine(zcH (fun x hx=>za1 (hL x hx)) d hd i).bind (β:=SR) (g:=fun q=>ZO L k false q.1 q.2) (fun d' i1 e1 _=>?_) fun q hq=>by (try simp only);rw[zbx hq]
   have hs:=(YR e1).suf
   have hlt:(L.drop i1).length<(L.drop i).length:=by
    have hw:=(YR e1).w
    have hq:bSR d≤bSR d'+bSR d:=by omega
    by_cases heq:(L.drop i1).length=(L.drop i).length
    ·have:=hs.eq_of_length heq
     rw[this] at e1
     exact absurd e1 (zcN d d' _)
    ·have:=hs.length_le;omega
   simp only[zU] at hlt
   exact zdG hL n k d' i1 (zbK (hL.drop i) hd e1) (by omega) (by omega)
  ·rw[if_pos (by simp;omega),if_neg hi]
   exact .ok
theorem ziZ {L:TS} (hL:RT L):ZI L (zcj L) 0 (ZO L (L.length+2) true sr0 ⟨0,0,0⟩):=by
 rw[ZO]
 simp only[true_or,and_self,if_true]
 have h:=zcH (fun x hx=>za1 (hL x hx)) sr0 rfl 0
 rw[List.drop_zero] at h
 refine h.bind (β:=SR) (g:=fun q=>ZO L (L.length+1) false q.1 q.2) (fun d i e1 _=>?_) fun q hq=>by (try simp only);rw[zbx hq]
 exact zdG hL _ _ d i (zbK hL rfl e1) (by simp) (by omega)
abbrev Y8 (H:Heap) (r:Nat) (L t:TS) (dp:Nat):Prop:=∃ p,p++t=L∧H r=some (prc L p dp)
section
variable {H:Heap} {r:Nat} {L t:TS} {dp:Nat}
theorem zba (hl:wT L≤zk):L.length≤zk:=Nat.le_trans (Zp L) hl
theorem zlu (h:Y8 H r L t dp) (m:List UInt8):ACalls Tryz.prog 158 [.ptr r 0,.str m] H (fun e H'=>∃ v,e=.ret v∧(v=.bool (isW m t)∧H'=H)) :=
 let ⟨_,hp,hr⟩:=h;zlO hp hr m
theorem zfx (h:Y8 H r L t dp) (hl:wT L≤zk) (m:List UInt8):ACalls Tryz.prog 98 [.ptr r 0,.str m] H (fun e H'=>∃ v,e=.ret v∧(v=.bool (isP m t)∧Pat H r L (Zu m t) dp H')) :=
 let ⟨_,hp,hr⟩:=h;zbe hp (zba hl) hr m
theorem Yw (h:Y8 H r L t dp) (hl:wT L≤zk) (m:List UInt8):ACalls Tryz.prog 100 [.ptr r 0,.str m] H (fun e H'=>∃ v,e=.ret v∧(v=.bool (isW m t)∧Pat H r L (z1 m t) dp H')) :=
 let ⟨_,hp,hr⟩:=h;zlL hp (zba hl) hr m
theorem YY (h:Y8 H r L t dp) (hl:wT L≤zk) (m:List UInt8):ACalls Tryz.prog 84 [.ptr r 0,.str m] H (RpE H r L dp (yk m t) fun _=>.tup []) :=
 let ⟨_,hp,hr⟩:=h;zfb hp (zba hl) hr m
theorem zav (h:Y8 H r L t dp) (hl:wT L≤zk):ACalls Tryz.prog 85 [.ptr r 0] H (RpE H r L dp (ya t) AV.str) :=
 let ⟨_,hp,hr⟩:=h;zdq hp (zba hl) hr
theorem ziL (h:Y8 H r L t dp) (hl:wT L≤zk):ACalls Tryz.prog 38 [.ptr r 0] H (RpE H r L dp (zan 4 t) (fun x=>.agg (cTy x))) :=
 let ⟨_,hp,hr⟩:=h;zk2 hp hl hr
theorem zld (h:Y8 H r L t (16-16)) (hl:wT L≤zk):ACalls Tryz.prog 33 [.ptr r 0,.bool true] H (RpE H r L (16-16) (yW true 16 t) fun v=>.agg (cV v)) :=
 let ⟨p,hp,hr⟩:=h;zck true 16 (Al4 _) _ r L p t hp hl hr
theorem zkL (h:Y8 H r L t (16-16)) (hl:wT L≤zk):ACalls Tryz.prog 196 [.ptr r 0,.bool true] H (RpE H r L (16-16) (zbf true 16 t) (fun l=>.sl .no 2 (cDs l))) :=
 let ⟨_,hp,hr⟩:=h;zk7 (Al4 _) hp hl hr
end
theorem zaS {H:Heap} {r:Nat} {L t:TS} {dp:Nat} (h:Y8 H r L t dp) (hl:wT L≤zk):ACalls Tryz.prog 99 [.ptr r 0] H (fun e H'=>∃ v,e=.ret v∧(v=.tup []∧Pat H r L (zI t) dp H')):=by
 refine ACalls.go ir99 ck99 (Al4 _) fun KP Q hQ=>?_
 have hll:=zba hl
 simp only[zk] at hll
 obtain⟨p,hs,hr⟩:=h
 have hlen:p.length+t.length=L.length:=by rw[← hs];simp
 have hr':=hr
 simp only[prc] at hr'
 simp(disch:=omega) only[ir99,go_sem]
 refine goK_ret (zfW hs hr) fun v H1 ⟨hv,hH⟩=>?_
 subst hv;subst hH
 by_cases hk:(hdT t).k=5
 ·have hk':=eq_true hk
  simp(disch:=omega) only[zw,hk',hr',wrap64,go_sem]
  refine hQ _ _ _ _ [] nofun rfl (Low.refl _) ⟨rfl,?_⟩
  rw[show zI t=t.tail from if_pos hk]
  exact Yh hs (by rw[hk];decide) _
 ·simp(disch:=omega) only[zw,hk,go_sem]
  refine hQ _ _ _ _ [] nofun rfl (Low.refl _) ⟨rfl,?_⟩
  rw[show zI t=t from if_neg hk]
  exact Pat.self hs hr
theorem zjr {H:Heap} {r q:Nat} {L t:TS} {A1 A2 A3 A4:AV} (hq:H q=some (.cells [.ptr r 0,A1,A2,A3,A4])) (hqr:q≠r) (h:Y8 H r L t (16-16)) (hl:wT L≤zk) :
  ACalls Tryz.prog 206 [.ptr q 0] H (RpE H r L (16-16) (yy t) (fun x=>.agg (cW x))):=by
 refine yD (ACalls.goO (R:=fun v H'=>zbb H r L (16-16) (yy t) (fun x=>.agg (cW x)) v.strip H') (RP:=fun v H'=>zbt (yy t) v H') ir206 ck206 (Al4 _) fun KP Q hQ hP=>?_)
 have pan:∀(v:AV) (H1:Heap) (n:Int),v=yt n→(yy t)=.error n→KP v H1:=fun v H1 n h1 h2=>hP v H1 H1 (Low.refl _) ⟨n,h2,h1⟩
 have fin:=KI.done hQ
 have hll:=zba hl
 simp only[zk] at hll
 have K0:KI H r L t (16-16) H:=let ⟨_,hs,hr⟩:=h;KI.start hs hr
 have hx:=Eq.refl (yy t)
 have q0:=hq
 conv at hx=>rhs;unfold yy
 simp(disch:=omega) only[ir206,go_sem]
 refine goA_intro fun b2 hb2=>?_
 have hb2H:=hb2
 have n2:=K0.ne hb2H
 have n2s:=Ne.symm n2
 have nq2:q≠b2:=fun e=>by subst e;rw[q0] at hb2;cases hb2
 simp(disch:=omega) only[q0,nq2,go_sem]
 refine goK_ret (zaS (K0.box hb2H).here hl) fun v H1 ⟨hv1,a1⟩=>?_
 subst hv1
 have K1:=(K0.box hb2H).call a1
 have g1_2:=(a1.other n2s).trans (upd_same ..)
 have q1:=(a1.other hqr).trans ((upd_ne nq2).trans q0)
 simp(disch:=omega) only[q1,go_sem]
 refine goK_both (zav K1.here hl) (fun v H2 ⟨s,t2,e2,hv2,a2⟩=>?_) fun v H2 ⟨n,e2,hv2⟩=>pan v H2 n hv2 (by rw[hx,e2];rfl)
 subst hv2
 rw[e2,zl] at hx
 have K2:=K1.call a2
 have g2_2:=(a2.other n2s).trans g1_2
 have q2:=(a2.other hqr).trans q1
 simp(disch:=omega) only[go_sem]
 refine goA_intro fun b3 hb3=>?_
 have h32:b3≠b2:=fun e=>by subst e;rw[g2_2] at hb3;cases hb3
 have hb3H:=K2.none hb3
 have n3:=K0.ne hb3H
 have n3s:=Ne.symm n3
 have nq3:q≠b3:=fun e=>by subst e;rw[q2] at hb3;cases hb3
 simp(disch:=omega) only[q2,nq3,go_sem]
 refine goK_both (YY (K2.box hb3H).here hl _) (fun v H3 ⟨_,t3,e3,hv3,a3⟩=>?_) fun v H3 ⟨n,e3,hv3⟩=>pan v H3 n hv3 (by rw[hx,e3];rfl)
 subst hv3
 rw[e3,zl] at hx
 have K3:=(K2.box hb3H).call a3
 have g3_2:=(a3.other n2s).trans ((upd_ne (Ne.symm h32)).trans g2_2)
 have g3_3:=(a3.other n3s).trans (upd_same ..)
 have q3:=(a3.other hqr).trans ((upd_ne nq3).trans q2)
 simp(disch:=omega) only[q3,go_sem]
 refine goK_both (ziL K3.here hl) (fun v H4 ⟨ty,t4,e4,hv4,a4⟩=>?_) fun v H4 ⟨n,e4,hv4⟩=>pan v H4 n hv4 (by rw[hx,e4];rfl)
 subst hv4
 rw[e4,zl] at hx
 have K4:=K3.call a4
 have g4_2:=(a4.other n2s).trans g3_2
 have g4_3:=(a4.other n3s).trans g3_3
 have q4:=(a4.other hqr).trans q3
 simp(disch:=omega) only[cTy,g4_3,q4,nq3,go_sem]
 refine goK_ret (zfx (K4.box hb3H).here hl _) fun v H5 ⟨hv5,a5⟩=>?_
 subst hv5
 have K5:=(K4.box hb3H).call a5
 have g5_2:=(a5.other n2s).trans ((upd_ne (Ne.symm h32)).trans g4_2)
 have g5_3:=(a5.other n3s).trans (upd_same ..)
 have q5:=(a5.other hqr).trans ((upd_ne nq3).trans q4)
 unfold Zu at a5 K5
 cases hi:isP [61] t4 with
 | true =>
  rw[hi] at hx K5 a5
  simp only[if_true] at hx K5
  simp(disch:=omega) only[q5,go_sem]
  refine goK_both (zld K5.here hl) (fun v H6 ⟨x,t6,e6,hv6,a6⟩=>?_) fun v H6 ⟨n,e6,hv6⟩=>pan v H6 n hv6 (by rw[hx,e6];rfl)
  subst hv6
  rw[e6,zl] at hx
  have K6:=K5.call a6
  have g6_2:=(a6.other n2s).trans g5_2
  have g6_3:=(a6.other n3s).trans g5_3
  have q6:=(a6.other hqr).trans q5
  try simp only[zW] at g6_2
  simp(disch:=omega) only[zh,zf,zc,zg,ze,zb,zm,g6_3,g6_2,h32,Ne.symm h32,zcJ,ziq,zdb,zbg,go_sem]
  refine fin _ _ [.agg (cW ⟨s,ty,true,x⟩)] _ _ (by simp(disch:=omega) only[zh,zf,zc,zg,ze,zb,zm,ir206,resvs,resv,zf2,go_sem]) hx ((K6.box hb3H).box hb2H) (by simp[tupOf,AV.strip,Yv])
 | false =>
  rw[hi] at hx K5 a5
  simp only[Al7,if_false] at hx K5
  try simp only[zW] at g5_2
  simp(disch:=omega) only[g5_3,g5_2,h32,Ne.symm h32,go_sem]
  refine fin _ _ [.agg (.str s::.str ty.nm::.int .i64 ty.lists::.int .i64 ty.musts::.bool false::[.int .i64 0,.int .i64 0,.str [],.sl .nil 5 [],.sl .nil 6 []])] _ _ (by simp(disch:=omega) only[ir206,resvs,resv,go_sem]) hx (K5.box hb2H) (by simp[tupOf,AV.strip,AV.strip1,zf2,zV,cV,cVs,cMs])
theorem zhp {H:Heap} {r q:Nat} {L t:TS} {A1 A2 A3 A4:AV} (m:List UInt8) (hq:H q=some (.cells [.ptr r 0,A1,A2,A3,A4])) (hqr:q≠r) (h:Y8 H r L t (16-16)) (hl:wT L≤zk) :
  ACalls Tryz.prog 162 [.ptr q 0,.str m] H (RpE H r L (16-16) (yS m yy t) (fun l=>.sl .no 10 (cWs l))):=by
 refine yD (ACalls.goO (R:=fun v H'=>zbb H r L (16-16) (yS m yy t) (fun l=>.sl .no 10 (cWs l)) v.strip H') (RP:=fun v H'=>zbt (yS m yy t) v H') ir162 ck162 (Al4 _) fun KP Q hQ hP=>?_)
 have pan:∀(v:AV) (H1:Heap) (n:Int),v=yt n→(yS m yy t)=.error n→KP v H1:=fun v H1 n h1 h2=>hP v H1 H1 (Low.refl _) ⟨n,h2,h1⟩
 have fin:=KI.done hQ
 have hll:=zba hl
 simp only[zk] at hll
 have K0:KI H r L t (16-16) H:=let ⟨_,hs,hr⟩:=h;KI.start hs hr
 have hx:=Eq.refl (yS m yy t)
 have q0:=hq
 conv at hx=>rhs;unfold yS
 simp(disch:=omega) only[ir162,q0,go_sem]
 refine goK_both (zjr q0 hqr K0.here hl) (fun v H1 ⟨x1,t1,e1,hv1,a1⟩=>?_) fun v H1 ⟨n,e1,hv1⟩=>pan v H1 n hv1 (by rw[hx,e1];rfl)
 subst hv1
 rw[e1,zl] at hx
 have K1:=K0.call a1
 have q1:=(a1.other hqr).trans q0
 have hlt1:=yX.lt (by decide) _ _ _ e1
 have hsl:=let ⟨_,hp,_⟩:=h;zaj hp
 obtain⟨R,hR⟩:∃ R,zY m yy (t1.length+1) [x1] t1=R:=⟨_,rfl⟩
 rw[hR] at hx
 simp(disch:=omega) only[zh,zf,zc,zg,ze,zb,zm,zbP,zal,go_sem]
 refine goL_st (fun x:Own×List VarD×TS=>[(5,.sl x.1 10 (cWs x.2.1))]) (fun x H'=>KO H r L x.2.2 (16-16) H' x.1 x.2.1.length 10∧H' q=some (.cells [.ptr r 0,A1,A2,A3,A4])∧(∃ m',x.2.2.length<m'∧zY m yy m' x.2.1 x.2.2=R)∧x.2.1.length+x.2.2.length≤L.length) (fun x=>x.2.2.length) (.full,[x1],t1) (by simp(disch:=omega) only[zh,zf,zc,zg,ze,zb,zm,cWs,List.map_cons,List.map_nil,Yv,go_sem]) ⟨⟨K1,Owned.full _ _ _,nofun⟩,q1,⟨_,Nat.lt_succ_self _,hR⟩,by simp only[List.length_singleton];omega⟩ ?_
 rintro⟨o,l,u⟩ H3 J ⟨K3,q3,⟨m',hm,hR3⟩,hlen⟩ hJ
 simp only at K3 q3 hm hR3 hlen
 obtain⟨m',rfl⟩:∃ j,m'=j+1:=⟨m'-1,by omega⟩
 have hcl:=zfc l
 simp(disch:=omega) only[q3,go_sem]
 refine goK_ret (zfx K3.here hl m) fun v H4 ⟨hv4,a4⟩=>?_
 subst hv4
 have q4:=(a4.other hqr).trans q3
 cases hj:isP m u with
 | true =>
  rw[Zu,hj,if_pos rfl] at a4
  have e1:R=.ok (l,u.tail):=by rw[← hR3,zY,hj];rfl
  rw[e1] at hx
  simp(disch:=omega) only[go_sem]
  refine fin _ _ [.sl o 10 (cWs l)] l u.tail (by simp(disch:=omega) only[ir162,resvs,resv,go_sem]) hx (K3.toKI.call a4) ?_
  simp[tupOf,AV.strip,AV.strip1,zcp]
 | false =>
  rw[Zu,hj] at a4
  have K4:=K3.call (by simpa using a4)
  rw[zY,hj] at hR3
  simp only[Al7,if_false] at hR3
  simp(disch:=omega) only[q4,go_sem]
  refine goK_both (zjr q4 hqr K4.here hl) (fun v H5 ⟨x,t5,e5,hv5,a5⟩=>?_) fun v H5 ⟨n5,e5,hv5⟩=>pan v H5 n5 hv5 (by rw[hx,← hR3,e5];rfl)
  subst hv5
  rw[e5,zl] at hR3
  have hlt:=yX.lt (by decide) _ _ _ e5
  have K5:=K4.call a5
  have q5:=(a5.other hqr).trans q4
  simp(disch:=omega) only[zh,zf,zc,zg,ze,zb,zm,zbP,zal,go_sem]
  refine goP_ownS (by rw[hcl];exact K5.own) (by simp only[hcl,Al2,Al3];omega) (by simp only[hcl,Al2,Al3,maxLen];omega) fun o6 H6 hs6=>?_
  have K6:=K5.app (by simpa[hcl] using hs6)
  have q6:=K5.stay hs6 q5
  simp(disch:=omega) only[zh,zf,zc,zg,ze,zb,zm,zbP,zal,go_sem]
  refine goJ (hJ (o6,l++[x],t5) _ (by simp only;omega) ⟨by simpa using K6,q6,⟨m',by simp only;omega,hR3⟩,by simp only[Al5,Al2,Al3];omega⟩) (by simp(disch:=omega) only[zh,zf,zc,zg,ze,zb,zm,cWs,List.map_append,List.map_cons,List.map_nil,Yv,go_sem])
theorem ze4 {H:Heap} {r q:Nat} {L t:TS} {A1 A2 A3 A4:AV} (hq:H q=some (.cells [.ptr r 0,A1,A2,A3,A4])) (hqr:q≠r) (h:Y8 H r L t (16-16)) (hl:wT L≤zk) :
  ACalls Tryz.prog 160 [.ptr q 0] H (RpE H r L (16-16) (yY t) (fun x=>.agg (cL x))):=by
 refine yD (ACalls.goO (R:=fun v H'=>zbb H r L (16-16) (yY t) (fun x=>.agg (cL x)) v.strip H') (RP:=fun v H'=>zbt (yY t) v H') ir160 ck160 (Al4 _) fun KP Q hQ hP=>?_)
 have pan:∀(v:AV) (H1:Heap) (n:Int),v=yt n→(yY t)=.error n→KP v H1:=fun v H1 n h1 h2=>hP v H1 H1 (Low.refl _) ⟨n,h2,h1⟩
 have fin:=KI.done hQ
 have hll:=zba hl
 simp only[zk] at hll
 have K0:KI H r L t (16-16) H:=let ⟨_,hs,hr⟩:=h;KI.start hs hr
 have hx:=Eq.refl (yY t)
 have q0:=hq
 conv at hx=>rhs;unfold yY
 simp(disch:=omega) only[ir160,go_sem]
 refine goA_intro fun b2 hb2=>?_
 have hb2H:=hb2
 have n2:=K0.ne hb2H
 have n2s:=Ne.symm n2
 have nq2:q≠b2:=fun e=>by subst e;rw[q0] at hb2;cases hb2
 simp(disch:=omega) only[q0,nq2,go_sem]
 refine goK_ret (zaS (K0.box hb2H).here hl) fun v H1 ⟨hv1,a1⟩=>?_
 subst hv1
 have K1:=(K0.box hb2H).call a1
 have g1_2:=(a1.other n2s).trans (upd_same ..)
 have q1:=(a1.other hqr).trans ((upd_ne nq2).trans q0)
 simp(disch:=omega) only[q1,go_sem]
 refine goK_both (zav K1.here hl) (fun v H2 ⟨s,t2,e2,hv2,a2⟩=>?_) fun v H2 ⟨n,e2,hv2⟩=>pan v H2 n hv2 (by rw[hx,e2];rfl)
 subst hv2
 rw[e2,zl] at hx
 have K2:=K1.call a2
 have g2_2:=(a2.other n2s).trans g1_2
 have q2:=(a2.other hqr).trans q1
 simp(disch:=omega) only[go_sem]
 refine goA_intro fun b3 hb3=>?_
 have h32:b3≠b2:=fun e=>by subst e;rw[g2_2] at hb3;cases hb3
 have hb3H:=K2.none hb3
 have n3:=K0.ne hb3H
 have n3s:=Ne.symm n3
 have nq3:q≠b3:=fun e=>by subst e;rw[q2] at hb3;cases hb3
 simp(disch:=omega) only[q2,nq3,go_sem]
 refine goK_ret (zfx (K2.box hb3H).here hl _) fun v H3 ⟨hv3,a3⟩=>?_
 subst hv3
 have K3:=(K2.box hb3H).call a3
 have g3_2:=(a3.other n2s).trans ((upd_ne (Ne.symm h32)).trans g2_2)
 have g3_3:=(a3.other n3s).trans (upd_same ..)
 have q3:=(a3.other hqr).trans ((upd_ne nq3).trans q2)
 unfold Zu at a3 K3
 cases hi:isP [40] t2 with
 | true =>
  rw[hi] at hx K3 a3
  simp only[if_true] at hx K3
  simp(disch:=omega) only[q3,go_sem]
  refine goK_both (zhp [41] q3 hqr K3.here hl) (fun v H4 ⟨ps,t4,e4,hv4,a4⟩=>?_) fun v H4 ⟨n,e4,hv4⟩=>pan v H4 n hv4 (by rw[hx,e4];rfl)
  subst hv4
  rw[e4,zl] at hx
  have K4:=K3.call a4
  have g4_2:=(a4.other n2s).trans g3_2
  have g4_3:=(a4.other n3s).trans g3_3
  have q4:=(a4.other hqr).trans q3
  simp(disch:=omega) only[g4_3,q4,nq3,go_sem]
  refine goK_both (YY (K4.box hb3H).here hl _) (fun v H5 ⟨_,t5,e5,hv5,a5⟩=>?_) fun v H5 ⟨n,e5,hv5⟩=>pan v H5 n hv5 (by rw[hx,e5];rfl)
  subst hv5
  rw[e5,zl] at hx
  have K5:=(K4.box hb3H).call a5
  have g5_2:=(a5.other n2s).trans ((upd_ne (Ne.symm h32)).trans g4_2)
  have g5_3:=(a5.other n3s).trans (upd_same ..)
  have q5:=(a5.other hqr).trans ((upd_ne nq3).trans q4)
  simp(disch:=omega) only[q5,go_sem]
  refine goK_both (ziL K5.here hl) (fun v H6 ⟨ty,t6,e6,hv6,a6⟩=>?_) fun v H6 ⟨n,e6,hv6⟩=>pan v H6 n hv6 (by rw[hx,e6];rfl)
  subst hv6
  rw[e6,zl] at hx
  have K6:=K5.call a6
  have g6_2:=(a6.other n2s).trans g5_2
  have g6_3:=(a6.other n3s).trans g5_3
  have q6:=(a6.other hqr).trans q5
  simp(disch:=omega) only[cTy,g6_3,q6,nq3,go_sem]
  refine goK_both (zkL (K6.box hb3H).here hl) (fun v H7 ⟨d,t7,e7,hv7,a7⟩=>?_) fun v H7 ⟨n,e7,hv7⟩=>pan v H7 n hv7 (by rw[hx,e7];rfl)
  subst hv7
  rw[e7,zl] at hx
  have K7:=(K6.box hb3H).call a7
  have g7_2:=(a7.other n2s).trans ((upd_ne (Ne.symm h32)).trans g6_2)
  have g7_3:=(a7.other n3s).trans (upd_same ..)
  have q7:=(a7.other hqr).trans ((upd_ne nq3).trans q6)
  try simp only[] at g7_2
  simp(disch:=omega) only[g7_3,g7_2,h32,Ne.symm h32,go_sem]
  refine fin _ _ [.agg [.str s,.sl .no 10 (cWs ps),.str ty.nm,.int .i64 ty.lists,.int .i64 ty.musts,.sl .no 2 (cDs d)]] _ _ (by simp(disch:=omega) only[ir160,resvs,resv,go_sem]) hx ((K7.box hb3H).box hb2H) (by simp[tupOf,AV.strip,AV.strip1,cL,cWs])
 | false =>
  rw[hi] at hx K3 a3
  simp only[Al7,if_false,zl] at hx K3
  simp(disch:=omega) only[q3,go_sem]
  refine goK_both (YY K3.here hl _) (fun v H4 ⟨_,t4,e4,hv4,a4⟩=>?_) fun v H4 ⟨n,e4,hv4⟩=>pan v H4 n hv4 (by rw[hx,e4];rfl)
  subst hv4
  rw[e4,zl] at hx
  have K4:=K3.call a4
  have g4_2:=(a4.other n2s).trans g3_2
  have g4_3:=(a4.other n3s).trans g3_3
  have q4:=(a4.other hqr).trans q3
  simp(disch:=omega) only[q4,go_sem]
  refine goK_both (ziL K4.here hl) (fun v H5 ⟨ty,t5,e5,hv5,a5⟩=>?_) fun v H5 ⟨n,e5,hv5⟩=>pan v H5 n hv5 (by rw[hx,e5];rfl)
  subst hv5
  rw[e5,zl] at hx
  have K5:=K4.call a5
  have g5_2:=(a5.other n2s).trans g4_2
  have g5_3:=(a5.other n3s).trans g4_3
  have q5:=(a5.other hqr).trans q4
  simp(disch:=omega) only[cTy,g5_3,q5,nq3,go_sem]
  refine goK_both (zkL (K5.box hb3H).here hl) (fun v H6 ⟨d,t6,e6,hv6,a6⟩=>?_) fun v H6 ⟨n,e6,hv6⟩=>pan v H6 n hv6 (by rw[hx,e6];rfl)
  subst hv6
  rw[e6,zl] at hx
  have K6:=(K5.box hb3H).call a6
  have g6_2:=(a6.other n2s).trans ((upd_ne (Ne.symm h32)).trans g5_2)
  have g6_3:=(a6.other n3s).trans (upd_same ..)
  have q6:=(a6.other hqr).trans ((upd_ne nq3).trans q5)
  try simp only[] at g6_2
  simp(disch:=omega) only[g6_3,g6_2,h32,Ne.symm h32,go_sem]
  refine fin _ _ [.agg [.str s,.sl .nil 10 [],.str ty.nm,.int .i64 ty.lists,.int .i64 ty.musts,.sl .no 2 (cDs d)]] _ _ (by simp(disch:=omega) only[ir160,resvs,resv,go_sem]) hx ((K6.box hb3H).box hb2H) (by simp[tupOf,AV.strip,AV.strip1,cL,cWs])
theorem zh8 {H:Heap} {r q:Nat} {L t:TS} {A1 A2 A3 A4:AV} (m:List UInt8) (hq:H q=some (.cells [.ptr r 0,A1,A2,A3,A4])) (hqr:q≠r) (h:Y8 H r L t (16-16)) (hl:wT L≤zk) :
  ACalls Tryz.prog 159 [.ptr q 0,.str m] H (RpE H r L (16-16) (ZM m t) (fun l=>.sl .no 1 (cT l))):=by
 refine yD (ACalls.goO (R:=fun v H'=>zbb H r L (16-16) (ZM m t) (fun l=>.sl .no 1 (cT l)) v.strip H') (RP:=fun v H'=>zbt (ZM m t) v H') ir159 ck159 (Al4 _) fun KP Q hQ hP=>?_)
 have pan:∀(v:AV) (H1:Heap) (n:Int),v=yt n→(ZM m t)=.error n→KP v H1:=fun v H1 n h1 h2=>hP v H1 H1 (Low.refl _) ⟨n,h2,h1⟩
 have fin:=KI.done hQ
 have hll:=zba hl
 simp only[zk] at hll
 have K0:KI H r L t (16-16) H:=let ⟨_,hs,hr⟩:=h;KI.start hs hr
 have hx:=Eq.refl (ZM m t)
 have q0:=hq
 conv at hx=>rhs;unfold ZM
 simp(disch:=omega) only[ir159,q0,go_sem]
 refine goK_ret (zfx K0.here hl m) fun v H1 ⟨hv1,a1⟩=>?_
 subst hv1
 have K1:=K0.call a1
 have q1:=(a1.other hqr).trans q0
 unfold Zu at K1
 simp(disch:=omega) only[q1,go_sem]
 refine goK_both (zav K1.here hl) (fun v H2 ⟨x1,t2,e2,hv2,a2⟩=>?_) fun v H2 ⟨n,e2,hv2⟩=>pan v H2 n hv2 (by rw[hx,e2];rfl)
 subst hv2
 rw[e2,zl] at hx
 have K2:=K1.call a2
 have q2:=(a2.other hqr).trans q1
 have hsl:=let ⟨_,hp,_⟩:=K1.here;zaj hp
 have hlt1:=(zH).lt (by decide) _ _ _ e2
 obtain⟨R,hR⟩:∃ R,y9 m ya (t2.length+1) [x1] t2=R:=⟨_,rfl⟩
 rw[hR] at hx
 simp(disch:=omega) only[go_sem]
 refine goL_st (fun x:Own×List (List UInt8)×TS=>[(5,.sl x.1 1 (cT x.2.1))]) (fun x H'=>KO H r L x.2.2 (16-16) H' x.1 x.2.1.length 1∧H' q=some (.cells [.ptr r 0,A1,A2,A3,A4])∧(∃ m',x.2.2.length<m'∧y9 m ya m' x.2.1 x.2.2=R)∧x.2.1.length+x.2.2.length≤L.length) (fun x=>x.2.2.length) (.full,[x1],t2) (by simp(disch:=omega) only[cT,List.map_cons,List.map_nil,go_sem]) ⟨⟨K2,Owned.full _ _ _,nofun⟩,q2,⟨_,Nat.lt_succ_self _,hR⟩,by simp only[List.length_singleton];omega⟩ ?_
 rintro⟨o,l,u⟩ H3 J ⟨K3,q3,⟨m',hm,hR3⟩,hlen⟩ hJ
 simp only at K3 q3 hm hR3 hlen
 obtain⟨m',rfl⟩:∃ j,m'=j+1:=⟨m'-1,by omega⟩
 have hcl:=zbn l
 simp(disch:=omega) only[q3,go_sem]
 refine goK_ret (zfx K3.here hl m) fun v H4 ⟨hv4,a4⟩=>?_
 subst hv4
 have q4:=(a4.other hqr).trans q3
 cases hj:isP m u with
 | false =>
  rw[Zu,hj] at a4
  have e1:R=.ok (l,u):=by rw[← hR3,y9,hj];rfl
  rw[e1] at hx
  simp(disch:=omega) only[go_sem]
  refine fin _ _ [.sl o 1 (cT l)] l u (by simp(disch:=omega) only[ir159,resvs,resv,go_sem]) hx (K3.toKI.call (by simpa using a4)) ?_
  simp[tupOf,AV.strip,AV.strip1,yE]
 | true =>
  rw[Zu,hj,if_pos rfl] at a4
  have hlt0:=zcW hj
  have K4:=K3.call a4
  rw[y9,hj,if_pos rfl] at hR3
  simp(disch:=omega) only[q4,go_sem]
  refine goK_both (zav K4.here hl) (fun v H5 ⟨x,t5,e5,hv5,a5⟩=>?_) fun v H5 ⟨n5,e5,hv5⟩=>pan v H5 n5 hv5 (by rw[hx,← hR3,e5];rfl)
  subst hv5
  rw[e5,zl] at hR3
  have hlt:=(zH).lt (by decide) _ _ _ e5
  have K5:=K4.call a5
  have q5:=(a5.other hqr).trans q4
  simp(disch:=omega) only[go_sem]
  refine goP_ownS (by rw[hcl];exact K5.own) (by simp only[hcl,Al2,Al3];omega) (by simp only[hcl,Al2,Al3,maxLen];omega) fun o6 H6 hs6=>?_
  have K6:=K5.app (by simpa[hcl] using hs6)
  have q6:=K5.stay hs6 q5
  simp(disch:=omega) only[go_sem]
  refine goJ (hJ (o6,l++[x],t5) _ (by simp only;omega) ⟨by simpa using K6,q6,⟨m',by simp only;omega,hR3⟩,by simp only[Al5,Al2,Al3];omega⟩) (by simp(disch:=omega) only[cT,List.map_append,List.map_cons,List.map_nil,go_sem])
theorem zkG {H:Heap} {r q:Nat} {L t:TS} {A1 A2 A3 A4:AV} (hq:H q=some (.cells [.ptr r 0,A1,A2,A3,A4])) (hqr:q≠r) (h:Y8 H r L t (16-16)) (hl:wT L≤zk) :
  ACalls Tryz.prog 161 [.ptr q 0] H (RpE H r L (16-16) (Z3 t) AV.str):=by
 refine yD (ACalls.goO (R:=fun v H'=>zbb H r L (16-16) (Z3 t) AV.str v.strip H') (RP:=fun v H'=>zbt (Z3 t) v H') ir161 ck161 (Al4 _) fun KP Q hQ hP=>?_)
 have pan:∀(v:AV) (H1:Heap) (n:Int),v=yt n→(Z3 t)=.error n→KP v H1:=fun v H1 n h1 h2=>hP v H1 H1 (Low.refl _) ⟨n,h2,h1⟩
 have fin:=KI.done hQ
 have hll:=zba hl
 simp only[zk] at hll
 have K0:KI H r L t (16-16) H:=let ⟨_,hs,hr⟩:=h;KI.start hs hr
 have hx:=Eq.refl (Z3 t)
 have q0:=hq
 conv at hx=>rhs;unfold Z3
 simp(disch:=omega) only[ir161,q0,go_sem]
 refine goK_ret (zaS K0.here hl) fun v H1 ⟨hv1,a1⟩=>?_
 subst hv1
 have K1:=K0.call a1
 have q1:=(a1.other hqr).trans q0
 simp(disch:=omega) only[q1,go_sem]
 refine goK_ret (zlu K1.here [116,114,117,101]) fun v H2 ⟨hv2,hH⟩=>?_
 subst hv2;subst hH
 cases hw1:isW [116,114,117,101] (zI t) with
 | true =>
  rw[if_pos (.inl hw1)] at hx
  simp(disch:=omega) only[q1,go_sem]
  exact goK_both (zaA _ r 2) (fun _ _ h=>h.elim) fun v H3 h=>pan v H3 2 h hx
 | false =>
  simp(disch:=omega) only[q1,go_sem]
  refine goK_ret (zlu K1.here [102,97,108,115,101]) fun v H2 ⟨hv2,hH⟩=>?_
  subst hv2;subst hH
  cases hw2:isW [102,97,108,115,101] (zI t) with
  | true =>
   rw[if_pos (.inr (.inl hw2))] at hx
   simp(disch:=omega) only[q1,go_sem]
   exact goK_both (zaA _ r 2) (fun _ _ h=>h.elim) fun v H3 h=>pan v H3 2 h hx
  | false =>
   simp(disch:=omega) only[q1,go_sem]
   refine goK_ret (zlu K1.here [110,117,108,108]) fun v H2 ⟨hv2,hH⟩=>?_
   subst hv2;subst hH
   cases hw3:isW [110,117,108,108] (zI t) with
   | true =>
    rw[if_pos (.inr (.inr hw3))] at hx
    simp(disch:=omega) only[q1,go_sem]
    exact goK_both (zaA _ r 2) (fun _ _ h=>h.elim) fun v H3 h=>pan v H3 2 h hx
   | false =>
    rw[if_neg (by rw[hw1,hw2,hw3];simp)] at hx
    simp(disch:=omega) only[q1,go_sem]
    refine goK_both (zav K1.here hl) (fun v H3 ⟨s,t3,e3,hv3,a3⟩=>?_) fun v H3 ⟨n,e3,hv3⟩=>pan v H3 n hv3 (by rw[hx,e3])
    subst hv3
    rw[e3] at hx
    simp(disch:=omega) only[go_sem]
    exact fin _ _ [.str s] s t3 (by simp(disch:=omega) only[ir161,resvs,resv,go_sem]) hx (K1.call a3) (by simp[tupOf,AV.strip,AV.strip1])
abbrev zE:List AV:=[.int .i64 0,.str [],.sl .nil 1 [],.sl .nil 6 [],.sl .nil 1 [],.sl .nil 10 []]
theorem yM (x:DefD):(cE x).length=6:=rfl
theorem yf (x:DefD):(cE x).take 6=cE x:=rfl
theorem zX (x:FldD):(cL x).length=6:=rfl
theorem zD (x:FldD):(cL x).take 6=cL x:=rfl
theorem zc2 {H:Heap} {r q:Nat} {L t:TS} {A1 A2 A3 A4:AV} (k:Int) (hq:H q=some (.cells [.ptr r 0,A1,A2,A3,A4])) (hqr:q≠r) (h:Y8 H r L t (16-16)) (hl:wT L≤zk) :
  ACalls Tryz.prog 102 [.ptr q 0,.int .i64 k] H (RpE H r L (16-16) (za9 k t) (fun x=>.agg (cE x))):=by
 refine yD (ACalls.goO (R:=fun v H'=>zbb H r L (16-16) (za9 k t) (fun x=>.agg (cE x)) v.strip H') (RP:=fun v H'=>zbt (za9 k t) v H') ir102 ck102 (Al4 _) fun KP Q hQ hP=>?_)
 have pan:∀(v:AV) (H1:Heap) (n:Int),v=yt n→(za9 k t)=.error n→KP v H1:=fun v H1 n h1 h2=>hP v H1 H1 (Low.refl _) ⟨n,h2,h1⟩
 have fin:=KI.done hQ
 have hll:=zba hl
 simp only[zk] at hll
 have K0:KI H r L t (16-16) H:=let ⟨_,hs,hr⟩:=h;KI.start hs hr
 have hx:=Eq.refl (za9 k t)
 have q0:=hq
 conv at hx=>rhs;unfold za9
 simp only[yS] at hx
 simp(disch:=omega) only[ir102,go_sem]
 refine goA_intro fun b4 hb4=>?_
 have hb4H:=hb4
 have n4:=K0.ne hb4H
 have n4s:=Ne.symm n4
 have nq4:q≠b4:=fun e=>by subst e;rw[q0] at hb4;cases hb4
 simp(disch:=omega) only[q0,nq4,go_sem]
 refine goK_both (zav (K0.box hb4H).here hl) (fun v H1 ⟨s,t1,e1,hv1,a1⟩=>?_) fun v H1 ⟨n,e1,hv1⟩=>pan v H1 n hv1 (by rw[hx,e1];rfl)
 subst hv1
 rw[e1,zl] at hx
 have K1:=(K0.box hb4H).call a1
 have g1_4:=(a1.other n4s).trans (upd_same ..)
 have q1:=(a1.other hqr).trans ((upd_ne nq4).trans q0)
 simp(disch:=omega) only[go_sem]
 refine goA_intro fun b5 hb5=>?_
 have h54:b5≠b4:=fun e=>by subst e;rw[g1_4] at hb5;cases hb5
 have hb5H:=K1.none hb5
 have n5:=K0.ne hb5H
 have n5s:=Ne.symm n5
 have nq5:q≠b5:=fun e=>by subst e;rw[q1] at hb5;cases hb5
 simp(disch:=omega) only[q1,nq5,go_sem]
 refine goK_ret (Yw (K1.box hb5H).here hl _) fun v H2 ⟨hv2,a2⟩=>?_
 subst hv2
 have K2:=(K1.box hb5H).call a2
 have g2_4:=(a2.other n4s).trans ((upd_ne (Ne.symm h54)).trans g1_4)
 have g2_5:=(a2.other n5s).trans (upd_same ..)
 have q2:=(a2.other hqr).trans ((upd_ne nq5).trans q1)
 unfold z1 at a2 K2
 cases hi:isW [105,109,112,108,101,109,101,110,116,115] t1 with
 | true =>
  rw[hi] at hx K2 a2
  simp only[if_true] at hx K2
  simp(disch:=omega) only[q2,go_sem]
  refine goK_both (zh8 [38] q2 hqr K2.here hl) (fun v H3 ⟨fs,t3,e3,hv3,a3⟩=>?_) fun v H3 ⟨n,e3,hv3⟩=>pan v H3 n hv3 (by rw[hx,e3];rfl)
  subst hv3
  rw[e3,zl] at hx
  have K3:=K2.call a3
  have g3_4:=(a3.other n4s).trans g2_4
  have g3_5:=(a3.other n5s).trans g2_5
  have q3:=(a3.other hqr).trans q2
  simp(disch:=omega) only[g3_5,q3,nq5,go_sem]
  refine goK_both (YY (K3.box hb5H).here hl _) (fun v H4 ⟨_,t4,e4,hv4,a4⟩=>?_) fun v H4 ⟨n,e4,hv4⟩=>pan v H4 n hv4 (by rw[hx,e4];rfl)
  subst hv4
  rw[e4,zl] at hx
  have K4:=(K3.box hb5H).call a4
  have g4_4:=(a4.other n4s).trans ((upd_ne (Ne.symm h54)).trans g3_4)
  have g4_5:=(a4.other n5s).trans (upd_same ..)
  have q4:=(a4.other hqr).trans ((upd_ne nq5).trans q3)
  simp(disch:=omega) only[g4_5,q4,go_sem]
  refine goK_both (ze4 q4 hqr K4.here hl) (fun v H5 ⟨x1,t5,e5,hv5,a5⟩=>?_) fun v H5 ⟨n,e5,hv5⟩=>pan v H5 n hv5 (by rw[hx,e5];rfl)
  subst hv5
  rw[e5,zl] at hx
  have K5:=K4.call a5
  have g5_4:=(a5.other n4s).trans g4_4
  have g5_5:=(a5.other n5s).trans g4_5
  have q5:=(a5.other hqr).trans q4
  have hlt1:=yu.lt (by decide) _ _ _ e5
  have hsl:=let ⟨_,hp,_⟩:=K4.here;zaj hp
  obtain⟨R,hR⟩:∃ R,zY [125] yY (t5.length+1) [x1] t5=R:=⟨_,rfl⟩
  rw[hR] at hx
  simp(disch:=omega) only[zh,zf,zc,zg,ze,zb,zm,zX,zD,g5_5,go_sem]
  refine goP_ownS (o:=.nil) rfl (by simp only[Al2,Al3];omega) (by simp only[Al2,Al3,maxLen];omega) fun oA HA hsA=>?_
  have Kn:KO H r L t5 (16-16) H5 .nil 0 6:=⟨K5,rfl,nofun⟩
  have KA:=Kn.app (by simpa using hsA)
  have gA5:=Kn.stay (by simpa using hsA) g5_5
  have gA4:=Kn.stay (by simpa using hsA) g5_4
  have qA:=Kn.stay (by simpa using hsA) q5
  simp(disch:=omega) only[zh,zf,zc,zg,ze,zb,zm,gA5,zX,zD,go_sem]
  refine goL_st (fun x:Own×List FldD×TS=>[]) (fun x H'=>KO H r L x.2.2 (16-16) H' x.1 x.2.1.length 6∧H' b5=some (.cells [.int .i64 k,.str s,.sl .no 1 (cT fs),.sl x.1 6 (cLs x.2.1),.sl .nil 1 [],.sl .nil 10 []])∧H' b4=some (.cells zE)∧H' q=some (.cells [.ptr r 0,A1,A2,A3,A4])∧(∃ m',x.2.2.length<m'∧zY [125] yY m' x.2.1 x.2.2=R)∧x.2.1.length+x.2.2.length≤L.length) (fun x=>x.2.2.length) (oA,[x1],t5) (by simp(disch:=omega) only[go_sem]) ⟨KA.box hb5H gA5,by rw[upd_same];simp[cLs,yO],(upd_ne (Ne.symm h54)).trans gA4,(upd_ne nq5).trans qA,⟨_,Nat.lt_succ_self _,hR⟩,by simp only[List.length_singleton];omega⟩ ?_
  rintro⟨o,l,u⟩ H3 J ⟨K3,g35,g34,q3,⟨m',hm,hR3⟩,hlen⟩ hJ
  simp only at K3 g35 g34 q3 hm hR3 hlen
  obtain⟨m',rfl⟩:∃ j,m'=j+1:=⟨m'-1,by omega⟩
  have hcl:=zaa l
  simp(disch:=omega) only[q3,go_sem]
  refine goK_ret (zfx K3.here hl [125]) fun v H4 ⟨hv4,a4⟩=>?_
  subst hv4
  have q4:=(a4.other hqr).trans q3
  have g45:=(a4.other n5s).trans g35
  have g44:=(a4.other n4s).trans g34
  cases hj:isP [125] u with
  | true =>
   rw[Zu,hj,if_pos rfl] at a4
   have e1:R=.ok (l,u.tail):=by rw[← hR3,zY,hj];rfl
   rw[e1] at hx
   simp only[zE] at g44
   simp(disch:=omega) only[g45,g44,h54,Ne.symm h54,go_sem]
   refine fin _ _ [.agg [.int .i64 k,.str s,.sl .no 1 (cT fs),.sl o 6 (cLs l),.sl .nil 1 [],.sl .nil 10 []]] _ u.tail (by simp(disch:=omega) only[ir102,resvs,resv,go_sem]) hx ((K3.toKI.call a4).box hb4H) ?_
   simp[tupOf,AV.strip,AV.strip1,cE,yA,cT,cWs]
  | false =>
   rw[Zu,hj] at a4
   have K4:=K3.call (by simpa using a4)
   rw[zY,hj] at hR3
   simp only[Al7,if_false] at hR3
   simp(disch:=omega) only[q4,g45,go_sem]
   refine goK_both (ze4 q4 hqr K4.here hl) (fun v H5 ⟨x,t5,e5,hv5,a5⟩=>?_) fun v H5 ⟨n5,e5,hv5⟩=>pan v H5 n5 hv5 (by rw[hx,← hR3,e5];rfl)
   subst hv5
   rw[e5,zl] at hR3
   have hlt:=yu.lt (by decide) _ _ _ e5
   have K5:=K4.call a5
   have q5:=(a5.other hqr).trans q4
   have g55:=(a5.other n5s).trans g45
   have g54:=(a5.other n4s).trans g44
   simp(disch:=omega) only[zh,zf,zc,zg,ze,zb,zm,zX,zD,g55,go_sem]
   refine goP_ownS (by rw[hcl];exact K5.own) (by simp only[hcl,Al2,Al3];omega) (by simp only[hcl,Al2,Al3,maxLen];omega) fun o6 H6 hs6=>?_
   have K6:=K5.app (by simpa[hcl] using hs6)
   have q6:=K5.stay hs6 q5
   have g65:=K5.stay hs6 g55
   have g64:=K5.stay hs6 g54
   simp(disch:=omega) only[zh,zf,zc,zg,ze,zb,zm,g65,zX,zD,go_sem]
   refine goJ (hJ (o6,l++[x],t5) _ (by simp only;omega) ⟨by simpa using K6.box hb5H g65,by rw[upd_same];simp[cLs,yO],(upd_ne (Ne.symm h54)).trans g64,(upd_ne nq5).trans q6,⟨m',by simp only;omega,hR3⟩,by simp only[Al5,Al2,Al3];omega⟩) (by simp(disch:=omega) only[go_sem])
 | false =>
  rw[hi] at hx K2 a2
  simp only[Al7,if_false,zl] at hx K2
  simp(disch:=omega) only[q2,go_sem]
  refine goK_both (YY K2.here hl _) (fun v H3 ⟨_,t3,e3,hv3,a3⟩=>?_) fun v H3 ⟨n,e3,hv3⟩=>pan v H3 n hv3 (by rw[hx,e3];rfl)
  subst hv3
  rw[e3,zl] at hx
  have K3:=K2.call a3
  have g3_4:=(a3.other n4s).trans g2_4
  have g3_5:=(a3.other n5s).trans g2_5
  have q3:=(a3.other hqr).trans q2
  simp(disch:=omega) only[g3_5,q3,go_sem]
  refine goK_both (ze4 q3 hqr K3.here hl) (fun v H4 ⟨x1,t4,e4,hv4,a4⟩=>?_) fun v H4 ⟨n,e4,hv4⟩=>pan v H4 n hv4 (by rw[hx,e4];rfl)
  subst hv4
  rw[e4,zl] at hx
  have K4:=K3.call a4
  have g4_4:=(a4.other n4s).trans g3_4
  have g4_5:=(a4.other n5s).trans g3_5
  have q4:=(a4.other hqr).trans q3
  have hlt1:=yu.lt (by decide) _ _ _ e4
  have hsl:=let ⟨_,hp,_⟩:=K3.here;zaj hp
  obtain⟨R,hR⟩:∃ R,zY [125] yY (t4.length+1) [x1] t4=R:=⟨_,rfl⟩
  rw[hR] at hx
  simp(disch:=omega) only[zh,zf,zc,zg,ze,zb,zm,zX,zD,g4_5,go_sem]
  refine goP_ownS (o:=.nil) rfl (by simp only[Al2,Al3];omega) (by simp only[Al2,Al3,maxLen];omega) fun oA HA hsA=>?_
  have Kn:KO H r L t4 (16-16) H4 .nil 0 6:=⟨K4,rfl,nofun⟩
  have KA:=Kn.app (by simpa using hsA)
  have gA5:=Kn.stay (by simpa using hsA) g4_5
  have gA4:=Kn.stay (by simpa using hsA) g4_4
  have qA:=Kn.stay (by simpa using hsA) q4
  simp(disch:=omega) only[zh,zf,zc,zg,ze,zb,zm,gA5,zX,zD,go_sem]
  refine goL_st (fun x:Own×List FldD×TS=>[]) (fun x H'=>KO H r L x.2.2 (16-16) H' x.1 x.2.1.length 6∧H' b5=some (.cells [.int .i64 k,.str s,.sl .nil 1 [],.sl x.1 6 (cLs x.2.1),.sl .nil 1 [],.sl .nil 10 []])∧H' b4=some (.cells zE)∧H' q=some (.cells [.ptr r 0,A1,A2,A3,A4])∧(∃ m',x.2.2.length<m'∧zY [125] yY m' x.2.1 x.2.2=R)∧x.2.1.length+x.2.2.length≤L.length) (fun x=>x.2.2.length) (oA,[x1],t4) (by simp(disch:=omega) only[go_sem]) ⟨KA.box hb5H gA5,by rw[upd_same];simp[cLs,yO],(upd_ne (Ne.symm h54)).trans gA4,(upd_ne nq5).trans qA,⟨_,Nat.lt_succ_self _,hR⟩,by simp only[List.length_singleton];omega⟩ ?_
  rintro⟨o,l,u⟩ H3 J ⟨K3,g35,g34,q3,⟨m',hm,hR3⟩,hlen⟩ hJ
  simp only at K3 g35 g34 q3 hm hR3 hlen
  obtain⟨m',rfl⟩:∃ j,m'=j+1:=⟨m'-1,by omega⟩
  have hcl:=zaa l
  simp(disch:=omega) only[q3,go_sem]
  refine goK_ret (zfx K3.here hl [125]) fun v H4 ⟨hv4,a4⟩=>?_
  subst hv4
  have q4:=(a4.other hqr).trans q3
  have g45:=(a4.other n5s).trans g35
  have g44:=(a4.other n4s).trans g34
  cases hj:isP [125] u with
  | true =>
   rw[Zu,hj,if_pos rfl] at a4
   have e1:R=.ok (l,u.tail):=by rw[← hR3,zY,hj];rfl
   rw[e1] at hx
   simp only[zE] at g44
   simp(disch:=omega) only[g45,g44,h54,Ne.symm h54,go_sem]
   refine fin _ _ [.agg [.int .i64 k,.str s,.sl .nil 1 [],.sl o 6 (cLs l),.sl .nil 1 [],.sl .nil 10 []]] _ u.tail (by simp(disch:=omega) only[ir102,resvs,resv,go_sem]) hx ((K3.toKI.call a4).box hb4H) ?_
   simp[tupOf,AV.strip,AV.strip1,cE,yA,cT,cWs]
  | false =>
   rw[Zu,hj] at a4
   have K4:=K3.call (by simpa using a4)
   rw[zY,hj] at hR3
   simp only[Al7,if_false] at hR3
   simp(disch:=omega) only[q4,g45,go_sem]
   refine goK_both (ze4 q4 hqr K4.here hl) (fun v H5 ⟨x,t5,e5,hv5,a5⟩=>?_) fun v H5 ⟨n5,e5,hv5⟩=>pan v H5 n5 hv5 (by rw[hx,← hR3,e5];rfl)
   subst hv5
   rw[e5,zl] at hR3
   have hlt:=yu.lt (by decide) _ _ _ e5
   have K5:=K4.call a5
   have q5:=(a5.other hqr).trans q4
   have g55:=(a5.other n5s).trans g45
   have g54:=(a5.other n4s).trans g44
   simp(disch:=omega) only[zh,zf,zc,zg,ze,zb,zm,zX,zD,g55,go_sem]
   refine goP_ownS (by rw[hcl];exact K5.own) (by simp only[hcl,Al2,Al3];omega) (by simp only[hcl,Al2,Al3,maxLen];omega) fun o6 H6 hs6=>?_
   have K6:=K5.app (by simpa[hcl] using hs6)
   have q6:=K5.stay hs6 q5
   have g65:=K5.stay hs6 g55
   have g64:=K5.stay hs6 g54
   simp(disch:=omega) only[zh,zf,zc,zg,ze,zb,zm,g65,zX,zD,go_sem]
   refine goJ (hJ (o6,l++[x],t5) _ (by simp only;omega) ⟨by simpa using K6.box hb5H g65,by rw[upd_same];simp[cLs,yO],(upd_ne (Ne.symm h54)).trans g64,(upd_ne nq5).trans q6,⟨m',by simp only;omega,hR3⟩,by simp only[Al5,Al2,Al3];omega⟩) (by simp(disch:=omega) only[go_sem])
theorem zkB {H:Heap} {r q:Nat} {L t:TS} {A1 A2 A3 A4:AV} (hq:H q=some (.cells [.ptr r 0,A1,A2,A3,A4])) (hqr:q≠r) (h:Y8 H r L t (16-16)) (hl:wT L≤zk) :
  ACalls Tryz.prog 104 [.ptr q 0] H (RpE H r L (16-16) (Y2 t) (fun x=>.agg (cE x))):=by
 refine yD (ACalls.goO (R:=fun v H'=>zbb H r L (16-16) (Y2 t) (fun x=>.agg (cE x)) v.strip H') (RP:=fun v H'=>zbt (Y2 t) v H') ir104 ck104 (Al4 _) fun KP Q hQ hP=>?_)
 have pan:∀(v:AV) (H1:Heap) (n:Int),v=yt n→(Y2 t)=.error n→KP v H1:=fun v H1 n h1 h2=>hP v H1 H1 (Low.refl _) ⟨n,h2,h1⟩
 have fin:=KI.done hQ
 have hll:=zba hl
 simp only[zk] at hll
 have K0:KI H r L t (16-16) H:=let ⟨_,hs,hr⟩:=h;KI.start hs hr
 have hx:=Eq.refl (Y2 t)
 have q0:=hq
 conv at hx=>rhs;unfold Y2
 simp only[yS] at hx
 simp(disch:=omega) only[ir104,go_sem]
 refine goA_intro fun b2 hb2=>?_
 have hb2H:=hb2
 have n2:=K0.ne hb2H
 have n2s:=Ne.symm n2
 have nq2:q≠b2:=fun e=>by subst e;rw[q0] at hb2;cases hb2
 simp(disch:=omega) only[q0,nq2,go_sem]
 refine goK_both (zav (K0.box hb2H).here hl) (fun v H1 ⟨s,t1,e1,hv1,a1⟩=>?_) fun v H1 ⟨n,e1,hv1⟩=>pan v H1 n hv1 (by rw[hx,e1];rfl)
 subst hv1
 rw[e1,zl] at hx
 have K1:=(K0.box hb2H).call a1
 have g1_2:=(a1.other n2s).trans (upd_same ..)
 have q1:=(a1.other hqr).trans ((upd_ne nq2).trans q0)
 simp(disch:=omega) only[go_sem]
 refine goA_intro fun b3 hb3=>?_
 have h32:b3≠b2:=fun e=>by subst e;rw[g1_2] at hb3;cases hb3
 have hb3H:=K1.none hb3
 have n3:=K0.ne hb3H
 have n3s:=Ne.symm n3
 have nq3:q≠b3:=fun e=>by subst e;rw[q1] at hb3;cases hb3
 simp(disch:=omega) only[q1,nq3,go_sem]
 refine goK_both (YY (K1.box hb3H).here hl _) (fun v H2 ⟨_,t2,e2,hv2,a2⟩=>?_) fun v H2 ⟨n,e2,hv2⟩=>pan v H2 n hv2 (by rw[hx,e2];rfl)
 subst hv2
 rw[e2,zl] at hx
 have K2:=(K1.box hb3H).call a2
 have g2_2:=(a2.other n2s).trans ((upd_ne (Ne.symm h32)).trans g1_2)
 have g2_3:=(a2.other n3s).trans (upd_same ..)
 have q2:=(a2.other hqr).trans ((upd_ne nq3).trans q1)
 simp(disch:=omega) only[g2_3,q2,go_sem]
 refine goK_both (zkG q2 hqr K2.here hl) (fun v H3 ⟨x1,t3,e3,hv3,a3⟩=>?_) fun v H3 ⟨n,e3,hv3⟩=>pan v H3 n hv3 (by rw[hx,e3];rfl)
 subst hv3
 rw[e3,zl] at hx
 have K3:=K2.call a3
 have g3_2:=(a3.other n2s).trans g2_2
 have g3_3:=(a3.other n3s).trans g2_3
 have q3:=(a3.other hqr).trans q2
 have hlt1:=Ye.lt (by decide) _ _ _ e3
 have hsl:=let ⟨_,hp,_⟩:=K2.here;zaj hp
 obtain⟨R,hR⟩:∃ R,zY [125] Z3 (t3.length+1) [x1] t3=R:=⟨_,rfl⟩
 rw[hR] at hx
 simp(disch:=omega) only[zh,zf,zc,zg,ze,zb,zm,Al3,g3_3,go_sem]
 refine goP_ownS (o:=.nil) rfl (by simp only[Al2,Al3];omega) (by simp only[Al2,Al3,maxLen];omega) fun oA HA hsA=>?_
 have Kn:KO H r L t3 (16-16) H3 .nil 0 1:=⟨K3,rfl,nofun⟩
 have KA:=Kn.app (by simpa using hsA)
 have gA3:=Kn.stay (by simpa using hsA) g3_3
 have gA2:=Kn.stay (by simpa using hsA) g3_2
 have qA:=Kn.stay (by simpa using hsA) q3
 simp(disch:=omega) only[zh,zf,zc,zg,ze,zb,zm,gA3,Al3,go_sem]
 refine goL_st (fun x:Own×List (List UInt8)×TS=>[]) (fun x H'=>KO H r L x.2.2 (16-16) H' x.1 x.2.1.length 1∧H' b3=some (.cells [.int .i64 4,.str s,.sl .nil 1 [],.sl .nil 6 [],.sl x.1 1 (cT x.2.1),.sl .nil 10 []])∧H' b2=some (.cells zE)∧H' q=some (.cells [.ptr r 0,A1,A2,A3,A4])∧(∃ m',x.2.2.length<m'∧zY [125] Z3 m' x.2.1 x.2.2=R)∧x.2.1.length+x.2.2.length≤L.length) (fun x=>x.2.2.length) (oA,[x1],t3) (by simp(disch:=omega) only[go_sem]) ⟨KA.box hb3H gA3,by rw[upd_same];simp[cT,List.map_nil],(upd_ne (Ne.symm h32)).trans gA2,(upd_ne nq3).trans qA,⟨_,Nat.lt_succ_self _,hR⟩,by simp only[List.length_singleton];omega⟩ ?_
 rintro⟨o,l,u⟩ H3 J ⟨K3,g33,g32,q3,⟨m',hm,hR3⟩,hlen⟩ hJ
 simp only at K3 g33 g32 q3 hm hR3 hlen
 obtain⟨m',rfl⟩:∃ j,m'=j+1:=⟨m'-1,by omega⟩
 have hcl:=zbn l
 simp(disch:=omega) only[q3,go_sem]
 refine goK_ret (zfx K3.here hl [125]) fun v H4 ⟨hv4,a4⟩=>?_
 subst hv4
 have q4:=(a4.other hqr).trans q3
 have g43:=(a4.other n3s).trans g33
 have g42:=(a4.other n2s).trans g32
 cases hj:isP [125] u with
 | true =>
  rw[Zu,hj,if_pos rfl] at a4
  have e1:R=.ok (l,u.tail):=by rw[← hR3,zY,hj];rfl
  rw[e1] at hx
  simp only[zE] at g42
  simp(disch:=omega) only[g43,g42,h32,Ne.symm h32,go_sem]
  refine fin _ _ [.agg [.int .i64 4,.str s,.sl .nil 1 [],.sl .nil 6 [],.sl o 1 (cT l),.sl .nil 10 []]] _ u.tail (by simp(disch:=omega) only[ir104,resvs,resv,go_sem]) hx ((K3.toKI.call a4).box hb2H) ?_
  simp[tupOf,AV.strip,AV.strip1,cE,yE,cT,cLs,cWs]
 | false =>
  rw[Zu,hj] at a4
  have K4:=K3.call (by simpa using a4)
  rw[zY,hj] at hR3
  simp only[Al7,if_false] at hR3
  simp(disch:=omega) only[q4,g43,go_sem]
  refine goK_both (zkG q4 hqr K4.here hl) (fun v H5 ⟨x,t5,e5,hv5,a5⟩=>?_) fun v H5 ⟨n5,e5,hv5⟩=>pan v H5 n5 hv5 (by rw[hx,← hR3,e5];rfl)
  subst hv5
  rw[e5,zl] at hR3
  have hlt:=Ye.lt (by decide) _ _ _ e5
  have K5:=K4.call a5
  have q5:=(a5.other hqr).trans q4
  have g53:=(a5.other n3s).trans g43
  have g52:=(a5.other n2s).trans g42
  simp(disch:=omega) only[zh,zf,zc,zg,ze,zb,zm,Al3,g53,go_sem]
  refine goP_ownS (by rw[hcl];exact K5.own) (by simp only[hcl,Al2,Al3];omega) (by simp only[hcl,Al2,Al3,maxLen];omega) fun o6 H6 hs6=>?_
  have K6:=K5.app (by simpa[hcl] using hs6)
  have q6:=K5.stay hs6 q5
  have g63:=K5.stay hs6 g53
  have g62:=K5.stay hs6 g52
  simp(disch:=omega) only[zh,zf,zc,zg,ze,zb,zm,g63,Al3,go_sem]
  refine goJ (hJ (o6,l++[x],t5) _ (by simp only;omega) ⟨by simpa using K6.box hb3H g63,by rw[upd_same];simp[cT,List.map_nil],(upd_ne (Ne.symm h32)).trans g62,(upd_ne nq3).trans q6,⟨m',by simp only;omega,hR3⟩,by simp only[Al5,Al2,Al3];omega⟩) (by simp(disch:=omega) only[go_sem])
theorem zir {H:Heap} {r q:Nat} {L t:TS} {A1 A2 A3 A4:AV} (hq:H q=some (.cells [.ptr r 0,A1,A2,A3,A4])) (hqr:q≠r) (h:Y8 H r L t (16-16)) (hl:wT L≤zk) :
  ACalls Tryz.prog 103 [.ptr q 0] H (RpE H r L (16-16) (ZN t) (fun x=>.agg (cE x))):=by
 refine yD (ACalls.goO (R:=fun v H'=>zbb H r L (16-16) (ZN t) (fun x=>.agg (cE x)) v.strip H') (RP:=fun v H'=>zbt (ZN t) v H') ir103 ck103 (Al4 _) fun KP Q hQ hP=>?_)
 have pan:∀(v:AV) (H1:Heap) (n:Int),v=yt n→(ZN t)=.error n→KP v H1:=fun v H1 n h1 h2=>hP v H1 H1 (Low.refl _) ⟨n,h2,h1⟩
 have fin:=KI.done hQ
 have hll:=zba hl
 simp only[zk] at hll
 have K0:KI H r L t (16-16) H:=let ⟨_,hs,hr⟩:=h;KI.start hs hr
 have hx:=Eq.refl (ZN t)
 have q0:=hq
 conv at hx=>rhs;unfold ZN
 simp(disch:=omega) only[ir103,go_sem]
 refine goA_intro fun b2 hb2=>?_
 have hb2H:=hb2
 have n2:=K0.ne hb2H
 have n2s:=Ne.symm n2
 have nq2:q≠b2:=fun e=>by subst e;rw[q0] at hb2;cases hb2
 simp(disch:=omega) only[q0,nq2,go_sem]
 refine goK_both (zav (K0.box hb2H).here hl) (fun v H1 ⟨s,t1,e1,hv1,a1⟩=>?_) fun v H1 ⟨n,e1,hv1⟩=>pan v H1 n hv1 (by rw[hx,e1];rfl)
 subst hv1
 rw[e1,zl] at hx
 have K1:=(K0.box hb2H).call a1
 have g1_2:=(a1.other n2s).trans (upd_same ..)
 have q1:=(a1.other hqr).trans ((upd_ne nq2).trans q0)
 simp(disch:=omega) only[go_sem]
 refine goA_intro fun b3 hb3=>?_
 have h32:b3≠b2:=fun e=>by subst e;rw[g1_2] at hb3;cases hb3
 have hb3H:=K1.none hb3
 have n3:=K0.ne hb3H
 have n3s:=Ne.symm n3
 have nq3:q≠b3:=fun e=>by subst e;rw[q1] at hb3;cases hb3
 simp(disch:=omega) only[q1,nq3,go_sem]
 refine goK_both (YY (K1.box hb3H).here hl _) (fun v H2 ⟨_,t2,e2,hv2,a2⟩=>?_) fun v H2 ⟨n,e2,hv2⟩=>pan v H2 n hv2 (by rw[hx,e2];rfl)
 subst hv2
 rw[e2,zl] at hx
 have K2:=(K1.box hb3H).call a2
 have g2_2:=(a2.other n2s).trans ((upd_ne (Ne.symm h32)).trans g1_2)
 have g2_3:=(a2.other n3s).trans (upd_same ..)
 have q2:=(a2.other hqr).trans ((upd_ne nq3).trans q1)
 simp(disch:=omega) only[q2,go_sem]
 refine goK_both (zh8 [124] q2 hqr K2.here hl) (fun v H3 ⟨l,t3,e3,hv3,a3⟩=>?_) fun v H3 ⟨n,e3,hv3⟩=>pan v H3 n hv3 (by rw[hx,e3];rfl)
 subst hv3
 rw[e3,zl] at hx
 have K3:=K2.call a3
 have g3_2:=(a3.other n2s).trans g2_2
 have g3_3:=(a3.other n3s).trans g2_3
 have q3:=(a3.other hqr).trans q2
 simp(disch:=omega) only[g3_3,g3_2,h32,Ne.symm h32,go_sem]
 refine fin _ _ [.agg [.int .i64 3,.str s,.sl .nil 1 [],.sl .nil 6 [],.sl .no 1 (cT l),.sl .nil 10 []]] _ _ (by simp(disch:=omega) only[ir103,resvs,resv,go_sem]) hx ((K3.box hb3H).box hb2H) (by simp[tupOf,AV.strip,AV.strip1,cE,cT,cWs,cLs])
theorem ziV {H:Heap} {r q:Nat} {L t:TS} {A1 A2 A3 A4:AV} (hq:H q=some (.cells [.ptr r 0,A1,A2,A3,A4])) (hqr:q≠r) (h:Y8 H r L t (16-16)) (hl:wT L≤zk) :
  ACalls Tryz.prog 105 [.ptr q 0] H (RpE H r L (16-16) (ZQ t) (fun x=>.agg (cE x))):=by
 refine yD (ACalls.goO (R:=fun v H'=>zbb H r L (16-16) (ZQ t) (fun x=>.agg (cE x)) v.strip H') (RP:=fun v H'=>zbt (ZQ t) v H') ir105 ck105 (Al4 _) fun KP Q hQ hP=>?_)
 have pan:∀(v:AV) (H1:Heap) (n:Int),v=yt n→(ZQ t)=.error n→KP v H1:=fun v H1 n h1 h2=>hP v H1 H1 (Low.refl _) ⟨n,h2,h1⟩
 have fin:=KI.done hQ
 have hll:=zba hl
 simp only[zk] at hll
 have K0:KI H r L t (16-16) H:=let ⟨_,hs,hr⟩:=h;KI.start hs hr
 have hx:=Eq.refl (ZQ t)
 have q0:=hq
 conv at hx=>rhs;unfold ZQ
 simp(disch:=omega) only[ir105,go_sem]
 refine goA_intro fun b2 hb2=>?_
 have hb2H:=hb2
 have n2:=K0.ne hb2H
 have n2s:=Ne.symm n2
 have nq2:q≠b2:=fun e=>by subst e;rw[q0] at hb2;cases hb2
 simp(disch:=omega) only[q0,nq2,go_sem]
 refine goK_both (zav (K0.box hb2H).here hl) (fun v H1 ⟨s,t1,e1,hv1,a1⟩=>?_) fun v H1 ⟨n,e1,hv1⟩=>pan v H1 n hv1 (by rw[hx,e1];rfl)
 subst hv1
 rw[e1,zl] at hx
 have K1:=(K0.box hb2H).call a1
 have g1_2:=(a1.other n2s).trans (upd_same ..)
 have q1:=(a1.other hqr).trans ((upd_ne nq2).trans q0)
 simp(disch:=omega) only[go_sem]
 refine goA_intro fun b3 hb3=>?_
 have h32:b3≠b2:=fun e=>by subst e;rw[g1_2] at hb3;cases hb3
 have hb3H:=K1.none hb3
 have n3:=K0.ne hb3H
 have n3s:=Ne.symm n3
 have nq3:q≠b3:=fun e=>by subst e;rw[q1] at hb3;cases hb3
 simp(disch:=omega) only[q1,nq3,go_sem]
 refine goK_both (YY (K1.box hb3H).here hl _) (fun v H2 ⟨_,t2,e2,hv2,a2⟩=>?_) fun v H2 ⟨n,e2,hv2⟩=>pan v H2 n hv2 (by rw[hx,e2];rfl)
 subst hv2
 rw[e2,zl] at hx
 have K2:=(K1.box hb3H).call a2
 have g2_2:=(a2.other n2s).trans ((upd_ne (Ne.symm h32)).trans g1_2)
 have g2_3:=(a2.other n3s).trans (upd_same ..)
 have q2:=(a2.other hqr).trans ((upd_ne nq3).trans q1)
 simp(disch:=omega) only[q2,go_sem]
 refine goK_both (zhp [125] q2 hqr K2.here hl) (fun v H3 ⟨l,t3,e3,hv3,a3⟩=>?_) fun v H3 ⟨n,e3,hv3⟩=>pan v H3 n hv3 (by rw[hx,e3];rfl)
 subst hv3
 rw[e3,zl] at hx
 have K3:=K2.call a3
 have g3_2:=(a3.other n2s).trans g2_2
 have g3_3:=(a3.other n3s).trans g2_3
 have q3:=(a3.other hqr).trans q2
 simp(disch:=omega) only[g3_3,g3_2,h32,Ne.symm h32,go_sem]
 refine fin _ _ [.agg [.int .i64 5,.str s,.sl .nil 1 [],.sl .nil 6 [],.sl .nil 1 [],.sl .no 10 (cWs l)]] _ _ (by simp(disch:=omega) only[ir105,resvs,resv,go_sem]) hx ((K3.box hb3H).box hb2H) (by simp[tupOf,AV.strip,AV.strip1,cE,cT,cWs,cLs])
theorem zdz {L:TS} {H:Heap} {r:Nat} {s:St} (hl:wT L≤zk) (hr:H r=some (poc L s)):ACalls Tryz.prog 44 [.ptr r 0] H (PQ H r L (.tup []) (zx L s)):=by
 refine ACalls.go ir44 ck44 (Al4 _) fun KP Q hQ=>?_
 have hr':=hr
 simp only[poc] at hr'
 have hll:L.length≤zk:=Nat.le_trans (Zp L) hl
 simp only[zk] at hll
 simp(disch:=omega) only[ir44,go_sem]
 refine goK_ret (zeM hl hr) fun v H1 ⟨hv,hH⟩=>?_
 subst hv;subst hH
 by_cases hk:(s.hd L).k=5
 ·have hk':=eq_true hk
  have hi:=(zfE (L:=L) (s:=s) (by rw[hk];decide)).2
  simp(disch:=omega) only[zw,hk',hr',wrap64,go_sem]
  exact hQ _ _ _ _ [] nofun rfl (Low.refl _) ⟨rfl,by simp[zx,hk,stepS,poc]⟩
 ·simp(disch:=omega) only[zw,hk,go_sem]
  exact hQ _ _ _ _ [] nofun rfl (Low.refl _) ⟨rfl,by simp only[zx,hk,if_false];exact(zi2 hr).symm⟩
theorem zfk {L:TS} {s:St} {D:Int} (h:s.e=0→s.dp=D):(zx L s).e=0→(zx L s).dp=D:=by
 unfold zx stepS;split<;>exact h
theorem zhd {L:TS} {H:Heap} {r:Nat} {s:St} (hl:wT L≤zk) (hn:∀ x∈L,yI x) (hr:H r=some (poc L s)) (hd:s.e=0→s.dp=16-((16:Nat):Int)) :
  ACalls Tryz.prog 164 [.ptr r 0] H (PQ H r L (.agg (cW (yz L s).1)) (yz L s).2):=by
 refine ACalls.go ir164 ck164 (Al4 _) fun KP Q hQ=>?_
 have K0:=KB.start hr
 have eV0:yz L s=zde L (za L (zx L s)).1 (yR L 4 (zd L [58] (za L (zx L s)).2)).1 (yR L 4 (zd L [58] (za L (zx L s)).2)).2:=rfl
 have DN:=yg (zfk (L:=L) hd) (L:=L)
 simp(disch:=omega) only[ir164,go_sem]
 refine goA_intro fun b2 hb2=>?_
 have n2:=K0.ne hb2
 simp(disch:=omega) only[go_sem]
 refine goK_ret (zdz hl (K0.box hb2 _).here) fun v H1 ⟨hv,h1⟩=>?_
 subst hv
 have K1:=(K0.box hb2 _).step h1
 have g12:=oth h1 n2 (upd_same ..)
 simp(disch:=omega) only[go_sem]
 refine goK_ret (zz hl K1.here) fun v H2 ⟨hv,h2⟩=>?_
 subst hv
 have K2:=K1.step h2
 have g22:=oth h2 n2 g12
 generalize (za L (zx L s)).1=nm at *
 generalize (za L (zx L s)).2=s1 at *
 simp(disch:=omega) only[go_sem]
 refine goA_intro fun b3 hb3=>?_
 have h32:b3≠b2:=fun e=>by subst e;rw[g22] at hb3;cases hb3
 have hb3H:=K2.none hb3
 have n3:=K0.ne hb3H
 simp(disch:=omega) only[go_sem]
 refine goK_ret (zq hl (K2.box hb3H _).here _) fun v H3 ⟨hv,h3⟩=>?_
 subst hv
 have K3:=(K2.box hb3H _).step h3
 have g33:=oth h3 n3 (upd_same ..)
 have g32:=oth h3 n2 ((upd_ne (Ne.symm h32)).trans g22)
 simp(disch:=omega) only[go_sem]
 refine goK_ret (zg4 hl 4 (by decide) K3.here) fun v H4 ⟨hv,h4⟩=>?_
 subst hv
 have K4:=K3.step h4
 have g43:=oth h4 n3 g33
 have g42:=oth h4 n2 g32
 have DT:=zc9 (zax (L:=L) (16-((16:Nat):Int)) 4 (by decide)) (yK (L:=L) (m:=[58]) DN)
 generalize (yR L 4 (zd L [58] s1)).1=ty at *
 generalize (yR L 4 (zd L [58] s1)).2=s2 at *
 simp(disch:=omega) only[cTy,g43,go_sem]
 refine goK_ret (Z9 hl (K4.box hb3H _).here _) fun v H5 ⟨hv,h5⟩=>?_
 subst hv
 have K5:=K4.box hb3H (.cells [.str nm,.str ty.nm,.int .i64 ty.lists,.int .i64 ty.musts,.bool false,.int .i64 0,.int .i64 0,.str [],.sl .nil 5 [],.sl .nil 6 []])
 rw[← h5] at K5
 have g53:H5 b3=some (.cells [.str nm,.str ty.nm,.int .i64 ty.lists,.int .i64 ty.musts,.bool false,.int .i64 0,.int .i64 0,.str [],.sl .nil 5 [],.sl .nil 6 []]):=by rw[h5,upd_same]
 have g52:H5 b2=some (.cells zW):=by rw[h5,upd_ne (Ne.symm h32),g42]
 cases hb:isS L [61] s2 with
 | true =>
  have eV:yz L s=(⟨nm,ty,true,(Zf L true 16 (zd L [61] s2)).1⟩,(Zf L true 16 (zd L [61] s2)).2):=by rw[eV0];simp[zde,hb]
  rw[eV] at hQ
  have fin:=KB.done hQ
  simp(disch:=omega) only[go_sem]
  refine goK_ret (zq hl K5.here _) fun v H6 ⟨hv,h6⟩=>?_
  subst hv
  have K6:=K5.step h6
  have g63:=oth h6 n3 g53
  have g62:=oth h6 n2 g52
  simp(disch:=omega) only[go_sem]
  refine goK_ret (zcX hl hn true 16 (Al4 _) K6.here (yK DT)) fun v H7 ⟨hv,h7⟩=>?_
  subst hv
  have K7:=K6.step h7
  have g73:=oth h7 n3 g63
  have g72:=oth h7 n2 g62
  simp(disch:=omega) only[zh,zf,zc,zg,ze,zb,zm,g73,g72,h32,Ne.symm h32,zcJ,ziq,zdb,zbg,go_sem]
  exact fin _ _ [.agg (cW ⟨nm,ty,true,(Zf L true 16 (zd L [61] s2)).1⟩)] (by simp(disch:=omega) only[zh,zf,zc,zg,ze,zb,zm,ir164,resvs,resv,zf2,go_sem]) ((K7.box hb3H _).box hb2 _) (by simp[tupOf,AV.strip,Yv])
 | false =>
  have eV:yz L s=(⟨nm,ty,false,zV⟩,s2):=by rw[eV0];simp[zde,hb]
  rw[eV] at hQ
  have fin:=KB.done hQ
  simp(disch:=omega) only[g53,g52,h32,Ne.symm h32,go_sem]
  exact fin _ _ [.agg (.str nm::.str ty.nm::.int .i64 ty.lists::.int .i64 ty.musts::.bool false::[.int .i64 0,.int .i64 0,.str [],.sl .nil 5 [],.sl .nil 6 []])] (by simp(disch:=omega) only[ir164,resvs,resv,go_sem]) (K5.box hb2 _) (by simp[tupOf,AV.strip,AV.strip1,zf2,zV,cV,cVs,cMs])
theorem zfH {L:TS} {H:Heap} {r:Nat} {s:St} (m:List UInt8) (hl:wT L≤zk) (hn:∀ x∈L,yI x) (hr:H r=some (poc L s)) (hd:s.e=0→s.dp=16-((16:Nat):Int)) :
  ACalls Tryz.prog 108 [.ptr r 0,.str m] H (PQ H r L (.sl .no 10 (cWs (zO L m true (yz L) (L.length+2) [] s).1)) (zd L m (zO L m true (yz L) (L.length+2) [] s).2)):=by
 refine ACalls.go ir108 ck108 (Al4 _) fun KP Q hQ=>?_
 have hll:L.length≤zk:=Nat.le_trans (Zp L) hl
 simp only[zk] at hll
 have K0:=KB.start hr
 obtain⟨R,hR⟩:∃ R,zO L m true (yz L) (L.length+2) [] s=R:=⟨_,rfl⟩
 rw[hR] at hQ
 have hs:SimS L yy (16-((16:Nat):Int)) (yz L):=zby hn
 have hlt:=yX.lt (by decide)
 simp(disch:=omega) only[ir108,go_sem]
 refine goL_st (fun x:Own×List VarD×St=>[(5,.sl x.1 10 (cWs x.2.1))]) (fun x H'=>KBO H r (poc L x.2.2) H' x.1 x.2.1.length 10∧LI L m true (yz L) (16-((16:Nat):Int)) R x.2.1 x.2.2) (fun x=>mS L x.2.2) (.nil,[],s) (by simp(disch:=omega) only[cWs,List.map_nil,go_sem]) ⟨⟨K0,rfl,nofun⟩,LI.start hd hR⟩ ?_
 rintro⟨o,l,u⟩ H3 J ⟨K3,I3⟩ hJ
 simp only at K3 I3
 have gr:=K3.here
 simp only[poc] at gr
 have hcl:=zfc l
 have eR:R=R:=rfl
 by_cases hue:u.e=0
 case neg =>
  simp(disch:=omega) only[gr,hue,go_sem]
  have e1:=I3.stop (by (exact fun h=>hue h.1))
  rw[e1] at hQ
  have fin:=KB.done hQ
  try simp(disch:=omega) only[go_sem]
  refine goK_ret (zq hl K3.here m) fun v H4 ⟨hv,h4⟩=>?_
  subst hv
  simp(disch:=omega) only[go_sem]
  refine fin _ _ [.sl o 10 (cWs l)] rfl (K3.toKB.step h4) ?_
  simp[tupOf,AV.strip,AV.strip1,zcp]
 by_cases hz:l.length=0
 ·have hz':((l.length:Int)=0)=True:=eq_true (by omega)
  simp(disch:=omega) only[gr,hue,hcl,hz',go_sem]
  obtain⟨I4,hm,hl4⟩:=I3.next ⟨hue,(.inl ⟨rfl,hz⟩)⟩ hs hlt
  try simp(disch:=omega) only[go_sem]
  refine goK_ret (zhd hl hn K3.here I3.dp) fun v H5 ⟨hv,h5⟩=>?_
  subst hv
  have K5:=K3.step h5
  simp(disch:=omega) only[zh,zf,zc,zg,ze,zb,zm,zbP,zal,go_sem]
  refine goP_ownS (by rw[hcl];exact K5.own) (by simp only[hcl,Al2,Al3];omega) (by simp only[hcl,Al2,Al3,maxLen];omega) fun o6 H6 hs6=>?_
  have K6:=K5.app (by simpa[hcl] using hs6)
  simp(disch:=omega) only[zh,zf,zc,zg,ze,zb,zm,zbP,zal,go_sem]
  refine goJ (hJ (o6,l++[_],_) _ hm ⟨by simpa using K6,I4⟩) (by simp(disch:=omega) only[zh,zf,zc,zg,ze,zb,zm,cWs,List.map_append,List.map_cons,List.map_nil,Yv,go_sem])
 ·have hz':¬ ((l.length:Int)=0):=by omega
  simp(disch:=omega) only[gr,hue,hcl,hz',go_sem]
  refine goK_ret (Z9 hl K3.here m) fun v H4 ⟨hv,hH⟩=>?_
  subst hv;subst hH
  cases hj:isS L m u with
  | true =>
   have e1:=I3.stop (by (rintro⟨_,⟨_,h⟩|h⟩;exact hz h;rw[hj] at h;cases h))
   rw[e1] at hQ
   have fin:=KB.done hQ
   try simp(disch:=omega) only[go_sem]
   refine goK_ret (zq hl K3.here m) fun v H4 ⟨hv,h4⟩=>?_
   subst hv
   simp(disch:=omega) only[go_sem]
   refine fin _ _ [.sl o 10 (cWs l)] rfl (K3.toKB.step h4) ?_
   simp[tupOf,AV.strip,AV.strip1,zcp]
  | false =>
   obtain⟨I4,hm,hl4⟩:=I3.next ⟨hue,(.inr hj)⟩ hs hlt
   try simp(disch:=omega) only[go_sem]
   refine goK_ret (zhd hl hn K3.here I3.dp) fun v H5 ⟨hv,h5⟩=>?_
   subst hv
   have K5:=K3.step h5
   simp(disch:=omega) only[zh,zf,zc,zg,ze,zb,zm,zbP,zal,go_sem]
   refine goP_ownS (by rw[hcl];exact K5.own) (by simp only[hcl,Al2,Al3];omega) (by simp only[hcl,Al2,Al3,maxLen];omega) fun o6 H6 hs6=>?_
   have K6:=K5.app (by simpa[hcl] using hs6)
   simp(disch:=omega) only[zh,zf,zc,zg,ze,zb,zm,zbP,zal,go_sem]
   refine goJ (hJ (o6,l++[_],_) _ hm ⟨by simpa using K6,I4⟩) (by simp(disch:=omega) only[zh,zf,zc,zg,ze,zb,zm,cWs,List.map_append,List.map_cons,List.map_nil,Yv,go_sem])
theorem zkW {L:TS} (hn:∀ x∈L,yI x) {s:St} (h:s.e=0→s.dp=16-((16:Nat):Int)):(psS L s).2.e=0→(psS L s).2.dp=16-((16:Nat):Int):=by
 have hs:SimS L (fun t=>if isP [40] t then yS [41] yy t.tail else .ok ([],t)) (16-((16:Nat):Int)) (psS L):=⟨fun i=>zgU hn i,fun s h=>by rw[zfh h]⟩
 exact zc9 hs h
theorem YK {L:TS} {H:Heap} {r:Nat} {s:St} (hl:wT L≤zk) (hn:∀ x∈L,yI x) (hr:H r=some (poc L s)) (hd:s.e=0→s.dp=16-((16:Nat):Int)) :
  ACalls Tryz.prog 107 [.ptr r 0] H (PQ H r L (.agg (cL (yn L s).1)) (yn L s).2):=by
 refine ACalls.go ir107 ck107 (Al4 _) fun KP Q hQ=>?_
 have K0:=KB.start hr
 have e0:yn L s=zai L (za L (zx L s)).1 (psS L (za L (zx L s)).2).1 (psS L (za L (zx L s)).2).2:=rfl
 have DN:=yg (zfk (L:=L) hd) (L:=L)
 simp(disch:=omega) only[ir107,go_sem]
 refine goA_intro fun b2 hb2=>?_
 have n2:=K0.ne hb2
 simp(disch:=omega) only[go_sem]
 refine goK_ret (zdz hl (K0.box hb2 _).here) fun v H1 ⟨hv,h1⟩=>?_
 subst hv
 have K1:=(K0.box hb2 _).step h1
 have g12:=oth h1 n2 (upd_same ..)
 simp(disch:=omega) only[go_sem]
 refine goK_ret (zz hl K1.here) fun v H2 ⟨hv,h2⟩=>?_
 subst hv
 have K2:=K1.step h2
 have g22:=oth h2 n2 g12
 generalize (za L (zx L s)).1=nm at *
 generalize (za L (zx L s)).2=s1 at *
 simp(disch:=omega) only[go_sem]
 refine goA_intro fun b3 hb3=>?_
 have h32:b3≠b2:=fun e=>by subst e;rw[g22] at hb3;cases hb3
 have hb3H:=K2.none hb3
 have n3:=K0.ne hb3H
 simp(disch:=omega) only[go_sem]
 refine goK_ret (Z9 hl (K2.box hb3H _).here _) fun v H3 ⟨hv,h3⟩=>?_
 subst hv
 have K3:=K2.box hb3H (.cells [.str nm,.sl .nil 10 [],.str [],.int .i64 0,.int .i64 0,.sl .nil 2 []])
 rw[← h3] at K3
 have g33:H3 b3=some (.cells [.str nm,.sl .nil 10 [],.str [],.int .i64 0,.int .i64 0,.sl .nil 2 []]):=by rw[h3,upd_same]
 have g32:H3 b2=some (.cells [.str [],.sl .nil 10 [],.str [],.int .i64 0,.int .i64 0,.sl .nil 2 []]):=by rw[h3,upd_ne (Ne.symm h32),g22]
 have DPS:=zkW hn DN
 cases hi:isS L [40] s1 with
 | false =>
  have e1:psS L s1=([],s1):=by simp[psS,hi]
  rw[e1] at e0
  simp(disch:=omega) only[go_sem]
  refine goK_ret (zq hl K3.here _) fun v H5 ⟨hv5,h5⟩=>?_
  subst hv5
  have K5:=K3.step h5
  have g53:=oth h5 n3 g33
  have g52:=oth h5 n2 g32
  simp(disch:=omega) only[go_sem]
  refine goK_ret (zg4 hl 4 (by decide) K5.here) fun v H6 ⟨hv6,h6⟩=>?_
  subst hv6
  have K6:=K5.step h6
  have g63:=oth h6 n3 g53
  have g62:=oth h6 n2 g52
  have DT:=zc9 (zax (L:=L) (16-((16:Nat):Int)) 4 (by decide)) (yK (L:=L) (m:=[58]) DN)
  have e2:=e0.trans (show zai L nm ([]:List VarD) s1=YP L nm ([]:List VarD) (yR L 4 (zd L [58] s1)).1 (yR L 4 (zd L [58] s1)).2 from rfl)
  generalize (yR L 4 (zd L [58] s1)).1=ty at *
  generalize (yR L 4 (zd L [58] s1)).2=s6 at *
  rw[e2] at hQ
  have fin:=KB.done hQ
  simp(disch:=omega) only[cTy,g63,go_sem]
  refine goK_ret (zh6 (k:=16) hl hn (Al4 _) (K6.box hb3H _).here DT) fun v H7 ⟨hv7,h7⟩=>?_
  subst hv7
  have K7:=(K6.box hb3H _).step h7
  have g73:=oth h7 n3 (upd_same ..)
  have g72:=oth h7 n2 ((upd_ne (Ne.symm h32)).trans g62)
  simp(disch:=omega) only[g73,g72,h32,Ne.symm h32,go_sem]
  exact fin _ _ [.agg [.str nm,.sl .nil 10 (cWs ([]:List VarD)),.str ty.nm,.int .i64 ty.lists,.int .i64 ty.musts,.sl .no 2 (cDs (zbh L true 16 s6).1)]] (by simp(disch:=omega) only[ir107,resvs,resv,cWs,List.map_nil,go_sem]) ((K7.box hb3H _).box hb2 _) (by simp[tupOf,AV.strip,AV.strip1,YP,cL])
 | true =>
  have e1:psS L s1=((zO L [41] true (yz L) (L.length+2) [] (zd L [40] s1)).1,zd L [41] (zO L [41] true (yz L) (L.length+2) [] (zd L [40] s1)).2):=by simp[psS,hi]
  simp(disch:=omega) only[go_sem]
  refine goK_ret (zq hl K3.here _) fun v H4 ⟨hv,h4⟩=>?_
  subst hv
  have K4:=K3.step h4
  have g43:=oth h4 n3 g33
  have g42:=oth h4 n2 g32
  simp(disch:=omega) only[go_sem]
  refine goK_ret (zfH [41] hl hn K4.here (yK DN)) fun v H8 ⟨hv8,h8⟩=>?_
  have e1a:=congrArg Prod.fst e1
  have e1b:=congrArg Prod.snd e1
  simp only at e1a e1b
  rw[← e1a] at hv8
  rw[← e1b] at h8
  subst hv8
  have K8:=K4.step h8
  have g83:=oth h8 n3 g43
  have g82:=oth h8 n2 g42
  generalize hps:(psS L s1).1=ps at *
  generalize hs8:(psS L s1).2=s8 at *
  simp(disch:=omega) only[g83,go_sem]
  refine goK_ret (zq hl (K8.box hb3H _).here _) fun v H5 ⟨hv5,h5⟩=>?_
  subst hv5
  have K5:=(K8.box hb3H _).step h5
  have g53:=oth h5 n3 (upd_same ..)
  have g52:=oth h5 n2 ((upd_ne (Ne.symm h32)).trans g82)
  simp(disch:=omega) only[go_sem]
  refine goK_ret (zg4 hl 4 (by decide) K5.here) fun v H6 ⟨hv6,h6⟩=>?_
  subst hv6
  have K6:=K5.step h6
  have g63:=oth h6 n3 g53
  have g62:=oth h6 n2 g52
  have DT:=zc9 (zax (L:=L) (16-((16:Nat):Int)) 4 (by decide)) (yK (L:=L) (m:=[58]) DPS)
  have e2:=e0.trans (show zai L nm ps s8=YP L nm ps (yR L 4 (zd L [58] s8)).1 (yR L 4 (zd L [58] s8)).2 from rfl)
  generalize (yR L 4 (zd L [58] s8)).1=ty at *
  generalize (yR L 4 (zd L [58] s8)).2=s6 at *
  rw[e2] at hQ
  have fin:=KB.done hQ
  simp(disch:=omega) only[cTy,g63,go_sem]
  refine goK_ret (zh6 (k:=16) hl hn (Al4 _) (K6.box hb3H _).here DT) fun v H7 ⟨hv7,h7⟩=>?_
  subst hv7
  have K7:=(K6.box hb3H _).step h7
  have g73:=oth h7 n3 (upd_same ..)
  have g72:=oth h7 n2 ((upd_ne (Ne.symm h32)).trans g62)
  simp(disch:=omega) only[g73,g72,h32,Ne.symm h32,go_sem]
  exact fin _ _ [.agg [.str nm,.sl .no 10 (cWs ps),.str ty.nm,.int .i64 ty.lists,.int .i64 ty.musts,.sl .no 2 (cDs (zbh L true 16 s6).1)]] (by simp(disch:=omega) only[ir107,resvs,resv,cWs,List.map_nil,go_sem]) ((K7.box hb3H _).box hb2 _) (by simp[tupOf,AV.strip,AV.strip1,YP,cL])
end Go.Proofs.YtaielcdfcgpbiaaGreatDoor
