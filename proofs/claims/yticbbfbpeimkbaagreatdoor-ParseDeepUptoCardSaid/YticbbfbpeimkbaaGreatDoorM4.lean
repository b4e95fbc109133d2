/- Texts joined: Enc Quo Quo2 Rp Qm Pf Rp2 Rp3 ValF Itoa ValH Jv Jp NumR NumS Jr Pt Rp4. -/
import Derived.Lib.ItoaMem
import Derived.Lib.ParseIntBTie
import Derived.Lib.ValidLaws
import Derived.Test.YticbbfbpeimkbaaGreatDoorM1
import Derived.Test.YticbbfbpeimkbaaGreatDoorM2
import Derived.Test.YticbbfbpeimkbaaGreatDoorM3
set_option maxRecDepth 100000
set_option linter.unusedSimpArgs false
set_option linter.unusedVariables false
namespace Go.Proofs.YticbbfbpeimkbaaGreatDoor
open Go.Ab
theorem bytesOf_len (l:List UInt8):(bytesOf l).length=l.length:=by simp [bytesOf]
theorem bytesOf_app (a b:List UInt8):bytesOf a++bytesOf b=bytesOf (a++b):=by simp [bytesOf]
theorem bytesOf_strip (l:List UInt8):(bytesOf l).map (·.map AV.strip1)=bytesOf l:=by simp [bytesOf,AV.strip1]
theorem byts_of (l:List UInt8):byts (bytesOf l)=some l:=by
 induction l with
 | nil=>rfl
 | cons c r ih =>
  have h:=c.toNat_lt
  simp only [bytesOf,List.map_cons] at ih ⊢
  simp only [byts,ih,Option.map_some]
  rw [if_pos ⟨by omega,by omega⟩]
  simp
theorem bytesOf_one (acc:List UInt8) (c:UInt8):bytesOf acc++[[.int .u8 c.toNat]]=bytesOf (acc++[c]):=bytesOf_app acc [c]
theorem wr32 {n:Nat} (h:n<4294967296):IntKind.wrap .u32 (n:Int)=n:=by
 have e:IntKind.wrap .u32 (n:Int)=(n:Int) % 4294967296:=rfl
 rw [e];omega
theorem wri32 {n:Nat} (h:n<2147483648):IntKind.wrap .i32 (n:Int)=n:=by
 have e:IntKind.wrap .i32 (n:Int)=if (n:Int) % 4294967296≥2147483648 then (n:Int) % 4294967296-4294967296 else (n:Int) % 4294967296:=by
  simp [IntKind.wrap,IntKind.bits,IntKind.signed]
 rw [e];split<;>omega
theorem wr8 (n:Nat):IntKind.wrap .u8 (n:Int)=((n % 256:Nat):Int):=by
 have e:IntKind.wrap .u8 (n:Int)=(n:Int) % 256:=rfl
 rw [e];omega
theorem fd6 (n:Nat):(n:Int).fdiv (2 ^ min 6 IntKind.i32.bits)=((n / 64:Nat):Int):=by
 show (n:Int).fdiv 64=_
 rw [Int.fdiv_eq_ediv_of_nonneg _ (by decide)];omega
theorem fd12 (n:Nat):(n:Int).fdiv (2 ^ min 12 IntKind.i32.bits)=((n / 4096:Nat):Int):=by
 show (n:Int).fdiv 4096=_
 rw [Int.fdiv_eq_ediv_of_nonneg _ (by decide)];omega
theorem fd18 (n:Nat):(n:Int).fdiv (2 ^ min 18 IntKind.i32.bits)=((n / 262144:Nat):Int):=by
 show (n:Int).fdiv 262144=_
 rw [Int.fdiv_eq_ediv_of_nonneg _ (by decide)];omega
theorem leadT:∀ x:Fin 32,IntKind.wrap .u8 ((BitVec.ofInt IntKind.u8.bits 192 ||| BitVec.ofInt IntKind.u8.bits ((x.val:Nat):Int)).toNat:Int)=((UInt8.ofNat (192+x.val)).toNat:Int):=by decide +kernel
theorem leadU:∀ x:Fin 16,IntKind.wrap .u8 ((BitVec.ofInt IntKind.u8.bits 224 ||| BitVec.ofInt IntKind.u8.bits ((x.val:Nat):Int)).toNat:Int)=((UInt8.ofNat (224+x.val)).toNat:Int):=by decide +kernel
theorem leadV:∀ x:Fin 8,IntKind.wrap .u8 ((BitVec.ofInt IntKind.u8.bits 240 ||| BitVec.ofInt IntKind.u8.bits ((x.val:Nat):Int)).toNat:Int)=((UInt8.ofNat (240+x.val)).toNat:Int):=by decide +kernel
theorem contT:∀ x:Fin 256,IntKind.wrap .u8 ((BitVec.ofInt IntKind.u8.bits 128 ||| BitVec.ofInt IntKind.u8.bits (IntKind.wrap .u8 ((BitVec.ofInt IntKind.u8.bits ((x.val:Nat):Int) &&& BitVec.ofInt IntKind.u8.bits 63).toNat:Int))).toNat:Int)=((UInt8.ofNat (128+x.val % 64)).toNat:Int):=by decide +kernel
theorem lead2 {m:Nat} (h:m<32):IntKind.wrap .u8 ((BitVec.ofInt IntKind.u8.bits 192 ||| BitVec.ofInt IntKind.u8.bits (IntKind.wrap .u8 (m:Int))).toNat:Int)=((UInt8.ofNat (192+m)).toNat:Int):=by
 rw [wr8 m,Nat.mod_eq_of_lt (show m<256 by omega)];exact leadT ⟨m,h⟩
theorem lead3 {m:Nat} (h:m<16):IntKind.wrap .u8 ((BitVec.ofInt IntKind.u8.bits 224 ||| BitVec.ofInt IntKind.u8.bits (IntKind.wrap .u8 (m:Int))).toNat:Int)=((UInt8.ofNat (224+m)).toNat:Int):=by
 rw [wr8 m,Nat.mod_eq_of_lt (show m<256 by omega)];exact leadU ⟨m,h⟩
theorem lead4 {m:Nat} (h:m<8):IntKind.wrap .u8 ((BitVec.ofInt IntKind.u8.bits 240 ||| BitVec.ofInt IntKind.u8.bits (IntKind.wrap .u8 (m:Int))).toNat:Int)=((UInt8.ofNat (240+m)).toNat:Int):=by
 rw [wr8 m,Nat.mod_eq_of_lt (show m<256 by omega)];exact leadV ⟨m,h⟩
theorem cont (m:Nat):IntKind.wrap .u8 ((BitVec.ofInt IntKind.u8.bits 128 ||| BitVec.ofInt IntKind.u8.bits (IntKind.wrap .u8 ((BitVec.ofInt IntKind.u8.bits (IntKind.wrap .u8 (m:Int)) &&& BitVec.ofInt IntKind.u8.bits 63).toNat:Int))).toNat:Int)=((UInt8.ofNat (128+m % 64)).toNat:Int):=by
 rw [wr8 m]
 have:=contT ⟨m % 256,Nat.mod_lt _ (by decide)⟩
 simp only at this
 rw [this,Nat.mod_mod_of_dvd m (by decide)]
theorem appNon (n:Nat) (h0:127<n) (h1:n≤1114111) (h2:¬ (55296≤n∧n≤57343)) (acc:List UInt8) (H:Heap) (o:Own) (ho:Owned H o acc.length 1) (hb:acc.length≤Lim) :
  Gives Tryz.prog 356 [.sl o 1 (bytesOf acc),.int .i32 n] H o 1 (bytesOf (acc++encM n)):=by
 refine ACalls.goO ir356 ck356 (Nat.le_refl _) fun KP Q hQ hP=>?_
 have e1:=wr32 (n:=n) (by omega)
 have hal:=bytesOf_len acc
 simp only [Lim] at hb
 have ho':Owned H o (bytesOf acc).length 1:=by rw [hal];exact ho
 have fin:∀ (e:List UInt8) o' H',encM n=e→OwnS H o H' o' ((bytesOf acc).length+e.length) 1→OwnR H o 1 (bytesOf (acc++encM n)) (.sl o' 1 (bytesOf acc++bytesOf e)) H':=fun e o' H' he hs=>by
  rw [he];exact ⟨o',by rw [bytesOf_app],by rw [bytesOf_len,List.length_append];rw [hal] at hs;exact hs⟩
 by_cases h3:n≤2047
 ·have g1:((n:Int)≤2047)=True:=eq_true (by omega)
  simp (disch:=first|omega|assumption) only [ir356,e1,g1,steps,st2,pev,rev,oev,optr,ibin,sbin,ishf,bound,mmAll,mm2,mk,mkArgs,AV.cells,AV.boxable,AV.one,AV.strip1,fillA,fillS,Nat.reduceEqDiff,reduceCtorEq,↓reduceIte,Nat.reduceAdd,Int.reduceNeg,Nat.reduceLeDiff,Int.reduceToNat,Int.reduceEq,Int.reduceLT,Int.reduceLE,Int.reduceAdd,Io,Im,If,Il,Jt,Jf]
  simp only [fd6,lead2 (show n / 64<32 by omega),cont]
  refine goP_ownS ho' (by simp [hal];omega) (by simp [hal,maxLen];omega) fun o' H' hs=>?_
  simp (disch:=first|omega|assumption) only [steps,st2,pev,rev,oev,optr,ibin,sbin,ishf,bound,mmAll,mm2,mk,mkArgs,AV.cells,AV.boxable,AV.one,AV.strip1,fillA,fillS,Nat.reduceEqDiff,reduceCtorEq,↓reduceIte,Nat.reduceAdd,Int.reduceNeg,Nat.reduceLeDiff,Int.reduceToNat,Int.reduceEq,Int.reduceLT,Int.reduceLE,Int.reduceAdd,Io,Im,If,Il,Jt,Jf]
  exact hQ _ _ H' H' [_] nofun rfl (Low.refl _) (fin [_,_] o' H' (by unfold encM;rw [if_neg (by omega),if_pos h3]) hs)
 ·have g1:¬ ((n:Int)≤2047):=by omega
  by_cases h4:n≤65535
  ·by_cases h5:n<55296
   ·have g2:((n:Int)<55296)=True:=eq_true (by omega)
    simp (disch:=first|omega|assumption) only [ir356,e1,g1,g2,steps,st2,pev,rev,oev,optr,ibin,sbin,ishf,bound,mmAll,mm2,mk,mkArgs,AV.cells,AV.boxable,AV.one,AV.strip1,fillA,fillS,Nat.reduceEqDiff,reduceCtorEq,↓reduceIte,Nat.reduceAdd,Int.reduceNeg,Nat.reduceLeDiff,Int.reduceToNat,Int.reduceEq,Int.reduceLT,Int.reduceLE,Int.reduceAdd,Io,Im,If,Il,Jt,Jf]
    simp only [fd6,fd12,lead3 (show n / 4096<16 by omega),cont]
    refine goP_ownS ho' (by simp [hal];omega) (by simp [hal,maxLen];omega) fun o' H' hs=>?_
    simp (disch:=first|omega|assumption) only [steps,st2,pev,rev,oev,optr,ibin,sbin,ishf,bound,mmAll,mm2,mk,mkArgs,AV.cells,AV.boxable,AV.one,AV.strip1,fillA,fillS,Nat.reduceEqDiff,reduceCtorEq,↓reduceIte,Nat.reduceAdd,Int.reduceNeg,Nat.reduceLeDiff,Int.reduceToNat,Int.reduceEq,Int.reduceLT,Int.reduceLE,Int.reduceAdd,Io,Im,If,Il,Jt,Jf]
    exact hQ _ _ H' H' [_] nofun rfl (Low.refl _) (fin [_,_,_] o' H' (by unfold encM;rw [if_neg (by omega),if_neg h3,if_pos h4]) hs)
   ·have g2:¬ ((n:Int)<55296):=by omega
    have g3:((57343:Int)<n)=True:=eq_true (by omega)
    have g4:((n:Int)≤65535)=True:=eq_true (by omega)
    simp (disch:=first|omega|assumption) only [ir356,e1,g1,g2,g3,g4,steps,st2,pev,rev,oev,optr,ibin,sbin,ishf,bound,mmAll,mm2,mk,mkArgs,AV.cells,AV.boxable,AV.one,AV.strip1,fillA,fillS,Nat.reduceEqDiff,reduceCtorEq,↓reduceIte,Nat.reduceAdd,Int.reduceNeg,Nat.reduceLeDiff,Int.reduceToNat,Int.reduceEq,Int.reduceLT,Int.reduceLE,Int.reduceAdd,Io,Im,If,Il,Jt,Jf]
    simp only [fd6,fd12,lead3 (show n / 4096<16 by omega),cont]
    refine goP_ownS ho' (by simp [hal];omega) (by simp [hal,maxLen];omega) fun o' H' hs=>?_
    simp (disch:=first|omega|assumption) only [steps,st2,pev,rev,oev,optr,ibin,sbin,ishf,bound,mmAll,mm2,mk,mkArgs,AV.cells,AV.boxable,AV.one,AV.strip1,fillA,fillS,Nat.reduceEqDiff,reduceCtorEq,↓reduceIte,Nat.reduceAdd,Int.reduceNeg,Nat.reduceLeDiff,Int.reduceToNat,Int.reduceEq,Int.reduceLT,Int.reduceLE,Int.reduceAdd,Io,Im,If,Il,Jt,Jf]
    exact hQ _ _ H' H' [_] nofun rfl (Low.refl _) (fin [_,_,_] o' H' (by unfold encM;rw [if_neg (by omega),if_neg h3,if_pos h4]) hs)
  ·have g2:¬ ((n:Int)<55296):=by omega
   have g3:((57343:Int)<n)=True:=eq_true (by omega)
   have g4:¬ ((n:Int)≤65535):=by omega
   have g5:((65535:Int)<n)=True:=eq_true (by omega)
   have g6:((n:Int)≤1114111)=True:=eq_true (by omega)
   simp (disch:=first|omega|assumption) only [ir356,e1,g1,g2,g3,g4,g5,g6,steps,st2,pev,rev,oev,optr,ibin,sbin,ishf,bound,mmAll,mm2,mk,mkArgs,AV.cells,AV.boxable,AV.one,AV.strip1,fillA,fillS,Nat.reduceEqDiff,reduceCtorEq,↓reduceIte,Nat.reduceAdd,Int.reduceNeg,Nat.reduceLeDiff,Int.reduceToNat,Int.reduceEq,Int.reduceLT,Int.reduceLE,Int.reduceAdd,Io,Im,If,Il,Jt,Jf]
   simp only [fd6,fd12,fd18,lead4 (show n / 262144<8 by omega),cont]
   refine goP_ownS ho' (by simp [hal];omega) (by simp [hal,maxLen];omega) fun o' H' hs=>?_
   simp (disch:=first|omega|assumption) only [steps,st2,pev,rev,oev,optr,ibin,sbin,ishf,bound,mmAll,mm2,mk,mkArgs,AV.cells,AV.boxable,AV.one,AV.strip1,fillA,fillS,Nat.reduceEqDiff,reduceCtorEq,↓reduceIte,Nat.reduceAdd,Int.reduceNeg,Nat.reduceLeDiff,Int.reduceToNat,Int.reduceEq,Int.reduceLT,Int.reduceLE,Int.reduceAdd,Io,Im,If,Il,Jt,Jf]
   exact hQ _ _ H' H' [_] nofun rfl (Low.refl _) (fin [_,_,_,_] o' H' (by unfold encM;rw [if_neg (by omega),if_neg h3,if_neg h4]) hs)
theorem appRune (n:Nat) (h1:n≤1114111) (h2:¬ (55296≤n∧n≤57343)) (acc:List UInt8) (H:Heap) (o:Own) (ho:Owned H o acc.length 1) (hb:acc.length≤Lim) :
  Gives Tryz.prog 346 [.sl o 1 (bytesOf acc),.int .i32 n] H o 1 (bytesOf (acc++encM n)):=by
 refine ACalls.goO ir346 ck346 (Nat.le_refl _) fun KP Q hQ hP=>?_
 have e1:=wr32 (n:=n) (by omega)
 have hal:=bytesOf_len acc
 by_cases h3:n≤127
 ·have g1:((n:Int)≤127)=True:=eq_true (by omega)
  have g2:IntKind.wrap .u8 (n:Int)=((UInt8.ofNat n).toNat:Int):=by rw [wr8];simp
  simp only [Lim] at hb
  simp (disch:=first|omega|assumption) only [ir346,e1,g1,g2,go_sem,↓reduceIte]
  refine goP_ownS (by rw [hal];exact ho) (by simp [hal];omega) (by simp [hal,maxLen];omega) fun o' H' hs=>?_
  simp (disch:=first|omega|assumption) only [go_sem,↓reduceIte]
  refine hQ _ _ H' H' [_] nofun rfl (Low.refl _) ⟨o',?_,?_⟩
  ·have:encM n=[UInt8.ofNat n]:=by unfold encM;rw [if_pos h3]
   rw [this];exact congrArg _ (bytesOf_one _ _)
  ·have:encM n=[UInt8.ofNat n]:=by unfold encM;rw [if_pos h3]
   rw [this,bytesOf_len];simpa [hal] using hs
 ·have g1:¬ ((n:Int)≤127):=by omega
  simp (disch:=first|omega|assumption) only [ir346,e1,g1,go_sem,↓reduceIte]
  refine goK_gives (appNon n (by omega) h1 h2 acc H o ho hb) fun o' H' hs=>?_
  simp (disch:=first|omega|assumption) only [go_sem,↓reduceIte]
  exact hQ _ _ H' H' [_] nofun rfl (Low.refl _) ⟨o',rfl,hs⟩
end Go.Proofs.YticbbfbpeimkbaaGreatDoor
namespace Go.Proofs.YticbbfbpeimkbaaGreatDoor
open Go.Ab
theorem or32T:∀ x:Fin 256,IntKind.wrap .u8 ((BitVec.ofInt IntKind.u8.bits ((x.val:Nat):Int) ||| BitVec.ofInt IntKind.u8.bits 32).toNat:Int)=((UInt8.ofNat x.val ||| 32).toNat:Int):=by decide +kernel
theorem or32 (c:UInt8):IntKind.wrap .u8 ((BitVec.ofInt IntKind.u8.bits (c.toNat:Int) ||| BitVec.ofInt IntKind.u8.bits 32).toNat:Int)=((c ||| 32).toNat:Int):=by
 have:=or32T ⟨c.toNat,c.toNat_lt⟩
 simpa using this
theorem idx_le (l:List UInt8) (c:UInt8):-1≤Lib.indexByte l c∧Lib.indexByte l c<l.length:=by
 induction l with
 | nil=>simp [Lib.indexByte]
 | cons x r ih =>
  simp only [Lib.indexByte,List.length_cons]
  split
  ·omega
  ·split
   ·omega
   ·omega
theorem unitC (s:List UInt8) (hs:s.length≤Lim):Pure Tryz.prog 326 [.str s] (.tup [.int .i64 ((unitM s).getD 0:Nat),.bool (unitM s).isSome]):=by
 refine Pure.go ir326 ck326 (Nat.le_refl _) fun KP Q hQ=>?_
 simp only [Lim] at hs
 by_cases h4:s.length<4
 ·have g1:((s.length:Int)<4)=True:=eq_true (by omega)
  have:unitM s=none:=by
   cases h:unitM s with
   | none=>rfl
   | some u=>have:=unitG_len _ _ _ _ h;omega
  simp (disch:=first|omega|assumption) only [ir326,g1,steps,st2,pev,rev,oev,optr,ibin,sbin,ishf,bound,mmAll,mm2,mk,mkArgs,AV.cells,AV.boxable,AV.one,AV.strip1,fillA,fillS,Nat.reduceEqDiff,reduceCtorEq,↓reduceIte,Nat.reduceAdd,Int.reduceNeg,Nat.reduceLeDiff,Int.reduceToNat,Int.reduceEq,Int.reduceLT,Int.reduceLE,Int.reduceAdd,Io,Im,If,Il,Jt,Jf]
  exact hQ _ _ _ _ nofun rfl (by simp [tupOf,envOf,AV.strip,AV.strip1,this])
 ·have g1:¬ ((s.length:Int)<4):=by omega
  obtain ⟨l,r,hl,hsr⟩:∃ l r:List UInt8,l.length=4∧s=l++r:=⟨s.take 4,s.drop 4,by simp;omega,by simp⟩
  have hl':(l.length:Int)=4:=by omega
  have key:∀ (a b:List UInt8) (u:Nat),l=a++b→unitG b.length (b++r) u=unitG (4-a.length) (s.drop a.length) u:=fun a b u h=>by
   have:a.length+b.length=4:=by rw [← hl,h];simp
   rw [hsr,h,List.append_assoc,List.drop_left];congr 1;omega
  simp (disch:=first|omega|assumption) only [ir326,g1,steps,st2,pev,rev,oev,optr,ibin,sbin,ishf,bound,mmAll,mm2,mk,mkArgs,AV.cells,AV.boxable,AV.one,AV.strip1,fillA,fillS,Nat.reduceEqDiff,reduceCtorEq,↓reduceIte,Nat.reduceAdd,Int.reduceNeg,Nat.reduceLeDiff,Int.reduceToNat,Int.reduceEq,Int.reduceLT,Int.reduceLE,Int.reduceAdd,Io,Im,If,Il,Jt,Jf]
  refine goL_range l 10 (fun u:Nat=>[(4,.int .i64 u)]) (fun done rest u H=>unitG rest.length (rest++r) u=unitM s∧u<16 ^ done.length∧H=Heap.emp) 0 (by simp (disch:=first|omega|assumption) only [steps,st2,pev,rev,oev,optr,ibin,sbin,ishf,bound,mmAll,mm2,mk,mkArgs,AV.cells,AV.boxable,AV.one,AV.strip1,fillA,fillS,Nat.reduceEqDiff,reduceCtorEq,↓reduceIte,Nat.reduceAdd,Int.reduceNeg,Nat.reduceLeDiff,Int.reduceToNat,Int.reduceEq,Int.reduceLT,Int.reduceLE,Int.reduceAdd,Io,Im,If,Il,Jt,Jf]) ⟨by rw [hl,← hsr];rfl,by simp,rfl⟩ ?_ ?_
  ·rintro u H J ⟨hu,_,rfl⟩ hlt
   simp only [List.length_nil,unitG] at hu
   simp (disch:=first|omega|assumption) only [hl',steps,st2,pev,rev,oev,optr,ibin,sbin,ishf,bound,mmAll,mm2,mk,mkArgs,AV.cells,AV.boxable,AV.one,AV.strip1,fillA,fillS,Nat.reduceEqDiff,reduceCtorEq,↓reduceIte,Nat.reduceAdd,Int.reduceNeg,Nat.reduceLeDiff,Int.reduceToNat,Int.reduceEq,Int.reduceLT,Int.reduceLE,Int.reduceAdd,Io,Im,If,Il,Jt,Jf]
   exact hQ _ _ _ _ nofun rfl (by simp [tupOf,envOf,AV.strip,AV.strip1,← hu])
  ·rintro done c rest u H J hd hlt hlt2 ⟨hu,hb,rfl⟩ hJ
   have hd4:done.length<4:=by omega
   have hlt':(done.length:Int)<4:=by omega
   have hlt3:(done.length:Int)<s.length:=by omega
   have hg:s.getD done.length 0=c:=by rw [hsr,hd];simp
   have hpow:16 ^ done.length≤4096:=by
    have:done.length≤3:=by omega
    calc 16 ^ done.length≤16 ^ 3:=Nat.pow_le_pow_right (by decide) this
     _=4096:=rfl
   simp only [List.length_cons,List.cons_append,unitG] at hu
   have hidx:=idx_le hexL (c ||| 32)
   have hc:=c.toNat_lt
   simp only [hexL,List.length_cons,List.length_nil] at hidx
   simp (disch:=first|omega|assumption) only [hlt',hlt3,hg,or32,steps,st2,pev,rev,oev,optr,ibin,sbin,ishf,bound,mmAll,mm2,mk,mkArgs,AV.cells,AV.boxable,AV.one,AV.strip1,fillA,fillS,Nat.reduceEqDiff,reduceCtorEq,↓reduceIte,Nat.reduceAdd,Int.reduceNeg,Nat.reduceLeDiff,Int.reduceToNat,Int.reduceEq,Int.reduceLT,Int.reduceLE,Int.reduceAdd,Io,Im,If,Il,Jt,Jf]
   refine goK_pure (idxByteC hexL (c ||| 32)) ?_
   have no:hexD c=none→(unitM s)=none:=fun e=>by rw [e] at hu;exact hu.symm
   by_cases n1:Lib.indexByte hexL (c ||| 32)<0
   ·have e:hexD c=none:=by unfold hexD;rw [if_pos (.inl n1)]
    simp (disch:=first|omega|assumption) only [n1,steps,st2,pev,rev,oev,optr,ibin,sbin,ishf,bound,mmAll,mm2,mk,mkArgs,AV.cells,AV.boxable,AV.one,AV.strip1,fillA,fillS,Nat.reduceEqDiff,reduceCtorEq,↓reduceIte,Nat.reduceAdd,Int.reduceNeg,Nat.reduceLeDiff,Int.reduceToNat,Int.reduceEq,Int.reduceLT,Int.reduceLE,Int.reduceAdd,Io,Im,If,Il,Jt,Jf]
    exact hQ _ _ _ _ nofun rfl (by simp [tupOf,envOf,AV.strip,AV.strip1,no e])
   obtain ⟨k,hk⟩:∃ k:Nat,Lib.indexByte hexL (c ||| 32)=(k:Int):=⟨(Lib.indexByte hexL (c ||| 32)).toNat,by omega⟩
   have hk16:k<16:=by rw [show Lib.indexByte [48,49,50,51,52,53,54,55,56,57,97,98,99,100,101,102] (c ||| 32)=(k:Int) from hk] at hidx;omega
   have hu4:u<4096:=by omega
   have hkn:¬ ((k:Int)<0):=by omega
   have hnext:hexD c=some k→unitG rest.length (rest++r) (16*u+k)=unitM s∧16*u+k<16 ^ (done++[c]).length∧Heap.emp=Heap.emp:=fun e=>by
    rw [e] at hu
    refine ⟨hu,?_,rfl⟩
    rw [List.length_append,List.length_cons,List.length_nil,Nat.pow_succ];omega
   have hpush:((16*u+k:Nat):Int)=16*(u:Int)+k:=by omega
   by_cases n2:c.toNat<48
   ·have e:hexD c=none:=by unfold hexD;rw [if_pos (.inr (.inl n2))]
    have n2':((c.toNat:Int)<48)=True:=eq_true (by omega)
    simp (disch:=first|omega|assumption) only [hk,hkn,n2',hlt3,hg,steps,st2,pev,rev,oev,optr,ibin,sbin,ishf,bound,mmAll,mm2,mk,mkArgs,AV.cells,AV.boxable,AV.one,AV.strip1,fillA,fillS,Nat.reduceEqDiff,reduceCtorEq,↓reduceIte,Nat.reduceAdd,Int.reduceNeg,Nat.reduceLeDiff,Int.reduceToNat,Int.reduceEq,Int.reduceLT,Int.reduceLE,Int.reduceAdd,Io,Im,If,Il,Jt,Jf]
    exact hQ _ _ _ _ nofun rfl (by simp [tupOf,envOf,AV.strip,AV.strip1,no e])
   have n2':¬ ((c.toNat:Int)<48):=by omega
   by_cases n3:57<c.toNat
   ·have n3':((57:Int)<c.toNat)=True:=eq_true (by omega)
    by_cases n4:c.toNat<65
    ·have e:hexD c=none:=by unfold hexD;rw [if_pos (.inr (.inr ⟨n3,n4⟩))]
     have n4':((c.toNat:Int)<65)=True:=eq_true (by omega)
     simp (disch:=first|omega|assumption) only [hk,hkn,n2',n3',n4',hlt3,hg,steps,st2,pev,rev,oev,optr,ibin,sbin,ishf,bound,mmAll,mm2,mk,mkArgs,AV.cells,AV.boxable,AV.one,AV.strip1,fillA,fillS,Nat.reduceEqDiff,reduceCtorEq,↓reduceIte,Nat.reduceAdd,Int.reduceNeg,Nat.reduceLeDiff,Int.reduceToNat,Int.reduceEq,Int.reduceLT,Int.reduceLE,Int.reduceAdd,Io,Im,If,Il,Jt,Jf]
     exact hQ _ _ _ _ nofun rfl (by simp [tupOf,envOf,AV.strip,AV.strip1,no e])
    ·have e:hexD c=some k:=by unfold hexD;rw [if_neg (by omega),hk];rfl
     have n4':¬ ((c.toNat:Int)<65):=by omega
     simp (disch:=first|omega|assumption) only [hk,hkn,n2',n3',n4',hlt3,hg,wrap64,steps,st2,pev,rev,oev,optr,ibin,sbin,ishf,bound,mmAll,mm2,mk,mkArgs,AV.cells,AV.boxable,AV.one,AV.strip1,fillA,fillS,Nat.reduceEqDiff,reduceCtorEq,↓reduceIte,Nat.reduceAdd,Int.reduceNeg,Nat.reduceLeDiff,Int.reduceToNat,Int.reduceEq,Int.reduceLT,Int.reduceLE,Int.reduceAdd,Io,Im,If,Il,Jt,Jf]
     refine goJ (hJ (16*u+k) _ (hnext e)) (by simp (disch:=first|omega|assumption) only [hpush,steps,st2,pev,rev,oev,optr,ibin,sbin,ishf,bound,mmAll,mm2,mk,mkArgs,AV.cells,AV.boxable,AV.one,AV.strip1,fillA,fillS,Nat.reduceEqDiff,reduceCtorEq,↓reduceIte,Nat.reduceAdd,Int.reduceNeg,Nat.reduceLeDiff,Int.reduceToNat,Int.reduceEq,Int.reduceLT,Int.reduceLE,Int.reduceAdd,Io,Im,If,Il,Jt,Jf])
   ·have e:hexD c=some k:=by unfold hexD;rw [if_neg (by omega),hk];rfl
    have n3':¬ ((57:Int)<c.toNat):=by omega
    simp (disch:=first|omega|assumption) only [hk,hkn,n2',n3',hlt3,hg,wrap64,steps,st2,pev,rev,oev,optr,ibin,sbin,ishf,bound,mmAll,mm2,mk,mkArgs,AV.cells,AV.boxable,AV.one,AV.strip1,fillA,fillS,Nat.reduceEqDiff,reduceCtorEq,↓reduceIte,Nat.reduceAdd,Int.reduceNeg,Nat.reduceLeDiff,Int.reduceToNat,Int.reduceEq,Int.reduceLT,Int.reduceLE,Int.reduceAdd,Io,Im,If,Il,Jt,Jf]
    refine goJ (hJ (16*u+k) _ (hnext e)) (by simp (disch:=first|omega|assumption) only [hpush,steps,st2,pev,rev,oev,optr,ibin,sbin,ishf,bound,mmAll,mm2,mk,mkArgs,AV.cells,AV.boxable,AV.one,AV.strip1,fillA,fillS,Nat.reduceEqDiff,reduceCtorEq,↓reduceIte,Nat.reduceAdd,Int.reduceNeg,Nat.reduceLeDiff,Int.reduceToNat,Int.reduceEq,Int.reduceLT,Int.reduceLE,Int.reduceAdd,Io,Im,If,Il,Jt,Jf])
def cU (l:List Nat):List (List AV):=l.map fun (n:Nat)=>[AV.int .i64 (n:Int)]
theorem cU_len (l:List Nat):(cU l).length=l.length:=by simp [cU]
theorem cU_strip (l:List Nat):(cU l).map (·.map AV.strip1)=cU l:=by simp [cU,AV.strip1]
theorem joinC (us:List Nat) (hl:us.length≤68719476736):Pure Tryz.prog 327 [.sl .no 1 (cU us)] (.tup [.str ((joinM us).getD []),.bool (joinM us).isSome]):=by
 refine Pure.go ir327 ck327 (Nat.le_refl _) fun KP Q hQ=>?_
 have hll:=cU_len us
 simp (disch:=first|omega|assumption) only [ir327,go_sem,↓reduceIte]
 refine goL_st (fun s:List Nat × List Nat × Own × List UInt8=>[(4,.sl s.2.2.1 1 (bytesOf s.2.2.2)),(5,.int .i64 s.1.length)]) (fun s H=>us=s.1++s.2.1∧joinM us=(joinM s.2.1).map (s.2.2.2++·)∧s.2.2.2.length≤2*s.1.length*2∧Owned H s.2.2.1 s.2.2.2.length 1) (fun s=>s.2.1.length) ([],us,.nil,[]) (by simp (disch:=first|omega|assumption) only [go_sem,↓reduceIte];rfl) ⟨rfl,by cases joinM us<;>rfl,by simp,rfl⟩ ?_
 rintro ⟨done,rest,o,out⟩ H J ⟨hd,hj,hle,ho⟩ hJ
 simp only at hd hj hle ho
 have hdl:done.length+rest.length=us.length:=by rw [hd];simp
 cases rest with
 | nil =>
  simp only [List.append_nil] at hd
  have hlt:¬ ((done.length:Int)<us.length):=by rw [hd];omega
  simp (disch:=first|omega|assumption) only [hll,hlt,go_sem,↓reduceIte]
  simp only [joinM,Option.map_some,List.append_nil] at hj
  simp (disch:=first|omega|assumption) only [byts_of,go_sem,↓reduceIte]
  exact hQ _ _ _ _ nofun rfl (by simp [tupOf,envOf,AV.strip,AV.strip1,hj])
 | cons u r =>
  have hlt:((done.length:Int)<us.length):=by simp at hdl;omega
  have hg:(cU us).getD done.length []=[.int .i64 u]:=by rw [hd];simp [cU]
  have hu0:¬ ((u:Int)<0):=by omega
  have hrl:r.length+1+done.length=us.length:=by simp at hdl;omega
  have none_of:joinM (u :: r)=none→joinM us=none:=fun e=>by rw [hj,e];rfl
  have hmax:maxLen=9223372036854775807:=rfl
  by_cases a1:65535<u
  ·have e:=none_of (by rw [joinM.eq_def];simp only;rw [if_pos (.inl a1)])
   have a1':((65535:Int)<u)=True:=eq_true (by omega)
   simp (disch:=first|omega|assumption) only [hll,hlt,hg,hu0,a1',go_sem,↓reduceIte]
   exact hQ _ _ _ _ nofun rfl (by simp [tupOf,envOf,AV.strip,AV.strip1,e])
  have a1':¬ ((65535:Int)<u):=by omega
  by_cases a2:56320≤u∧u≤57343
  ·have e:=none_of (by rw [joinM.eq_def];simp only;rw [if_pos (.inr a2)])
   have a2':((56320:Int)≤u)=True:=eq_true (by omega)
   have a3':((u:Int)≤57343)=True:=eq_true (by omega)
   simp (disch:=first|omega|assumption) only [hll,hlt,hg,hu0,a1',a2',a3',go_sem,↓reduceIte]
   exact hQ _ _ _ _ nofun rfl (by simp [tupOf,envOf,AV.strip,AV.strip1,e])
  by_cases a3:55296≤u∧u<56320
  ·have b1:¬ ((56320:Int)≤u):=by omega
   have b2:((55296:Int)≤u)=True:=eq_true (by omega)
   have b3:((u:Int)<56320)=True:=eq_true (by omega)
   cases r with
   | nil =>
    have e:=none_of (by rw [joinM.eq_def];simp only;rw [if_neg (by omega),if_pos a3])
    have b4:((done.length:Int)+1=us.length)=True:=eq_true (by simp at hrl;omega)
    simp (disch:=first|omega|assumption) only [hll,hlt,hg,hu0,a1',b1,b2,b3,wrap64,b4,go_sem,↓reduceIte]
    exact hQ _ _ _ _ nofun rfl (by simp [tupOf,envOf,AV.strip,AV.strip1,e])
   | cons v r =>
    have b4:¬ ((done.length:Int)+1=us.length):=by simp at hrl;omega
    have b5:((done.length:Int)+1<us.length):=by simp at hrl;omega
    have b6:((done.length:Int)+1).toNat=done.length+1:=by omega
    have hg2:(cU us).getD (done.length+1) []=[.int .i64 v]:=by rw [hd];simp [cU]
    by_cases c1:v<56320
    ·have e:=none_of (by rw [joinM.eq_def];simp only;rw [if_neg (by omega),if_pos a3,if_pos (.inl c1)])
     have c1':((v:Int)<56320)=True:=eq_true (by omega)
     simp (disch:=first|omega|assumption) only [hll,hlt,hg,hu0,a1',b1,b2,b3,wrap64,b4,b5,b6,hg2,c1',go_sem,↓reduceIte]
     exact hQ _ _ _ _ nofun rfl (by simp [tupOf,envOf,AV.strip,AV.strip1,e])
    have c1':¬ ((v:Int)<56320):=by omega
    by_cases c2:57343<v
    ·have e:=none_of (by rw [joinM.eq_def];simp only;rw [if_neg (by omega),if_pos a3,if_pos (.inr c2)])
     have c2':((57343:Int)<v)=True:=eq_true (by omega)
     simp (disch:=first|omega|assumption) only [hll,hlt,hg,hu0,a1',b1,b2,b3,wrap64,b4,b5,b6,hg2,c1',c2',go_sem,↓reduceIte]
     exact hQ _ _ _ _ nofun rfl (by simp [tupOf,envOf,AV.strip,AV.strip1,e])
    have c2':¬ ((57343:Int)<v):=by omega
    have ej:joinM (u :: v :: r)=(joinM r).map (encM (65536+1024*(u-55296)+(v-56320))++·):=by rw [joinM.eq_def];simp only;rw [if_neg (by omega),if_pos a3,if_neg (by omega)]
    obtain ⟨m,hm⟩:∃ m,65536+1024*(u-55296)+(v-56320)=m:=⟨_,rfl⟩
    rw [hm] at ej
    have hm2:(65536+1024*((u:Int)-55296)+v-56320)=(m:Int):=by omega
    have hm3:=(encM_len m).1
    simp (disch:=first|omega|assumption) only [hll,hlt,hg,hu0,a1',b1,b2,b3,wrap64,b4,b5,b6,hg2,c1',c2',hm2,wri32 (show m<2147483648 by omega),go_sem,↓reduceIte]
    refine goK_gives (appRune m (by omega) (by omega) out _ o ho (by simp only [Lim];omega)) fun o' H' hs=>?_
    simp (disch:=first|omega|assumption) only [wrap64,go_sem,↓reduceIte]
    have hown:=hs.own
    rw [bytesOf_len] at hown
    have e5:(((done++[u,v]).length:Nat):Int)=(done.length:Int)+1+1:=by simp;omega
    refine goJ (hJ (done++[u,v],r,o',out++encM m) _ (by simp;omega) ⟨by simp [hd],?_,?_,hown⟩) (by simp (disch:=first|omega|assumption) only [e5,go_sem,↓reduceIte])
    ·simp only [hj,ej];cases joinM r<;>simp
    ·simp;omega
  have ej:joinM (u :: r)=(joinM r).map (encM u++·):=by
   rw [joinM.eq_def];simp only;rw [if_neg (by omega),if_neg a3]
  have hm3:=(encM_len u).1
  have e5:(((done++[u]).length:Nat):Int)=(done.length:Int)+1:=by simp
  by_cases h:u<55296
  ·have b1:¬ ((56320:Int)≤u):=by omega
   have b2:¬ ((55296:Int)≤u):=by omega
   simp (disch:=first|omega|assumption) only [hll,hlt,hg,hu0,a1',b1,b2,wri32 (show u<2147483648 by omega),go_sem,↓reduceIte]
   refine goK_gives (appRune u (by omega) (by omega) out _ o ho (by simp only [Lim];omega)) fun o' H' hs=>?_
   simp (disch:=first|omega|assumption) only [wrap64,go_sem,↓reduceIte]
   have hown:=hs.own
   rw [bytesOf_len] at hown
   refine goJ (hJ (done++[u],r,o',out++encM u) _ (by simp) ⟨by simp [hd],?_,?_,hown⟩) (by simp (disch:=first|omega|assumption) only [e5,go_sem,↓reduceIte])
   ·simp only [hj,ej];cases joinM r<;>simp
   ·simp;omega
  ·have b1:((56320:Int)≤u)=True:=eq_true (by omega)
   have b2:¬ ((u:Int)≤57343):=by omega
   have b3:((55296:Int)≤u)=True:=eq_true (by omega)
   have b4:¬ ((u:Int)<56320):=by omega
   simp (disch:=first|omega|assumption) only [hll,hlt,hg,hu0,a1',b1,b2,b3,b4,wri32 (show u<2147483648 by omega),go_sem,↓reduceIte]
   refine goK_gives (appRune u (by omega) (by omega) out _ o ho (by simp only [Lim];omega)) fun o' H' hs=>?_
   simp (disch:=first|omega|assumption) only [wrap64,go_sem,↓reduceIte]
   have hown:=hs.own
   rw [bytesOf_len] at hown
   refine goJ (hJ (done++[u],r,o',out++encM u) _ (by simp) ⟨by simp [hd],?_,?_,hown⟩) (by simp (disch:=first|omega|assumption) only [e5,go_sem,↓reduceIte])
   ·simp only [hj,ej];cases joinM r<;>simp
   ·simp;omega
end Go.Proofs.YticbbfbpeimkbaaGreatDoor
namespace Go.Proofs.YticbbfbpeimkbaaGreatDoor
open Go.Ab
abbrev LimQ:Nat:=68719476736
theorem upd_upd (H:Heap) (b:Nat) (x y:AObj):(H.upd b x).upd b y=H.upd b y:=by
 funext c;by_cases e:c=b<;>simp [Heap.upd,e]
theorem retStrip {P:Program} {f:FuncId} {args:List AV} {H:Heap} {R RP:AV→Heap→Prop} (h:ACalls P f args H (fun e H'=>match e with|.ret v=>R v.strip H'|.pan v=>RP v H')) :
  ACalls P f args H (fun e H'=>match e with|.ret v=>R v H'|.pan v=>RP v H'):=by
 intro γ w vs ht hs hv
 refine (h γ w vs ht hs hv).mono fun e w' ⟨γ',H',r,h1,h2,h3,h4,h5⟩=>?_
 cases r with
 | ret v =>
  cases e with
  | returned u=>exact ⟨γ',H',.ret v.strip,h1,h2,h3,Rep.strip h4,h5⟩
  | panicked ch=>exact h4.elim
  | outgrown=>exact h4.elim
 | pan v=>exact ⟨γ',H',.pan v,h1,h2,h3,h4,h5⟩
theorem own_ne {H:Heap} {c b d n sz:Nat} {cs:List AV} (h:Owned H (.tip b d) n sz) (hc:H c=some (.cells cs)):b≠c:=fun e=>by
 subst e
 have:H b=some (.tip (d+n) sz):=h
 rw [hc] at this;cases this
theorem own_keep {H H':Heap} {o:Own} {n sz c:Nat} {cs:List AV} (h:Owned H o n sz) (hc:H c=some (.cells cs)) (hk:Kept H o H'):H' c=some (.cells cs) :=
 hk c _ hc fun d e=>by subst e;exact own_ne h hc rfl
theorem own_upd {H:Heap} {o:Own} {n sz c:Nat} {cs:List AV} {x:AObj} (h:Owned H o n sz) (hc:H c=some (.cells cs)):Owned (H.upd c x) o n sz:=by
 cases o with
 | tip b d=>have:=own_ne h hc;show (H.upd c x) b=_;rw [upd_ne this];exact h
 | no=>exact h
 | nil=>exact h
 | full=>exact h
structure SaidAt (H:Heap) (q:Nat) (x:Sd) (o o2:Own):Prop where
 hq:H q=some (.cells [.sl o 1 (bytesOf x.b),.sl o2 1 (cU x.u),.bool x.ok])
 ho:Owned H o x.b.length 1
 ho2:Owned H o2 x.u.length 1
 ne:∀ b d d2,o=.tip b d→o2≠.tip b d2
theorem flushC {H:Heap} {q:Nat} {x:Sd} {o o2:Own} (hs:SaidAt H q x o o2) (hw:x.w≤LimQ) :
  ACalls Tryz.prog 282 [.ptr q 0] H (fun e H'=>∃ v,e=.ret v∧(v=.tup []∧∃ o',SaidAt H' q (flushM x) o' .nil)):=by
 refine ACalls.go ir282 ck282 (Nat.le_refl _) fun KP Q hQ=>?_
 obtain ⟨hq,ho,ho2,hne⟩:=hs
 have hbl:=bytesOf_len x.b
 simp only [LimQ,Sd.w] at hw
 simp (disch:=first|omega|assumption) only [ir282,hq,go_sem,↓reduceIte]
 refine goK_pure (Pure.low (joinC x.u (by omega))) ?_
 have hfw:=flush_w x
 simp only [flushM,Sd.w,List.length_append] at hfw
 simp (disch:=first|omega|assumption) only [hq,go_sem,↓reduceIte]
 refine goP_ownS (by rw [hbl];exact ho) (by simp [bytesOf_len];omega) (by simp [maxLen,bytesOf_len];omega) fun o' H1 hs=>?_
 have h1:H1 q=some (.cells [.sl o 1 (bytesOf x.b),.sl o2 1 (cU x.u),.bool x.ok]):=own_keep ho hq hs.kept
 have hown:=hs.own
 simp only [List.length_append,bytesOf_len] at hown
 cases hok:x.ok
 ·rw [hok] at h1
  simp (disch:=first|omega|assumption) only [h1,bytesOf_strip,bytesOf_app,go_sem,↓reduceIte]
  refine hQ _ _ _ _ _ nofun rfl (Low.refl _) ⟨rfl,o',?_,?_,rfl,nofun⟩
  ·simp [flushM,hok,upd_same,cU,bytesOf_app,bytesOf_strip]
  ·simp only [flushM,List.length_append]
   exact own_upd hown h1
 ·rw [hok] at h1
  simp (disch:=first|omega|assumption) only [h1,bytesOf_strip,bytesOf_app,go_sem,↓reduceIte]
  refine hQ _ _ _ _ _ nofun rfl (Low.refl _) ⟨rfl,o',?_,?_,rfl,nofun⟩
  ·simp [flushM,hok,upd_same,cU,bytesOf_app,bytesOf_strip]
  ·simp only [flushM,List.length_append]
   exact own_upd hown h1
def EscP (H':Heap) (q:Nat) (x:Sd) (s:List UInt8) (v:AV):Prop:=match escM x s with
 | none=>v=.int .i64 0
 | some (x',t')=>v=.int .i64 ((s.length-t'.length:Nat):Int)∧∃ o o2,SaidAt H' q x' o o2
theorem escC {H:Heap} {q:Nat} {x:Sd} {o o2:Own} (hs:SaidAt H q x o o2) (hw:x.w≤LimQ) (s:List UInt8) (hl:s.length≤Lim) :
  ACalls Tryz.prog 281 [.ptr q 0,.str s] H (fun e H'=>∃ v,e=.ret v∧EscP H' q x s v):=by
 refine ACalls.go ir281 ck281 (Nat.le_refl _) fun KP Q hQ=>?_
 have hs0:=hs
 obtain ⟨hq,ho,ho2,hne⟩:=hs
 have hul:=cU_len x.u
 have hw0:=hw
 simp only [LimQ,Sd.w] at hw
 simp only [Lim] at hl
 simp (disch:=first|omega|assumption) only [ir281,go_sem,↓reduceIte]
 refine goK_pure (prefixC s [117]) ?_
 cases s with
 | nil =>
  simp (disch:=first|omega|assumption) only [List.isPrefixOf,go_sem,↓reduceIte]
  exact hQ _ _ _ _ [_] nofun rfl (Low.refl _) (by simp [EscP,escM,tupOf,envOf,AV.strip,AV.strip1])
 | cons c t =>
  simp only [List.length_cons] at hl
  by_cases hc:c=117
  ·subst hc
   have hp:[117].isPrefixOf ((117:UInt8) :: t)=true:=rfl
   have h1:((1:Int)≤((t.length+1:Nat):Int))=True:=eq_true (by omega)
   simp (disch:=first|omega|assumption) only [hp,h1,go_sem,↓reduceIte]
   refine goK_pure (unitC t (by simp only [Lim];omega)) ?_
   cases hu:unitM t with
   | none =>
    simp (disch:=first|omega|assumption) only [Option.isSome_none,go_sem,↓reduceIte]
    exact hQ _ _ _ _ [_] nofun rfl (Low.refl _) (by simp [EscP,escM,hu,tupOf,envOf,AV.strip,AV.strip1])
   | some u =>
    have h4:=unitG_len _ _ _ _ hu
    simp (disch:=first|omega|assumption) only [Option.isSome_some,Option.getD_some,hq,go_sem,↓reduceIte]
    refine goP_ownS (by rw [hul];exact ho2) (by simp [hul];omega) (by simp [maxLen,hul];omega) fun o' H1 hs1=>?_
    have h2:=own_keep ho2 hq hs1.kept
    simp (disch:=first|omega|assumption) only [h2,cU_strip,go_sem,↓reduceIte]
    refine hQ _ _ _ _ [_] nofun rfl (Low.refl _) ?_
    have hsp:=Sep.step (a:=[(o,x.b.length,1)]) (b:=[]) (n:=x.u.length) (n':=x.u.length+1) (sz:=1) ⟨by intro y hy;simp at hy;rcases hy with rfl|rfl<;>assumption,?_⟩ (by simpa [hul] using hs1)
    ·simp only [EscP,escM,if_true,hu,Option.map_some]
     refine ⟨?_,o,o',?_,?_,?_,?_⟩
     ·show AV.int .i64 5=_
      simp only [List.length_cons,List.length_drop]
      congr 1;omega
     ·simp [upd_same,cU]
     ·exact own_upd (hsp.own (o,x.b.length,1) (by simp)) h2
     ·simp only [List.length_append,List.length_cons,List.length_nil]
      exact own_upd (hsp.own (o',x.u.length+1,1) (by simp)) h2
     ·intro b d d2 e1 e2
      have:=hsp.nd
      simp [e1,e2,tipOf] at this
    ·cases h5:tipOf o with
     | none=>cases h6:tipOf o2<;>simp [h5,h6]
     | some b =>
      obtain ⟨d,h7⟩:=tipOf_some h5
      cases h6:tipOf o2 with
      | none=>simp [h5,h6]
      | some b2 =>
       obtain ⟨d2,h8⟩:=tipOf_some h6
       simp only [List.cons_append,List.nil_append,List.filterMap_cons,List.filterMap_nil,h5,h6,List.nodup_cons,List.mem_singleton,List.not_mem_nil,not_false_eq_true,List.nodup_nil,and_true]
       rintro rfl
       exact hne b d d2 h7 h8
  ·have hp:[117].isPrefixOf (c :: t)=false:=by
    simp only [List.isPrefixOf,Bool.and_true,beq_eq_false_iff_ne,ne_eq];exact fun e=>hc e.symm
   have hcl:¬ (c :: t=[]):=by simp
   have h1:((0:Int)<((t.length+1:Nat):Int))=True:=eq_true (by omega)
   simp (disch:=first|omega|assumption) only [hp,hcl,h1,go_sem,↓reduceIte]
   refine goK_pure (idxByteC escL c) ?_
   have hidx:=idx_le escL c
   by_cases hk:Lib.indexByte escL c<0
   ·simp (disch:=first|omega|assumption) only [hk,go_sem,↓reduceIte]
    exact hQ _ _ _ _ [_] nofun rfl (Low.refl _) (by simp [EscP,escM,hc,hk,tupOf,envOf,AV.strip,AV.strip1])
   ·obtain ⟨k,hk2⟩:∃ k:Nat,Lib.indexByte escL c=(k:Int):=⟨(Lib.indexByte escL c).toNat,by omega⟩
    have hk8:k<8:=by simp [escL] at hidx;rw [show Lib.indexByte [34,92,47,98,102,110,114,116] c=(k:Int) from hk2] at hidx;omega
    have hk0:¬ ((k:Int)<0):=by omega
    simp (disch:=first|omega|assumption) only [hk2,hk0,go_sem,↓reduceIte]
    refine goK_ret (flushC hs0 hw0) fun v H1 ⟨hv,o',hs1⟩=>?_
    subst hv
    obtain ⟨hq1,ho1,_,_⟩:=hs1
    have hfw:=flush_w x
    have hbl:=bytesOf_len (flushM x).b
    simp only [Sd.w] at hfw
    have hk8':((k:Int)<8)=True:=eq_true (by omega)
    simp (disch:=first|omega|assumption) only [hq1,hk8',go_sem,↓reduceIte]
    refine goP_ownS (by rw [hbl];exact ho1) (by simp [hbl];omega) (by simp [maxLen,hbl];omega) fun o3 H2 hs3=>?_
    have hq2:=own_keep ho1 hq1 hs3.kept
    simp (disch:=first|omega|assumption) only [hq2,go_sem,↓reduceIte]
    refine hQ _ _ _ _ [_] nofun rfl (Low.refl _) ?_
    simp only [EscP,escM,hc,if_false,hk2,hk0]
    refine ⟨?_,o3,.nil,?_,?_,rfl,nofun⟩
    ·show AV.int .i64 1=_
     simp only [List.length_cons]
     congr 1;omega
    ·simp only [upd_same,Sd.put,Int.toNat_natCast]
     rw [← bytesOf_app];rfl
    ·simp only [Sd.put,List.length_append,List.length_cons,List.length_nil]
     exact own_upd (by simpa [hbl] using hs3.own) hq2
end Go.Proofs.YticbbfbpeimkbaaGreatDoor
namespace Go.Proofs.YticbbfbpeimkbaaGreatDoor
open Go.Ab
def stopP (n:Int):AV:=.ifc 186 (.agg [.int .i64 n])
def prc (L p:TS) (dp:Nat):AObj:=.cells [.sl .no 2 (cKs L),.int .i64 (p.length:Int),.int .i64 (dp:Int)]
def Pat (H:Heap) (r:Nat) (L t:TS) (dp:Nat) (H':Heap):Prop:=∃ p,p++t=L∧H'=H.upd r (prc L p dp)
def RetQ {α:Type} (H:Heap) (r:Nat) (L:TS) (dp:Nat) (x:PR α) (f:α→AV) (v:AV) (H':Heap):Prop:=∃ a t',x=.ok (a,t')∧v=f a∧Pat H r L t' dp H'
def PanQ {α:Type} (x:PR α) (v:AV) (_:Heap):Prop:=∃ n,x=.error n∧v=stopP n
abbrev LimP:Nat:=1000000
abbrev RpE {α:Type} (H:Heap) (r:Nat) (L:TS) (dp:Nat) (x:PR α) (f:α→AV):AEnd→Heap→Prop:=fun e H'=>match e with|.ret v=>RetQ H r L dp x f v H'|.pan v=>PanQ x v H'
theorem Pat.again {H H1 H2:Heap} {r:Nat} {L t t':TS} {dp dp':Nat} (h:Pat H r L t dp H1) (h':Pat H1 r L t' dp' H2):Pat H r L t' dp' H2:=by
 obtain ⟨p,_,rfl⟩:=h
 obtain ⟨q,hq,rfl⟩:=h'
 exact ⟨q,hq,upd_upd ..⟩
theorem Pat.at {H H1:Heap} {r:Nat} {L t:TS} {dp:Nat} (h:Pat H r L t dp H1):∃ p,p++t=L∧H1 r=some (prc L p dp):=by
 obtain ⟨p,hp,rfl⟩:=h
 exact ⟨p,hp,upd_same ..⟩
theorem Pat.self {H:Heap} {r:Nat} {L p t:TS} {dp:Nat} (hs:p++t=L) (hr:H r=some (prc L p dp)):Pat H r L t dp H :=
 ⟨p,hs,by funext c;by_cases e:c=r<;>simp [Heap.upd,e,hr]⟩
structure KI (H:Heap) (r:Nat) (L t:TS) (dp:Nat) (H1:Heap):Prop where
 keep:∀ c x,c≠r→H c=some x→H1 c=some x
 here:∃ p,p++t=L∧H1 r=some (prc L p dp)
 hr:∃ x,H r=some x
theorem KI.start {H:Heap} {r:Nat} {L p t:TS} {dp:Nat} (hs:p++t=L) (hr:H r=some (prc L p dp)):KI H r L t dp H:=⟨fun _ _ _ h=>h,⟨p,hs,hr⟩,⟨_,hr⟩⟩
theorem KI.call {H H1 H2:Heap} {r:Nat} {L t t':TS} {dp dp':Nat} (h:KI H r L t dp H1) (ha:Pat H1 r L t' dp' H2):KI H r L t' dp' H2:=by
 obtain ⟨q,hq,rfl⟩:=ha
 exact ⟨fun c x hc hx=>by rw [upd_ne hc];exact h.keep c x hc hx,⟨q,hq,upd_same ..⟩,h.hr⟩
theorem KI.ne {H H1:Heap} {r b:Nat} {L t:TS} {dp:Nat} (h:KI H r L t dp H1) (hb:H b=none):r≠b:=fun e=>by
 subst e;obtain ⟨x,hx⟩:=h.hr;rw [hb] at hx;cases hx
theorem KI.none {H H1:Heap} {r b:Nat} {L t:TS} {dp:Nat} (h:KI H r L t dp H1) (hb:H1 b=.none):H b=.none:=by
 cases hx:H b with
 | none=>rfl
 | some x =>
  by_cases e:b=r
  ·subst e;obtain ⟨p,_,h2⟩:=h.here;rw [hb] at h2;cases h2
  ·have:=h.keep b x e hx;rw [hb] at this;cases this
theorem KI.box {H H1:Heap} {r b:Nat} {L t:TS} {dp:Nat} {x:AObj} (h:KI H r L t dp H1) (hb:H b=.none):KI H r L t dp (H1.upd b x):=by
 obtain ⟨p,hp,h2⟩:=h.here
 exact ⟨fun c y hc hy=>by rw [upd_ne (fun e=>by subst e;rw [hb] at hy;cases hy)];exact h.keep c y hc hy,⟨p,hp,by rw [upd_ne (h.ne hb)];exact h2⟩,h.hr⟩
theorem KI.low {H H1:Heap} {r:Nat} {L t:TS} {dp:Nat} (h:KI H r L t dp H1):∃ H2,Low H2 H1∧Pat H r L t dp H2:=by
 obtain ⟨p,hp,h1⟩:=h.here
 refine ⟨_,Low.of_sub fun c x hc=>?_,p,hp,rfl⟩
 by_cases e:c=r
 ·subst e;rw [upd_same] at hc;rw [← hc];exact h1
 ·rw [upd_ne e] at hc;exact h.keep c x e hc
structure KO (H:Heap) (r:Nat) (L t:TS) (dp:Nat) (H1:Heap) (o:Own) (n sz:Nat):Prop extends KI H r L t dp H1 where
 own:Owned H1 o n sz
 tip:∀ b d,o=.tip b d→H b=.none
theorem KO.call {H H1 H2:Heap} {r:Nat} {L t t':TS} {dp dp':Nat} {o:Own} {n sz:Nat} (h:KO H r L t dp H1 o n sz) (ha:Pat H1 r L t' dp' H2):KO H r L t' dp' H2 o n sz:=by
 obtain ⟨p,hp,h1⟩:=h.here
 refine ⟨h.toKI.call ha,?_,h.tip⟩
 obtain ⟨q,hq,rfl⟩:=ha
 exact own_upd h.own h1
theorem KO.box {H H1:Heap} {r b:Nat} {L t:TS} {dp:Nat} {o:Own} {n sz:Nat} {cs cs':List AV} (h:KO H r L t dp H1 o n sz) (hb:H b=.none) (h1:H1 b=some (.cells cs)):KO H r L t dp (H1.upd b (.cells cs')) o n sz :=
 ⟨h.toKI.box hb,own_upd h.own h1,h.tip⟩
theorem KO.app {H H1 H2:Heap} {r:Nat} {L t:TS} {dp:Nat} {o o':Own} {n n' sz:Nat} (h:KO H r L t dp H1 o n sz) (hs:OwnS H1 o H2 o' n' sz):KO H r L t dp H2 o' n' sz:=by
 obtain ⟨p,hp,h1⟩:=h.here
 refine ⟨⟨fun c x hc hx=>hs.kept c x (h.keep c x hc hx) fun d e=>?_,⟨p,hp,own_keep h.own h1 hs.kept⟩,h.hr⟩,hs.own,fun b d e=>?_⟩
 ·have:=h.tip c d e;rw [hx] at this;cases this
 ·rcases hs.new b d e with h2|⟨d0,e2⟩
  ·exact h.toKI.none h2
  ·exact h.tip b d0 e2
theorem KO.stay {H H1 H2:Heap} {r b:Nat} {L t:TS} {dp:Nat} {o o':Own} {n n' sz:Nat} {cs:List AV} (h:KO H r L t dp H1 o n sz) (hs:OwnS H1 o H2 o' n' sz) (hb:H1 b=some (.cells cs)):H2 b=some (.cells cs) :=
 own_keep h.own hb hs.kept
theorem KI.done {α:Type} {H:Heap} {r:Nat} {L:TS} {dp:Nat} {x:PR α} {f:α→AV} {Q:AExit→Env→Heap→Prop} {res:List ARes}
  (hQ:∀ e ρ H1 H2 vs,(∀ i,e≠.exit i)→resvs ρ H1 res=some vs→Low H2 H1→RetQ H r L dp x f (tupOf vs).strip H2→Q e ρ H1)
  (ρ1:Env) (H1:Heap) (vs:List AV) (a:α) (t':TS) (h1:resvs ρ1 H1 res=some vs) (h2:x=.ok (a,t')) (h3:KI H r L t' dp H1) (h4:(tupOf vs).strip=f a):Q .ret ρ1 H1:=by
 obtain ⟨H2,hl,ha⟩:=h3.low
 exact hQ .ret ρ1 H1 H2 vs nofun h1 hl ⟨a,t',h2,h4,ha⟩
theorem len_w:∀ L:TS,L.length≤wT L
 | []=>Nat.le_refl _
 | x :: L=>by have:=len_w L;rw [wT_cons];simp only [List.length_cons,wK];omega
theorem hd_w {p t L:TS} (h:p++t=L):(hdT t).s.length≤wT L:=by
 subst h
 cases t with
 | nil=>simp [hdT]
 | cons x t =>
  have:wT (p++x :: t)=wT p+wT (x :: t):=by simp [wT]
  rw [this,wT_cons];simp only [hdT,List.headD_cons,wK];omega
theorem Pat.other {H H1:Heap} {r c:Nat} {L t:TS} {dp:Nat} (h:Pat H r L t dp H1) (hc:c≠r):H1 c=H c:=by
 obtain ⟨p,_,rfl⟩:=h
 exact upd_ne hc
theorem failP (H:Heap) (r:Nat) (n:Int):ACalls Tryz.prog 160 [.ptr r 0,.int .i64 n] H (fun e H'=>match e with|.ret v=>False|.pan v=>v=stopP n):=by
 refine ACalls.goO (R:=fun _ _=>False) (RP:=fun v _=>v=stopP n) ir160 ck160 (Nat.le_refl _) fun KP Q hQ hP=>?_
 simp (disch:=first|omega|assumption) only [ir160,go_sem,↓reduceIte]
 exact hP _ _ H (Low.refl _) rfl
section
variable {H:Heap} {r:Nat} {L p t:TS} {dp:Nat}
theorem moreP (hs:p++t=L) (hr:H r=some (prc L p dp)):ACalls Tryz.prog 92 [.ptr r 0] H (fun e H'=>∃ v,e=.ret v∧(v=.bool (decide (t≠[]))∧H'=H)):=by
 refine ACalls.go ir92 ck92 (Nat.le_refl _) fun KP Q hQ=>?_
 simp only [prc] at hr
 have hcl:=cKs_len L
 have hlen:p.length+t.length=L.length:=by rw [← hs];simp
 simp (disch:=first|omega|assumption) only [ir92,hr,hcl,go_sem,↓reduceIte]
 cases t with
 | nil =>
  have h1:¬ ((p.length:Int)<(L.length:Int)):=by simp at hlen;omega
  simp (disch:=first|omega|assumption) only [h1,go_sem,↓reduceIte]
  exact hQ _ _ _ _ [_] nofun rfl (Low.refl _) ⟨(by simp [tupOf,envOf,AV.strip,AV.strip1]),rfl⟩
 | cons c u =>
  have h1:((p.length:Int)<(L.length:Int))=True:=eq_true (by simp at hlen;omega)
  simp (disch:=first|omega|assumption) only [h1,go_sem,↓reduceIte]
  exact hQ _ _ _ _ [_] nofun rfl (Low.refl _) ⟨(by simp [tupOf,envOf,AV.strip,AV.strip1]),rfl⟩
theorem nextP (hs:p++t=L) (hr:H r=some (prc L p dp)):ACalls Tryz.prog 174 [.ptr r 0] H (fun e H'=>∃ v,e=.ret v∧(v=tokA (hdT t)∧H'=H)):=by
 refine ACalls.go ir174 ck174 (Nat.le_refl _) fun KP Q hQ=>?_
 have hcl:=cKs_len L
 have hlen:p.length+t.length=L.length:=by rw [← hs];simp
 simp (disch:=first|omega|assumption) only [ir174,go_sem,↓reduceIte]
 refine goA_intro fun b hb=>?_
 have hbr:r≠b:=fun e=>by subst e;rw [hb] at hr;cases hr
 have hr2:(H.upd b (.cells [.int .i64 0,.str []])) r=some (prc L p dp):=by rw [upd_ne hbr];exact hr
 simp (disch:=first|omega|assumption) only [go_sem,↓reduceIte]
 refine goK_ret (moreP hs hr2) fun v H1 ⟨hv,hH⟩=>?_
 subst hv;subst hH
 have hlow:∀ x,Low H (H.upd b x):=fun x=>(Low.refl _).upd hb
 cases t with
 | nil =>
  simp (disch:=first|omega|assumption) only [go_sem,↓reduceIte]
  exact hQ _ _ _ H [.agg [.int .i64 0,.str []]] nofun (by simp (disch:=first|omega|assumption) only [ir174,resvs,resv,go_sem,↓reduceIte]) (hlow _) ⟨rfl,rfl⟩
 | cons c u =>
  simp only [prc] at hr2
  have h1:((p.length:Int)<(L.length:Int))=True:=eq_true (by simp at hlen;omega)
  have hg:(cKs L).getD p.length []=[.int .i64 c.k,.str c.s]:=by rw [← hs];simp [cKs,cK]
  simp (disch:=first|omega|assumption) only [hr2,hcl,h1,hg,go_sem,↓reduceIte]
  exact hQ _ _ _ H [.agg [.int .i64 c.k,.str c.s]] nofun (by simp (disch:=first|omega|assumption) only [ir174,resvs,resv,go_sem,↓reduceIte]) (hlow _) ⟨rfl,rfl⟩
theorem isPC (hs:p++t=L) (hr:H r=some (prc L p dp)) (m:List UInt8):ACalls Tryz.prog 161 [.ptr r 0,.str m] H (fun e H'=>∃ v,e=.ret v∧(v=.bool (isP m t)∧H'=H)):=by
 refine ACalls.go ir161 ck161 (Nat.le_refl _) fun KP Q hQ=>?_
 simp (disch:=first|omega|assumption) only [ir161,go_sem,↓reduceIte]
 refine goK_ret (nextP hs hr) fun v H1 ⟨hv,hH⟩=>?_
 subst hv;subst hH
 simp (disch:=first|omega|assumption) only [tokA,fitsAll,K1.fits,keqs,AV.keq1,Bool.and_true,go_sem,↓reduceIte]
 exact hQ _ _ _ _ [_] nofun rfl (Low.refl _) ⟨by simp [tupOf,envOf,AV.strip,AV.strip1,isP],rfl⟩
theorem isWC (hs:p++t=L) (hr:H r=some (prc L p dp)) (m:List UInt8):ACalls Tryz.prog 248 [.ptr r 0,.str m] H (fun e H'=>∃ v,e=.ret v∧(v=.bool (isW m t)∧H'=H)):=by
 refine ACalls.go ir248 ck248 (Nat.le_refl _) fun KP Q hQ=>?_
 simp (disch:=first|omega|assumption) only [ir248,go_sem,↓reduceIte]
 refine goK_ret (nextP hs hr) fun v H1 ⟨hv,hH⟩=>?_
 subst hv;subst hH
 simp (disch:=first|omega|assumption) only [tokA,fitsAll,K1.fits,keqs,AV.keq1,Bool.and_true,go_sem,↓reduceIte]
 exact hQ _ _ _ _ [_] nofun rfl (Low.refl _) ⟨by simp [tupOf,envOf,AV.strip,AV.strip1,isW],rfl⟩
theorem step_tail (hs:p++t=L) (hk:(hdT t).k≠0):(p++[hdT t])++t.tail=L:=by
 rw [List.append_assoc,List.singleton_append,← hd_tail hk];exact hs
theorem prc_on (hs:p++t=L) (hk:(hdT t).k≠0) (H:Heap):Pat H r L t.tail dp (H.upd r (.cells [.sl .no 2 (cKs L),.int .i64 ((p.length:Int)+1),.int .i64 (dp:Int)])) :=
 ⟨p++[hdT t],step_tail hs hk,by simp [prc]⟩
def mayT (m:List UInt8) (t:TS):TS:=if isP m t then t.tail else t
theorem mayPC (hs:p++t=L) (hl:L.length≤LimP) (hr:H r=some (prc L p dp)) (m:List UInt8):ACalls Tryz.prog 191 [.ptr r 0,.str m] H (fun e H'=>∃ v,e=.ret v∧(v=.bool (isP m t)∧Pat H r L (mayT m t) dp H')):=by
 refine ACalls.go ir191 ck191 (Nat.le_refl _) fun KP Q hQ=>?_
 simp only [LimP] at hl
 have hlen:p.length+t.length=L.length:=by rw [← hs];simp
 simp (disch:=first|omega|assumption) only [ir191,go_sem,↓reduceIte]
 refine goK_ret (isPC hs hr m) fun v H1 ⟨hv,hH⟩=>?_
 subst hv;subst hH
 have hr':=hr
 simp only [prc] at hr'
 cases hi:isP m t with
 | true =>
  simp (disch:=first|omega|assumption) only [hr',wrap64,go_sem,↓reduceIte]
  refine hQ _ _ _ _ [_] nofun rfl (Low.refl _) ⟨(by simp [tupOf,envOf,AV.strip,AV.strip1,hi]),?_⟩
  simp only [mayT,hi,if_true]
  exact prc_on hs (isP_ne hi) _
 | false =>
  simp (disch:=first|omega|assumption) only [go_sem,↓reduceIte]
  refine hQ _ _ _ _ [_] nofun rfl (Low.refl _) ⟨(by simp [tupOf,envOf,AV.strip,AV.strip1,hi]),?_⟩
  simp only [mayT,hi,Bool.false_eq_true,if_false]
  exact Pat.self hs hr
theorem mayWC (hs:p++t=L) (hl:L.length≤LimP) (hr:H r=some (prc L p dp)) (m:List UInt8):ACalls Tryz.prog 163 [.ptr r 0,.str m] H (fun e H'=>∃ v,e=.ret v∧(v=.bool (isW m t)∧Pat H r L (mayWordP m t) dp H')):=by
 refine ACalls.go ir163 ck163 (Nat.le_refl _) fun KP Q hQ=>?_
 simp only [LimP] at hl
 have hlen:p.length+t.length=L.length:=by rw [← hs];simp
 simp (disch:=first|omega|assumption) only [ir163,go_sem,↓reduceIte]
 refine goK_ret (isWC hs hr m) fun v H1 ⟨hv,hH⟩=>?_
 subst hv;subst hH
 have hr':=hr
 simp only [prc] at hr'
 cases hi:isW m t with
 | true =>
  simp (disch:=first|omega|assumption) only [hr',wrap64,go_sem,↓reduceIte]
  refine hQ _ _ _ _ [_] nofun rfl (Low.refl _) ⟨(by simp [tupOf,envOf,AV.strip,AV.strip1,hi]),?_⟩
  simp only [mayWordP,hi,if_true]
  exact prc_on hs (isW_ne hi) _
 | false =>
  simp (disch:=first|omega|assumption) only [go_sem,↓reduceIte]
  refine hQ _ _ _ _ [_] nofun rfl (Low.refl _) ⟨(by simp [tupOf,envOf,AV.strip,AV.strip1,hi]),?_⟩
  simp only [mayWordP,hi,Bool.false_eq_true,if_false]
  exact Pat.self hs hr
theorem mustPC (hs:p++t=L) (hl:L.length≤LimP) (hr:H r=some (prc L p dp)) (m:List UInt8):ACalls Tryz.prog 182 [.ptr r 0,.str m] H (RpE H r L dp (mustP m t) fun _=>.tup []):=by
 refine ACalls.goO ir182 ck182 (Nat.le_refl _) fun KP Q hQ hP=>?_
 simp (disch:=first|omega|assumption) only [ir182,go_sem,↓reduceIte]
 refine goK_ret (mayPC hs hl hr m) fun v H1 ⟨hv,hH⟩=>?_
 subst hv
 cases hi:isP m t with
 | true =>
  rw [mayT,hi] at hH
  simp (disch:=first|omega|assumption) only [go_sem,↓reduceIte]
  exact hQ _ _ _ _ [] nofun rfl (Low.refl _) ⟨(),t.tail,by unfold mustP;rw [hi];rfl,rfl,hH⟩
 | false =>
  simp (disch:=first|omega|assumption) only [go_sem,↓reduceIte]
  exact goK_both (failP H1 r 2) (fun _ _ h=>h.elim) fun v H2 h=>hP v H2 H2 (Low.refl _) ⟨2,by unfold mustP;rw [hi];rfl,h⟩
theorem namePC (hs:p++t=L) (hl:L.length≤LimP) (hr:H r=some (prc L p dp)):ACalls Tryz.prog 183 [.ptr r 0] H (RpE H r L dp (nameP t) AV.str):=by
 refine ACalls.goO ir183 ck183 (Nat.le_refl _) fun KP Q hQ hP=>?_
 simp only [LimP] at hl
 have hlen:p.length+t.length=L.length:=by rw [← hs];simp
 simp (disch:=first|omega|assumption) only [ir183,go_sem,↓reduceIte]
 refine goK_ret (nextP hs hr) fun v H1 ⟨hv,hH⟩=>?_
 subst hv;subst hH
 simp (disch:=first|omega|assumption) only [go_sem,↓reduceIte]
 refine goA_intro fun b hb=>?_
 have hbr:r≠b:=fun e=>by subst e;rw [hb] at hr;cases hr
 have hr':=hr
 simp only [prc] at hr'
 by_cases hk:(hdT t).k=2
 ·have hk':((hdT t).k=2)=True:=eq_true hk
  simp (disch:=first|omega|assumption) only [tokA,hk',hr',hbr,Ne.symm hbr,wrap64,go_sem,↓reduceIte]
  refine hQ _ _ _ (H1.upd r (.cells [.sl .no 2 (cKs L),.int .i64 ((p.length:Int)+1),.int .i64 (dp:Int)])) [_] nofun rfl ?_ ⟨(hdT t).s,t.tail,by unfold nameP;rw [if_pos hk],(by simp [tupOf,envOf,AV.strip,AV.strip1]),prc_on hs (by rw [hk];decide) _⟩
  refine Low.of_sub fun c x hc=>?_
  by_cases e:c=r
  ·subst e;rw [upd_same] at hc ⊢;exact hc
  ·rw [upd_ne e] at hc ⊢
   rw [upd_ne (fun e2=>by subst e2;rw [hb] at hc;cases hc)];exact hc
 ·simp (disch:=first|omega|assumption) only [tokA,hk,go_sem,↓reduceIte]
  exact goK_both (failP _ r 2) (fun _ _ h=>h.elim) fun v H2 h=>hP v H2 H2 (Low.refl _) ⟨2,by unfold nameP;rw [if_neg hk],h⟩
theorem openPC (hs:p++t=L) (hl:L.length≤LimP) (hd:dp≤16) (hr:H r=some (prc L p dp)) (m:List UInt8):ACalls Tryz.prog 179 [.ptr r 0,.str m] H
  (fun e H'=>match e with
   | .ret v=>v=.bool (isP m t)∧(isP m t=true→dp<16∧Pat H r L t.tail (dp+1) H')∧(isP m t=false→Pat H r L t dp H')
   | .pan v=>isP m t=true∧dp=16∧v=stopP 4):=by
 refine ACalls.goO (R:=fun v H'=>v=.bool (isP m t)∧(isP m t=true→dp<16∧Pat H r L t.tail (dp+1) H')∧(isP m t=false→Pat H r L t dp H')) (RP:=fun v _=>isP m t=true∧dp=16∧v=stopP 4) ir179 ck179 (Nat.le_refl _) fun KP Q hQ hP=>?_
 have hlen:p.length+t.length=L.length:=by rw [← hs];simp
 simp (disch:=first|omega|assumption) only [ir179,go_sem,↓reduceIte]
 refine goK_ret (isPC hs hr m) fun v H1 ⟨hv,hH⟩=>?_
 subst hv;subst hH
 have hr':=hr
 simp only [prc] at hr'
 cases hi:isP m t with
 | true =>
  by_cases h16:(16:Int)≤(dp:Int)
  ·simp (disch:=first|omega|assumption) only [hr',h16,go_sem,↓reduceIte]
   exact goK_both (failP _ r 4) (fun _ _ h=>h.elim) fun v H2 h=>hP v H2 H2 (Low.refl _) ⟨hi,by omega,h⟩
  ·simp (disch:=first|omega|assumption) only [hr',h16,go_sem,↓reduceIte]
   refine goK_ret (mayPC hs hl hr m) fun v H2 ⟨hv,hH⟩=>?_
   subst hv
   rw [mayT,hi] at hH
   obtain ⟨q,hq,h2⟩:=hH.at
   simp only [prc] at h2
   rw [hi]
   simp (disch:=first|omega|assumption) only [h2,wrap64,go_sem,↓reduceIte]
   exact hQ _ _ _ _ [_] nofun rfl (Low.refl _) ⟨(by simp [tupOf,envOf,AV.strip,AV.strip1,hi]),fun _=>⟨by omega,hH.again ⟨q,hq,by simp [prc]⟩⟩,fun h=>(by rw [hi] at h;cases h)⟩
 | false =>
  simp (disch:=first|omega|assumption) only [go_sem,↓reduceIte]
  refine goK_ret (mayPC hs hl hr m) fun v H2 ⟨hv,hH⟩=>?_
  subst hv
  rw [mayT,hi] at hH
  rw [hi]
  simp (disch:=first|omega|assumption) only [go_sem,↓reduceIte]
  exact hQ _ _ _ _ [_] nofun rfl (Low.refl _) ⟨(by simp [tupOf,envOf,AV.strip,AV.strip1,hi]),fun h=>(by rw [hi] at h;cases h),fun _=>by simpa using hH⟩
theorem closePC (hs:p++t=L) (hl:L.length≤LimP) (hd:1≤dp∧dp≤16) (hr:H r=some (prc L p dp)) (m:List UInt8):ACalls Tryz.prog 180 [.ptr r 0,.str m] H
  (fun e H'=>∃ v,e=.ret v∧(v=.bool (isP m t)∧(isP m t=true→Pat H r L t.tail (dp-1) H')∧(isP m t=false→Pat H r L t dp H'))):=by
 refine ACalls.go ir180 ck180 (Nat.le_refl _) fun KP Q hQ=>?_
 simp (disch:=first|omega|assumption) only [ir180,go_sem,↓reduceIte]
 refine goK_ret (mayPC hs hl hr m) fun v H2 ⟨hv,hH⟩=>?_
 subst hv
 cases hi:isP m t with
 | true =>
  rw [mayT,hi] at hH
  obtain ⟨q,hq,h2⟩:=hH.at
  simp only [prc] at h2
  simp (disch:=first|omega|assumption) only [h2,wrap64,go_sem,↓reduceIte]
  refine hQ _ _ _ _ [_] nofun rfl (Low.refl _) ⟨(by simp [tupOf,envOf,AV.strip,AV.strip1,hi]),fun _=>hH.again ⟨q,hq,?_⟩,fun h=>(by rw [hi] at h;cases h)⟩
  have e:((dp-1:Nat):Int)=(dp:Int)-1:=by omega
  simp only [prc,e]
 | false =>
  rw [mayT,hi] at hH
  simp (disch:=first|omega|assumption) only [go_sem,↓reduceIte]
  exact hQ _ _ _ _ [_] nofun rfl (Low.refl _) ⟨(by simp [tupOf,envOf,AV.strip,AV.strip1,hi]),fun h=>(by rw [hi] at h;cases h),fun _=>by simpa using hH⟩
end
end Go.Proofs.YticbbfbpeimkbaaGreatDoor
namespace Go.Proofs.YticbbfbpeimkbaaGreatDoor
open Go.Ab
def wfD (x:DirD):Prop:=wfMs x.args
def wfDs (l:List DirD):Prop:=∀ x ∈ l,wfD x
mutual
def wfS:SelD→Prop
 | .mk _ _ _ args dirs _ sels=>wfMs args∧wfDs dirs∧wfSs sels
def wfSs:List SelD→Prop
 | []=>True
 | x :: r=>wfS x∧wfSs r
end
def wfW (x:VarD):Prop:=inR x.t.lists∧inR x.t.musts∧wfV x.d
def wfO (x:OpD):Prop:=(∀ y ∈ x.vars,wfW y)∧wfDs x.dirs∧wfSs x.sels
def wfF (x:FragD):Prop:=wfDs x.dirs∧wfSs x.sels
def pk (s:List UInt8):Tok:=⟨1,s⟩
def wk (s:List UInt8):Tok:=⟨2,s⟩
def tArgs (l:List Mem):List Tok:=if l.length=0 then [] else pk [40] :: (tokMs l++[pk [41]])
def tD (d:DirD):List Tok:=pk [64] :: wk d.nm :: tArgs d.args
end Go.Proofs.YticbbfbpeimkbaaGreatDoor
namespace Go.Proofs.YticbbfbpeimkbaaGreatDoor
open Go.Ab
theorem zV_fit:bV zV=1∧wfV zV:=⟨rfl,inR0,trivial,trivial⟩
theorem wordV_fit (s:List UInt8):bV (wordV s)≤1+s.length∧wfV (wordV s):=by
 unfold wordV
 split
 ·exact ⟨by rw [zV_fit.1];omega,zV_fit.2⟩
 split
 ·exact ⟨by simp only [bV,bVs,bMs,List.length_nil];omega,by simp [inR],trivial,trivial⟩
 split
 ·exact ⟨by simp only [bV,bVs,bMs,List.length_nil];omega,inR0,trivial,trivial⟩
 ·exact ⟨by simp only [bV,bVs,bMs];omega,inR0,trivial,trivial⟩
theorem memberP_fit {f:TS→PR Val} (hf:GP bV wfV 1 f):GP bM wfM 1 (memberP f):=fun t x t' h=>by
 obtain ⟨s,t1,h1,h2⟩:=pb_inv h
 obtain ⟨_,t2,h3,h4⟩:=pb_inv h2
 obtain ⟨v,t3,h5,h6⟩:=pb_inv h4
 cases h6
 have g1:=nameP_fit _ _ _ h1
 have g2:=mustP_fit _ _ _ _ h3
 have g3:=hf _ _ _ h5
 have w1:=g1.w
 have w2:=g2.w
 have w3:=g3.w
 simp only [b0] at w2
 exact ⟨(g3.suf.trans g2.suf).trans g1.suf,by simp only [bM];omega,g3.ok⟩
theorem bVs_sm:∀ l:List Val,bVs l+l.length=sm bV l
 | []=>rfl
 | v :: r=>by have:=bVs_sm r;simp only [sm,bVs,List.length_cons,List.map_cons,List.sum_cons] at *;omega
theorem bMs_sm:∀ l:List Mem,bMs l+l.length=sm bM l
 | []=>rfl
 | v :: r=>by have:=bMs_sm r;simp only [sm,bMs,List.length_cons,List.map_cons,List.sum_cons] at *;omega
theorem wfVs_of:∀ {l:List Val},(∀ v ∈ l,wfV v)→wfVs l
 | [],_=>trivial
 | v :: r,h=>⟨h v (.head _),wfVs_of fun x hx=>h x (.tail _ hx)⟩
theorem wfMs_of:∀ {l:List Mem},(∀ v ∈ l,wfM v)→wfMs l
 | [],_=>trivial
 | v :: r,h=>⟨h v (.head _),wfMs_of fun x hx=>h x (.tail _ hx)⟩
theorem valP_step (fixed:Bool) (k:Nat) (ih:∀ n,k=n+1→GP bV wfV 1 (valP fixed n)):GP bV wfV 1 (valP fixed k):=fun t v t' h=>by
 rw [valP_eq,valB.eq_def] at h
 split at h
 ·rename_i hk
  cases h
  have h0:=tail_w (t:=t) (by omega)
  have h1:=wordV_fit (hdT t).s
  exact ⟨h0.1,by omega,h1.2⟩
 split at h
 ·rename_i hk
  cases h
  have h0:=tail_w (t:=t) (by omega)
  have h1:=numV_fit (hdT t).s
  exact ⟨h0.1,by omega,h1.2⟩
 split at h
 ·rename_i hk
  cases h
  have h0:=tail_w (t:=t) (by omega)
  exact ⟨h0.1,by simp only [bV,bVs,bMs];omega,inR0,trivial,trivial⟩
 split at h
 ·rename_i hp
  have h0:=tail_p hp
  cases k with
  | zero=>cases h
  | succ n =>
   obtain ⟨l,t1,h1,h2⟩:=pb_inv h
   cases h2
   have g:=manyP_fit (ih n rfl) _ [] _ _ _ (fun x hx=>by cases hx) h1
   have e:=bVs_sm l
   have e0:sm bV []=0:=rfl
   exact ⟨g.1.trans h0.1,by simp only [bV,bMs,List.length_nil];omega,inR0,wfVs_of g.2.2,trivial⟩
 split at h
 ·rename_i hp
  have h0:=tail_p hp
  cases k with
  | zero=>cases h
  | succ n =>
   obtain ⟨l,t1,h1,h2⟩:=pb_inv h
   cases h2
   have g:=manyP_fit (memberP_fit (ih n rfl)) _ [] _ _ _ (fun x hx=>by cases hx) h1
   have e:=bMs_sm l
   have e0:sm bM []=0:=rfl
   exact ⟨g.1.trans h0.1,by simp only [bV,bVs,List.length_nil];omega,inR0,trivial,wfMs_of g.2.2⟩
 split at h
 ·cases h
 ·obtain ⟨_,t1,h1,h2⟩:=pb_inv h
  obtain ⟨s,t2,h3,h4⟩:=pb_inv h2
  cases h4
  have g1:=mustP_fit _ _ _ _ h1
  have g2:=nameP_fit _ _ _ h3
  have w1:=g1.w
  have w2:=g2.w
  simp only [b0] at w1
  exact ⟨g2.suf.trans g1.suf,by simp only [bV,bVs,bMs];omega,inR0,trivial,trivial⟩
theorem valP_fit (fixed:Bool):∀ k,GP bV wfV 1 (valP fixed k)
 | 0=>valP_step fixed 0 fun n h=>by cases h
 | k+1=>valP_step fixed (k+1) fun n h=>by cases h;exact valP_fit fixed k
theorem argsP_fit (fixed:Bool) (k:Nat):GP bMs wfMs 0 (argsP fixed k):=fun t a t' h=>by
 unfold argsP at h
 split at h
 ·rename_i hp
  have h0:=tail_p hp
  have g:=many1P_fit (memberP_fit (valP_fit fixed k)) _ _ _ h
  have e:=bMs_sm a
  have w:=g.w
  exact ⟨g.suf.trans h0.1,by omega,wfMs_of g.ok⟩
 ·cases h
  exact ⟨List.suffix_refl t,by simp [bMs],trivial⟩
theorem dirP_fit (fixed:Bool) (k:Nat):GP bD wfD 1 (dirP fixed k):=fun t a t' h=>by
 obtain ⟨s,t1,h1,h2⟩:=pb_inv h
 obtain ⟨l,t2,h3,h4⟩:=pb_inv h2
 cases h4
 have g1:=nameP_fit _ _ _ h1
 have g2:=argsP_fit fixed k _ _ _ h3
 have w1:=g1.w
 have w2:=g2.w
 exact ⟨g2.suf.trans g1.suf,by simp only [bD];omega,g2.ok⟩
theorem bDs_sm (l:List DirD):bDs l+l.length=sm bD l:=rfl
theorem dirsP_fit (fixed:Bool) (k:Nat):GP bDs wfDs 0 (dirsP fixed k):=fun t a t' h=>by
 have g:=whileP_fit (dirP_fit fixed k) _ [] _ _ _ (fun x hx=>by cases hx) h
 have e:=bDs_sm a
 have e0:sm bD []=0:=rfl
 exact ⟨g.1,by omega,g.2.2⟩
theorem bSs_sm:∀ l:List SelD,bSs l+l.length=sm bS l
 | []=>rfl
 | v :: r=>by have:=bSs_sm r;simp only [sm,bSs,List.length_cons,List.map_cons,List.sum_cons] at *;omega
theorem wfSs_of:∀ {l:List SelD},(∀ v ∈ l,wfS v)→wfSs l
 | [],_=>trivial
 | v :: r,h=>⟨h v (.head _),wfSs_of fun x hx=>h x (.tail _ hx)⟩
theorem selP_fit {k:Nat} {sels:TS→PR (List SelD)} (hs:GP bSs wfSs 4 sels):GP bS wfS 1 (selP sels k):=fun t a t' h=>by
 unfold selP at h
 split at h
 ·rename_i hp
  have h0:=tail_p hp
  unfold spreadP at h
  split at h
  ·obtain ⟨s,t1,h1,h2⟩:=pb_inv h
   obtain ⟨d,t2,h3,h4⟩:=pb_inv h2
   cases h4
   have g1:=nameP_fit _ _ _ h1
   have g2:=dirsP_fit false k _ _ _ h3
   have w1:=g1.w
   have w2:=g2.w
   exact ⟨(g2.suf.trans g1.suf).trans h0.1,by simp only [bS,bMs,bSs,List.length_nil];omega,trivial,g2.ok,trivial⟩
  ·obtain ⟨o,t1,h1,h2⟩:=pb_inv h
   obtain ⟨d,t2,h3,h4⟩:=pb_inv h2
   obtain ⟨l,t3,h5,h6⟩:=pb_inv h4
   cases h6
   have g1:t1 <:+ t.tail∧o.length+wT t1≤wT t.tail:=by
    split at h1
    ·rename_i hw
     have h7:=tail_ww hw
     have g:=nameP_fit _ _ _ h1
     have w:=g.w
     exact ⟨g.suf.trans h7.1,by omega⟩
    ·cases h1;exact ⟨List.suffix_refl _,by simp⟩
   have g2:=dirsP_fit false k _ _ _ h3
   have g3:=hs _ _ _ h5
   have w2:=g2.w
   have w3:=g3.w
   exact ⟨((g3.suf.trans g2.suf).trans g1.1).trans h0.1,by simp only [bS,bMs,List.length_nil];omega,trivial,g2.ok,g3.ok⟩
 ·obtain ⟨s,t1,h1,h2⟩:=pb_inv h
  obtain ⟨an,t2,h3,h4⟩:=pb_inv h2
  obtain ⟨l,t3,h5,h6⟩:=pb_inv h4
  obtain ⟨d,t4,h7,h8⟩:=pb_inv h6
  obtain ⟨ss,t5,h9,h10⟩:=pb_inv h8
  cases h10
  have g1:=nameP_fit _ _ _ h1
  have g2:t2 <:+ t1∧an.1.length+an.2.length+wT t2≤s.length+wT t1:=by
   split at h3
   ·rename_i hw
    have h7:=tail_p hw
    obtain ⟨s2,t6,h11,h12⟩:=pb_inv h3
    cases h12
    have g:=nameP_fit _ _ _ h11
    have w:=g.w
    exact ⟨g.suf.trans h7.1,by simp only;omega⟩
   ·cases h3;exact ⟨List.suffix_refl _,by simp⟩
  have g3:=argsP_fit false k _ _ _ h5
  have g4:=dirsP_fit false k _ _ _ h7
  have g5:t' <:+ t4∧bSs ss+wT t'≤wT t4∧wfSs ss:=by
   split at h9
   ·have g:=hs _ _ _ h9
    have w:=g.w
    exact ⟨g.suf,by omega,g.ok⟩
   ·cases h9;exact ⟨List.suffix_refl _,by simp [bSs],trivial⟩
  have w1:=g1.w
  have w3:=g3.w
  have w4:=g4.w
  exact ⟨(((g5.1.trans g4.suf).trans g3.suf).trans g2.1).trans g1.suf,by simp only [bS,List.length_nil];omega,g3.ok,g4.ok,g5.2.2⟩
theorem selsP_fit:∀ k,GP bSs wfSs 4 (selsP k)
 | 0=>fun t a t' h=>by rw [selsP] at h;split at h<;>cases h
 | k+1=>fun t a t' h=>by
  rw [selsP] at h
  split at h
  ·rename_i hp
   have h0:=tail_p hp
   have g:=many1P_fit (selP_fit (k:=k) (selsP_fit k)) _ _ _ h
   have e:=bSs_sm a
   have w:=g.w
   exact ⟨g.suf.trans h0.1,by omega,wfSs_of g.ok⟩
  ·cases h
theorem inR_small {n:Int} (h0:0≤n) (h1:n<64):inR n:=by simp only [inR];omega
theorem okTy_wf {ty:TyD} (h:okTy' 4 ty):inR ty.lists∧inR ty.musts:=by
 obtain ⟨h1,h2,h3,h4⟩:=h
 refine ⟨inR_small h1 (by omega),inR_small h3 ?_⟩
 have:ty.lists.toNat+1≤5:=by omega
 have h5:(2:Int) ^ (ty.lists.toNat+1)≤2 ^ 5:=by exact_mod_cast Nat.pow_le_pow_right (by decide) this
 omega
theorem varP_fit:GP bW wfW 1 varP:=fun t a t' h=>by
 obtain ⟨_,t1,h1,h2⟩:=pb_inv h
 obtain ⟨s,t2,h3,h4⟩:=pb_inv h2
 obtain ⟨_,t3,h5,h6⟩:=pb_inv h4
 obtain ⟨ty,t4,h7,h8⟩:=pb_inv h6
 have g1:=mustP_fit _ _ _ _ h1
 have g2:=nameP_fit _ _ _ h3
 have g3:=mustP_fit _ _ _ _ h5
 have g4:=typP_fit 4 _ _ _ h7
 have w1:=g1.w
 have w2:=g2.w
 have w3:=g3.w
 have w4:=g4.w
 simp only [b0] at w1 w3
 have hw:=okTy_wf g4.ok
 split at h8
 ·rename_i hp
  have h0:=tail_p hp
  obtain ⟨v,t5,h9,h10⟩:=pb_inv h8
  cases h10
  have g5:=valP_fit true 16 _ _ _ h9
  have w5:=g5.w
  exact ⟨((((g5.suf.trans h0.1).trans g4.suf).trans g3.suf).trans g2.suf).trans g1.suf,by simp only [bW];omega,hw.1,hw.2,g5.ok⟩
 ·cases h8
  exact ⟨((g4.suf.trans g3.suf).trans g2.suf).trans g1.suf,by simp only [bW,zV_fit.1];omega,hw.1,hw.2,zV_fit.2⟩
theorem bWs_sm (l:List VarD):bWs l+l.length=sm bW l:=rfl
theorem opP_fit (kind:Int):GP bO wfO 1 (opP kind):=fun t a t' h=>by
 obtain ⟨s,t1,h1,h2⟩:=pb_inv h
 obtain ⟨vs,t2,h3,h4⟩:=pb_inv h2
 obtain ⟨d,t3,h5,h6⟩:=pb_inv h4
 obtain ⟨l,t4,h7,h8⟩:=pb_inv h6
 cases h8
 have g1:t1 <:+ t∧s.length+wT t1≤wT t:=by
  split at h1
  ·have g:=nameP_fit _ _ _ h1
   have w:=g.w
   exact ⟨g.suf,by omega⟩
  ·cases h1;exact ⟨List.suffix_refl _,by simp⟩
 have g2:t2 <:+ t1∧bWs vs+wT t2≤wT t1∧∀ x ∈ vs,wfW x:=by
  split at h3
  ·rename_i hp
   have h0:=tail_p hp
   have g:=many1P_fit varP_fit _ _ _ h3
   have w:=g.w
   have e:=bWs_sm vs
   exact ⟨g.suf.trans h0.1,by omega,g.ok⟩
  ·cases h3;exact ⟨List.suffix_refl _,by simp [bWs],fun x hx=>(by cases hx)⟩
 have g3:=dirsP_fit true 16 _ _ _ h5
 have g4:=selsP_fit 16 _ _ _ h7
 have w3:=g3.w
 have w4:=g4.w
 exact ⟨((g4.suf.trans g3.suf).trans g2.1).trans g1.1,by simp only [bO];omega,g2.2.2,g3.ok,g4.ok⟩
theorem fragP_fit:GP bF wfF 1 fragP:=fun t a t' h=>by
 obtain ⟨s,t1,h1,h2⟩:=pb_inv h
 obtain ⟨_,t2,h3,h4⟩:=pb_inv h2
 obtain ⟨o,t3,h5,h6⟩:=pb_inv h4
 obtain ⟨d,t4,h7,h8⟩:=pb_inv h6
 obtain ⟨l,t5,h9,h10⟩:=pb_inv h8
 cases h10
 have g1:Fp List.length T1 4 t s t1:=by
  split at h1
  ·cases h1
  ·exact nameP_fit _ _ _ h1
 have g2:t2 <:+ t1∧wT t2≤wT t1:=by
  split at h3
  ·rename_i hw
   cases h3
   have h0:=tail_ww hw
   exact ⟨h0.1,by omega⟩
  ·cases h3
 have g3:=nameP_fit _ _ _ h5
 have g4:=dirsP_fit true 16 _ _ _ h7
 have g5:=selsP_fit 16 _ _ _ h9
 have w1:=g1.w
 have w3:=g3.w
 have w4:=g4.w
 have w5:=g5.w
 exact ⟨(((g5.suf.trans g4.suf).trans g3.suf).trans g2.1).trans g1.suf,by simp only [bF];omega,g4.ok,g5.ok⟩
end Go.Proofs.YticbbfbpeimkbaaGreatDoor
namespace Go.Proofs.YticbbfbpeimkbaaGreatDoor
open Go.Ab
theorem wordPC (s:List UInt8):Pure Tryz.prog 175 [.str s] (.agg (cV (wordV s))):=by
 refine Pure.go ir175 ck175 (Nat.le_refl _) fun KP Q hQ=>?_
 simp (disch:=first|omega|assumption) only [ir175,go_sem,↓reduceIte]
 refine goA_intro fun b hb=>?_
 by_cases h1:s=[110,117,108,108]
 ·have h1':(s=[110,117,108,108])=True:=eq_true h1
  simp (disch:=first|omega|assumption) only [h1',go_sem,↓reduceIte]
  exact hQ _ _ _ [.agg [.int .i64 0,.int .i64 0,.str [],.sl .nil 5 [],.sl .nil 6 []]] nofun (by simp (disch:=first|omega|assumption) only [ir175,resvs,resv,go_sem,↓reduceIte]) (by rw [wordV,if_pos h1];rfl)
 by_cases h2:s=[116,114,117,101]
 ·have h2':(s=[116,114,117,101])=True:=eq_true h2
  simp (disch:=first|omega|assumption) only [h1,h2',go_sem,↓reduceIte]
  exact hQ _ _ _ [.agg [.int .i64 1,.int .i64 1,.str [],.sl .nil 5 [],.sl .nil 6 []]] nofun (by simp (disch:=first|omega|assumption) only [ir175,resvs,resv,go_sem,↓reduceIte]) (by rw [wordV,if_neg h1,if_pos h2];rfl)
 by_cases h3:s=[102,97,108,115,101]
 ·have h3':(s=[102,97,108,115,101])=True:=eq_true h3
  simp (disch:=first|omega|assumption) only [h1,h2,h3',go_sem,↓reduceIte]
  exact hQ _ _ _ [.agg [.int .i64 1,.int .i64 0,.str [],.sl .nil 5 [],.sl .nil 6 []]] nofun (by simp (disch:=first|omega|assumption) only [ir175,resvs,resv,go_sem,↓reduceIte]) (by rw [wordV,if_neg h1,if_neg h2,if_pos h3];rfl)
 simp (disch:=first|omega|assumption) only [h1,h2,h3,go_sem,↓reduceIte]
 exact hQ _ _ _ [.agg [.int .i64 5,.int .i64 0,.str s,.sl .nil 5 [],.sl .nil 6 []]] nofun (by simp (disch:=first|omega|assumption) only [ir175,resvs,resv,go_sem,↓reduceIte]) (by rw [wordV,if_neg h1,if_neg h2,if_neg h3];rfl)
def ValPC (fixed:Bool) (k:Nat):Prop:=∀ (H:Heap) (r:Nat) (L p t:TS),p++t=L→wT L≤LimP→H r=some (prc L p (16-k)) →
 ACalls Tryz.prog 96 [.ptr r 0,.bool fixed] H (RpE H r L (16-k) (valP fixed k t) fun v=>.agg (cV v))
theorem memberPC {fixed:Bool} {k:Nat} (hv:ValPC fixed k) {H:Heap} {r:Nat} {L p t:TS} (hs:p++t=L) (hl:wT L≤LimP) (hr:H r=some (prc L p (16-k))) :
  ACalls Tryz.prog 181 [.ptr r 0,.bool fixed] H (RpE H r L (16-k) (memberP (valP fixed k) t) fun m=>.agg (cM m)):=by
 refine retStrip (ACalls.goO (R:=fun v H'=>RetQ H r L (16-k) (memberP (valP fixed k) t) (fun m=>.agg (cM m)) v.strip H') (RP:=fun v H'=>PanQ (memberP (valP fixed k) t) v H') ir181 ck181 (Nat.le_refl _) fun KP Q hQ hP=>?_)
 have hll:L.length≤LimP:=Nat.le_trans (len_w L) hl
 have pan:∀ (v:AV) (H1:Heap) (n:Int),v=stopP n→memberP (valP fixed k) t=.error n→KP v H1:=fun v H1 n h1 h2=>hP v H1 H1 (Low.refl _) ⟨n,h2,h1⟩
 have fin:=KI.done hQ
 have K0:=KI.start hs hr
 simp (disch:=first|omega|assumption) only [ir181,go_sem,↓reduceIte]
 refine goA_intro fun b4 hb4=>?_
 have n4:=K0.ne hb4
 have K1:=K0.box (x:=.cells [.str [],.int .i64 0,.int .i64 0,.str [],.sl .nil 5 [],.sl .nil 6 []]) hb4
 simp (disch:=first|omega|assumption) only [go_sem,↓reduceIte]
 refine goK_both (namePC (dp:=16-k) hs hll (by rw [upd_ne n4];exact hr)) (fun v H1 ⟨nm,t1,e1,hv1,ha1⟩=>?_) fun v H1 ⟨n,e1,hv1⟩=>pan v H1 n hv1 (by rw [memberP,e1];rfl)
 subst hv1
 have K2:=K1.call ha1
 obtain ⟨p1,hp1,hr1⟩:=K2.here
 have g1:H1 b4=some (.cells [.str [],.int .i64 0,.int .i64 0,.str [],.sl .nil 5 [],.sl .nil 6 []]):=by rw [ha1.other (Ne.symm n4),upd_same]
 simp (disch:=first|omega|assumption) only [go_sem,↓reduceIte]
 refine goK_both (mustPC (dp:=16-k) hp1 hll hr1 [58]) (fun v H2 ⟨_,t2,e2,hv2,ha2⟩=>?_) fun v H2 ⟨n,e2,hv2⟩=>pan v H2 n hv2 (by rw [memberP,e1,pb_ok,e2];rfl)
 subst hv2
 have K3:=K2.call ha2
 obtain ⟨p2,hp2,hr2⟩:=K3.here
 have g2:H2 b4=some (.cells [.str [],.int .i64 0,.int .i64 0,.str [],.sl .nil 5 [],.sl .nil 6 []]):=by rw [ha2.other (Ne.symm n4),g1]
 simp (disch:=first|omega|assumption) only [go_sem,↓reduceIte]
 refine goK_both (hv _ r L p2 t2 hp2 hl hr2) (fun v H3 ⟨x,t3,e3,hv3,ha3⟩=>?_) fun v H3 ⟨n,e3,hv3⟩=>pan v H3 n hv3 (by rw [memberP,e1,pb_ok,e2,pb_ok,e3];rfl)
 subst hv3
 have K4:=K3.call ha3
 have g3:H3 b4=some (.cells [.str [],.int .i64 0,.int .i64 0,.str [],.sl .nil 5 [],.sl .nil 6 []]):=by rw [ha3.other (Ne.symm n4),g2]
 simp (disch:=first|omega|assumption) only [cV_len,cV_take,cV_splice,cM_len,cM_take,cM_splice,cM_mk,g3,go_sem,↓reduceIte]
 refine fin _ _ [.agg (.str nm :: cV x)] (.mk nm x) t3 (by simp (disch:=first|omega|assumption) only [cV_len,cV_take,cV_splice,cM_len,cM_take,cM_splice,cM_mk,ir181,resvs,resv,go_sem,↓reduceIte]) (by rw [memberP,e1,pb_ok,e2,pb_ok,e3];rfl) (K4.box hb4) ?_
 simp [tupOf,AV.strip,AV.strip1,cM_mk,cV_strip]
abbrev zB:List AV:=[.int .i64 0,.int .i64 0,.str [],.sl .nil 5 [],.sl .nil 6 []]
theorem valuePC (fixed:Bool) (k:Nat) (hk:k≤16) (ih:∀ n,k=n+1→ValPC fixed n):ValPC fixed k:=by
 intro H r L p t hs hl hr
 refine retStrip (ACalls.goO (R:=fun v H'=>RetQ H r L (16-k) (valP fixed k t) (fun v=>.agg (cV v)) v.strip H') (RP:=fun v H'=>PanQ (valP fixed k t) v H') ir96 ck96 (Nat.le_refl _) fun KP Q hQ hP=>?_)
 have hll:L.length≤LimP:=Nat.le_trans (len_w L) hl
 have hsl:(hdT t).s.length≤LimP:=Nat.le_trans (hd_w hs) hl
 have hplen:p.length+t.length=L.length:=by rw [← hs];simp
 have pan:∀ (v:AV) (H1:Heap) (n:Int),v=stopP n→valP fixed k t=.error n→KP v H1:=fun v H1 n h1 h2=>hP v H1 H1 (Low.refl _) ⟨n,h2,h1⟩
 have fin:=KI.done hQ
 have K0:=KI.start hs hr
 simp (disch:=first|omega|assumption) only [ir96,go_sem,↓reduceIte]
 refine goA_intro fun b4 hb4=>?_
 have n4:=K0.ne hb4
 simp (disch:=first|omega|assumption) only [go_sem,↓reduceIte]
 refine goK_ret (nextP (dp:=16-k) hs (by rw [upd_ne n4];exact hr)) fun v H1 ⟨hv,hH⟩=>?_
 subst hv;subst hH
 simp (disch:=first|omega|assumption) only [tokA,go_sem,↓reduceIte]
 refine goA_intro fun b5 hb5=>?_
 have h54:b5≠b4:=fun e=>by subst e;rw [upd_same] at hb5;cases hb5
 have hb5H:H b5=none:=by rw [upd_ne h54] at hb5;exact hb5
 have n5:=K0.ne hb5H
 simp (disch:=first|omega|assumption) only [go_sem,↓reduceIte]
 generalize hHa:Heap.upd (Heap.upd H b4 _) b5 _=Ha
 have g5:Ha b5=some (.cells [.int .i64 (hdT t).k,.str (hdT t).s]):=by rw [← hHa,upd_same]
 have g4:Ha b4=some (.cells zB):=by rw [← hHa,upd_ne (Ne.symm h54),upd_same]
 have gr:Ha r=some (prc L p (16-k)):=by rw [← hHa,upd_ne n5,upd_ne n4];exact hr
 have KA:KI H r L t (16-k) Ha:=by rw [← hHa];exact (K0.box hb4).box hb5H
 clear hHa
 have gr':=gr
 simp only [prc] at gr'
 simp only [zB] at g4
 have n5s:=Ne.symm n5
 have n4s:=Ne.symm n4
 simp only [LimP] at hsl
 have hll2:=hll
 simp only [LimP] at hll2
 by_cases hk2:(hdT t).k=2
 ·have hk2':((hdT t).k=2)=True:=eq_true hk2
  have e1:valP fixed k t=.ok (wordV (hdT t).s,t.tail):=by rw [valP_eq,valB.eq_def,if_pos hk2]
  simp (disch:=first|omega|assumption) only [hk2',g5,gr',wrap64,n5s,n4s,go_sem,↓reduceIte]
  refine goK_pure (wordPC _) ?_
  simp (disch:=first|omega|assumption) only [cV_len,cV_take,cV_splice,cM_len,cM_take,cM_splice,cM_mk,g4,n4s,go_sem,↓reduceIte]
  exact fin _ _ [.agg (cV (wordV (hdT t).s))] _ _ (by simp (disch:=first|omega|assumption) only [cV_len,cV_take,cV_splice,cM_len,cM_take,cM_splice,cM_mk,ir96,resvs,resv,go_sem,↓reduceIte]) e1 ((KA.call (prc_on hs (by rw [hk2];decide) _)).box hb4) (by simp [tupOf,AV.strip,cV_strip])
 by_cases hk34:(hdT t).k=3∨(hdT t).k=4
 ·have e1:valP fixed k t=.ok (numV (hdT t).s,t.tail):=by rw [valP_eq,valB.eq_def,if_neg hk2,if_pos hk34]
  have hk0:(hdT t).k≠0:=by omega
  have hd3:(decide ((hdT t).k=3) || decide ((hdT t).k=4))=true:=by simpa using hk34
  rcases Classical.em ((hdT t).k=3) with hk3|hk3
  ·have hk3':((hdT t).k=3)=True:=eq_true hk3
   simp (disch:=first|omega|assumption) only [hk2,hk3',g5,gr',wrap64,n5s,n4s,go_sem,↓reduceIte]
   refine goK_pure (WholeC _ (by simp only [Lim];omega)) ?_
   cases hw:wholeB (hdT t).s with
   | true =>
    simp (disch:=first|omega|assumption) only [go_sem,↓reduceIte]
    refine goK_pure (intP _) ?_
    simp (disch:=first|omega|assumption) only [cV_len,cV_take,cV_splice,cM_len,cM_take,cM_splice,cM_mk,g4,n4s,go_sem,↓reduceIte]
    refine fin _ _ [.agg (cV (.mk 2 (valI (hdT t).s) [] [] []))] _ _ (by simp (disch:=first|omega|assumption) only [cV_len,cV_take,cV_splice,cM_len,cM_take,cM_splice,cM_mk,ir96,resvs,resv,go_sem,↓reduceIte]) e1 ((KA.call (prc_on hs hk0 _)).box hb4) ?_
    simp [tupOf,AV.strip,cV_strip,numV,hw]
   | false =>
    simp (disch:=first|omega|assumption) only [g5,g4,n5s,n4s,go_sem,↓reduceIte]
    refine fin _ _ [.agg [.int .i64 3,.int .i64 0,.str (hdT t).s,.sl .nil 5 [],.sl .nil 6 []]] _ _ (by simp (disch:=first|omega|assumption) only [cV_len,cV_take,cV_splice,cM_len,cM_take,cM_splice,cM_mk,ir96,resvs,resv,go_sem,↓reduceIte]) e1 ((KA.call (prc_on hs hk0 _)).box hb4) ?_
    simp [tupOf,AV.strip,AV.strip1,numV,hw,cV,cVs,cMs]
  ·have hk4':((hdT t).k=4)=True:=eq_true (by omega)
   simp (disch:=first|omega|assumption) only [hk2,hk3,hk4',g5,gr',wrap64,n5s,n4s,go_sem,↓reduceIte]
   refine goK_pure (WholeC _ (by simp only [Lim];omega)) ?_
   cases hw:wholeB (hdT t).s with
   | true =>
    simp (disch:=first|omega|assumption) only [go_sem,↓reduceIte]
    refine goK_pure (intP _) ?_
    simp (disch:=first|omega|assumption) only [cV_len,cV_take,cV_splice,cM_len,cM_take,cM_splice,cM_mk,g4,n4s,go_sem,↓reduceIte]
    refine fin _ _ [.agg (cV (.mk 2 (valI (hdT t).s) [] [] []))] _ _ (by simp (disch:=first|omega|assumption) only [cV_len,cV_take,cV_splice,cM_len,cM_take,cM_splice,cM_mk,ir96,resvs,resv,go_sem,↓reduceIte]) e1 ((KA.call (prc_on hs hk0 _)).box hb4) ?_
    simp [tupOf,AV.strip,cV_strip,numV,hw]
   | false =>
    simp (disch:=first|omega|assumption) only [g5,g4,n5s,n4s,go_sem,↓reduceIte]
    refine fin _ _ [.agg [.int .i64 3,.int .i64 0,.str (hdT t).s,.sl .nil 5 [],.sl .nil 6 []]] _ _ (by simp (disch:=first|omega|assumption) only [cV_len,cV_take,cV_splice,cM_len,cM_take,cM_splice,cM_mk,ir96,resvs,resv,go_sem,↓reduceIte]) e1 ((KA.call (prc_on hs hk0 _)).box hb4) ?_
    simp [tupOf,AV.strip,AV.strip1,numV,hw,cV,cVs,cMs]
 by_cases hk5:(hdT t).k=5
 ·have hk5':((hdT t).k=5)=True:=eq_true hk5
  have hk3:¬ ((hdT t).k=3):=by omega
  have hk4:¬ ((hdT t).k=4):=by omega
  have e1:valP fixed k t=.ok (.mk 4 0 (hdT t).s [] [],t.tail):=by rw [valP_eq,valB.eq_def,if_neg hk2,if_neg hk34,if_pos hk5]
  simp (disch:=first|omega|assumption) only [hk2,hk3,hk4,hk5',g5,gr',wrap64,n5s,n4s,go_sem,↓reduceIte]
  refine goK_pure (textP _) ?_
  simp (disch:=first|omega|assumption) only [cV_len,cV_take,cV_splice,cM_len,cM_take,cM_splice,cM_mk,g4,n4s,go_sem,↓reduceIte]
  exact fin _ _ [.agg (cV (.mk 4 0 (hdT t).s [] []))] _ _ (by simp (disch:=first|omega|assumption) only [cV_len,cV_take,cV_splice,cM_len,cM_take,cM_splice,cM_mk,ir96,resvs,resv,go_sem,↓reduceIte]) e1 ((KA.call (prc_on hs (by rw [hk5];decide) _)).box hb4) (by simp [tupOf,AV.strip,cV_strip])
 have hk3:¬ ((hdT t).k=3):=fun e=>hk34 (.inl e)
 have hk4:¬ ((hdT t).k=4):=fun e=>hk34 (.inr e)
 have bad1:isP [91] t=true→k=0→valP fixed k t=.error 4:=fun hi h=>by
  subst h
  rw [valP_eq,valB.eq_def,if_neg hk2,if_neg hk34,if_neg hk5,if_pos hi];rfl
 have bad2:¬ (isP [91] t=true)→isP [123] t=true→k=0→valP fixed k t=.error 4:=fun h0 hi h=>by
  subst h
  rw [valP_eq,valB.eq_def,if_neg hk2,if_neg hk34,if_neg hk5,if_neg h0,if_pos hi];rfl
 simp (disch:=first|omega|assumption) only [hk2,hk3,hk4,hk5,g5,go_sem,↓reduceIte]
 refine goK_both (openPC (dp:=16-k) hs hll (by omega) gr [91]) (fun v H1 ⟨hv,hat,haf⟩=>?_) fun v H1 ⟨hi,h16,hv⟩=>pan v H1 4 hv (bad1 hi (by omega))
 subst hv
 cases hi:isP [91] t with
 | true =>
  obtain ⟨hd16,ha1⟩:=hat hi
  obtain ⟨n,rfl⟩:∃ n,k=n+1:=⟨k-1,by omega⟩
  rw [show 16-(n+1)+1=16-n by omega] at ha1
  have K1:=KA.call ha1
  have g41:H1 b4=some (.cells zB):=by rw [ha1.other n4s,g4]
  have hi0:isP [91] t=true:=hi
  have hi2:isP [91] t=true:=hi
  simp (disch:=first|omega|assumption) only [go_sem,↓reduceIte]
  refine goA_intro fun b8 hb8=>?_
  have hb8':=hb8
  have hb8H:H b8=none:=K1.none hb8
  have n8:=K1.ne hb8H
  have h84:b8≠b4:=fun e=>by subst e;rw [g41] at hb8;cases hb8
  have K2:KO H r L t.tail (16-n) (H1.upd b8 (.cells [.int .i64 6,.int .i64 0,.str [],.sl .nil 5 [],.sl .nil 6 []])) .nil 0 5:=⟨K1.box hb8H,rfl,nofun⟩
  obtain ⟨R,hR⟩:∃ R,manyP [93] (valP fixed n) (t.tail.length+1) [] t.tail=R:=⟨_,rfl⟩
  have hx:valP fixed (n+1) t=pb R fun l t=>.ok (Val.mk 6 0 [] l [],t):=by rw [← hR,valP_eq,valB.eq_def,if_neg hk2,if_neg hk34,if_neg hk5,if_pos hi2];rfl
  simp (disch:=first|omega|assumption) only [List.map_nil,go_sem,↓reduceIte]
  refine goL_st (fun x:Own × List Val × TS=>[]) (fun x H'=>KO H r L x.2.2 (16-n) H' x.1 x.2.1.length 5∧H' b8=some (.cells [.int .i64 6,.int .i64 0,.str [],.sl x.1 5 (cVs x.2.1),.sl .nil 6 []])∧H' b4=some (.cells zB)∧(∃ m,x.2.2.length<m∧manyP [93] (valP fixed n) m x.2.1 x.2.2=R)∧x.2.1.length+x.2.2.length≤L.length) (fun x=>x.2.2.length) (.nil,[],t.tail) (by simp (disch:=first|omega|assumption) only [go_sem,↓reduceIte]) ⟨K2,upd_same ..,by rw [upd_ne (Ne.symm h84)];exact g41,⟨_,Nat.lt_succ_self _,hR⟩,by have:=K1.here;obtain ⟨q,hq,_⟩:=this;rw [← hq];simp⟩ ?_
  rintro ⟨o,l,u⟩ H3 J ⟨K3,g8,g4,⟨m,hm,hR3⟩,hlen⟩ hJ
  simp only at K3 g8 g4 hm hR3 hlen
  obtain ⟨m,rfl⟩:∃ j,m=j+1:=⟨m-1,by omega⟩
  obtain ⟨p3,hp3,hr3⟩:=K3.here
  have hcl:=cVs_len l
  simp (disch:=first|omega|assumption) only [go_sem,↓reduceIte]
  refine goK_ret (closePC hp3 hll (by omega) hr3 [93]) fun v H4 ⟨hv4,hat,haf⟩=>?_
  subst hv4
  cases hj:isP [93] u with
  | true =>
   have ha4:=hat hj
   have K4:=K3.call ha4
   rw [show 16-n-1=16-(n+1) by omega] at K4
   have g84:H4 b8=some (.cells [.int .i64 6,.int .i64 0,.str [],.sl o 5 (cVs l),.sl .nil 6 []]):=by rw [ha4.other (Ne.symm n8),g8]
   have g44:H4 b4=some (.cells zB):=by rw [ha4.other (Ne.symm n4),g4]
   simp only [zB] at g44
   have e1:R=.ok (l,u.tail):=by rw [← hR3,manyP,hj];rfl
   simp (disch:=first|omega|assumption) only [g84,g44,Ne.symm h84,h84,go_sem,↓reduceIte]
   refine fin _ _ [.agg [.int .i64 6,.int .i64 0,.str [],.sl o 5 (cVs l),.sl .nil 6 []]] (Val.mk 6 0 [] l []) u.tail (by simp (disch:=first|omega|assumption) only [ir96,resvs,resv,go_sem,↓reduceIte]) (by rw [hx,e1];rfl) (K4.toKI.box hb4) ?_
   simp [tupOf,AV.strip,AV.strip1,cV,cVs,cMs,cVs_strip]
  | false =>
   have ha4:=haf hj
   have K4:=K3.call ha4
   obtain ⟨p4,hp4,hr4⟩:=K4.here
   have g84:H4 b8=some (.cells [.int .i64 6,.int .i64 0,.str [],.sl o 5 (cVs l),.sl .nil 6 []]):=by rw [ha4.other (Ne.symm n8),g8]
   have g44:H4 b4=some (.cells zB):=by rw [ha4.other (Ne.symm n4),g4]
   rw [manyP,hj] at hR3
   simp only [Bool.false_eq_true,if_false] at hR3
   simp (disch:=first|omega|assumption) only [g84,go_sem,↓reduceIte]
   refine goK_both (ih n rfl _ r L p4 u hp4 hl hr4) (fun v H5 ⟨x,t5,e5,hv5,ha5⟩=>?_) fun v H5 ⟨n5,e5,hv5⟩=>pan v H5 n5 hv5 (by rw [hx,← hR3,e5];rfl)
   subst hv5
   rw [e5,pb_ok] at hR3
   have hlt:=(valP_fit fixed n).lt (by decide) _ _ _ e5
   have K5:=K4.call ha5
   have g85:H5 b8=some (.cells [.int .i64 6,.int .i64 0,.str [],.sl o 5 (cVs l),.sl .nil 6 []]):=by rw [ha5.other (Ne.symm n8),g84]
   have g45:H5 b4=some (.cells zB):=by rw [ha5.other (Ne.symm n4),g44]
   simp (disch:=first|omega|assumption) only [cV_len,cV_take,cV_splice,cM_len,cM_take,cM_splice,cM_mk,g85,go_sem,↓reduceIte]
   refine goP_ownS (by rw [hcl];exact K5.own) (by simp only [hcl,List.length_cons,List.length_nil];simp only [LimP] at hll;omega) (by simp only [hcl,List.length_cons,List.length_nil,maxLen];simp only [LimP] at hll;omega) fun o6 H6 hs6=>?_
   have K6:=K5.app (by simpa [hcl] using hs6)
   have g86:=K5.stay hs6 g85
   have g46:=K5.stay hs6 g45
   simp (disch:=first|omega|assumption) only [cV_len,cV_take,cV_splice,cM_len,cM_take,cM_splice,cM_mk,g86,go_sem,↓reduceIte]
   refine goJ (hJ (o6,l++[x],t5) _ (by simp only;omega) ⟨by simpa using K6.box hb8H g86,by rw [upd_same];simp [cVs_map,cV_strip],by rw [upd_ne (Ne.symm h84)];exact g46,⟨m,by simp only;omega,hR3⟩,by simp only [List.length_append,List.length_cons,List.length_nil];omega⟩) (by simp (disch:=first|omega|assumption) only [go_sem,↓reduceIte])
 | false =>
  have ha1:=haf hi
  have K1:=KA.call ha1
  have g41:H1 b4=some (.cells zB):=by rw [ha1.other n4s,g4]
  obtain ⟨p1,hp1,hr1⟩:=K1.here
  have hi0:¬ (isP [91] t=true):=by rw [hi];decide
  clear hat haf
  simp (disch:=first|omega|assumption) only [go_sem,↓reduceIte]
  refine goK_both (openPC (dp:=16-k) hp1 hll (by omega) hr1 [123]) (fun v H2 ⟨hv,hat,haf⟩=>?_) fun v H2 ⟨hi,h16,hv⟩=>pan v H2 4 hv (bad2 hi0 hi (by omega))
  subst hv
  cases hi:isP [123] t with
  | true =>
   obtain ⟨hd16,ha2⟩:=hat hi
   obtain ⟨n,rfl⟩:∃ n,k=n+1:=⟨k-1,by omega⟩
   rw [show 16-(n+1)+1=16-n by omega] at ha2
   have K1:=K1.call ha2
   have g41:H2 b4=some (.cells zB):=by rw [ha2.other n4s,g41]
   clear hat haf
   have hi2:isP [123] t=true:=hi
   simp (disch:=first|omega|assumption) only [go_sem,↓reduceIte]
   refine goA_intro fun b8 hb8=>?_
   have hb8':=hb8
   have hb8H:H b8=none:=K1.none hb8
   have n8:=K1.ne hb8H
   have h84:b8≠b4:=fun e=>by subst e;rw [g41] at hb8;cases hb8
   have K2:KO H r L t.tail (16-n) (H2.upd b8 (.cells [.int .i64 7,.int .i64 0,.str [],.sl .nil 5 [],.sl .nil 6 []])) .nil 0 6:=⟨K1.box hb8H,rfl,nofun⟩
   obtain ⟨R,hR⟩:∃ R,manyP [125] (memberP (valP fixed n)) (t.tail.length+1) [] t.tail=R:=⟨_,rfl⟩
   have hx:valP fixed (n+1) t=pb R fun l t=>.ok (Val.mk 7 0 [] [] l,t):=by rw [← hR,valP_eq,valB.eq_def,if_neg hk2,if_neg hk34,if_neg hk5,if_neg hi0,if_pos hi2];rfl
   simp (disch:=first|omega|assumption) only [List.map_nil,go_sem,↓reduceIte]
   refine goL_st (fun x:Own × List Mem × TS=>[]) (fun x H'=>KO H r L x.2.2 (16-n) H' x.1 x.2.1.length 6∧H' b8=some (.cells [.int .i64 7,.int .i64 0,.str [],.sl .nil 5 [],.sl x.1 6 (cMs x.2.1)])∧H' b4=some (.cells zB)∧(∃ m,x.2.2.length<m∧manyP [125] (memberP (valP fixed n)) m x.2.1 x.2.2=R)∧x.2.1.length+x.2.2.length≤L.length) (fun x=>x.2.2.length) (.nil,[],t.tail) (by simp (disch:=first|omega|assumption) only [go_sem,↓reduceIte]) ⟨K2,upd_same ..,by rw [upd_ne (Ne.symm h84)];exact g41,⟨_,Nat.lt_succ_self _,hR⟩,by have:=K1.here;obtain ⟨q,hq,_⟩:=this;rw [← hq];simp⟩ ?_
   rintro ⟨o,l,u⟩ H3 J ⟨K3,g8,g4,⟨m,hm,hR3⟩,hlen⟩ hJ
   simp only at K3 g8 g4 hm hR3 hlen
   obtain ⟨m,rfl⟩:∃ j,m=j+1:=⟨m-1,by omega⟩
   obtain ⟨p3,hp3,hr3⟩:=K3.here
   have hcl:=cMs_len l
   simp (disch:=first|omega|assumption) only [go_sem,↓reduceIte]
   refine goK_ret (closePC hp3 hll (by omega) hr3 [125]) fun v H4 ⟨hv4,hat,haf⟩=>?_
   subst hv4
   cases hj:isP [125] u with
   | true =>
    have ha4:=hat hj
    have K4:=K3.call ha4
    rw [show 16-n-1=16-(n+1) by omega] at K4
    have g84:H4 b8=some (.cells [.int .i64 7,.int .i64 0,.str [],.sl .nil 5 [],.sl o 6 (cMs l)]):=by rw [ha4.other (Ne.symm n8),g8]
    have g44:H4 b4=some (.cells zB):=by rw [ha4.other (Ne.symm n4),g4]
    simp only [zB] at g44
    have e1:R=.ok (l,u.tail):=by rw [← hR3,manyP,hj];rfl
    simp (disch:=first|omega|assumption) only [g84,g44,Ne.symm h84,h84,go_sem,↓reduceIte]
    refine fin _ _ [.agg [.int .i64 7,.int .i64 0,.str [],.sl .nil 5 [],.sl o 6 (cMs l)]] (Val.mk 7 0 [] [] l) u.tail (by simp (disch:=first|omega|assumption) only [ir96,resvs,resv,go_sem,↓reduceIte]) (by rw [hx,e1];rfl) (K4.toKI.box hb4) ?_
    simp [tupOf,AV.strip,AV.strip1,cV,cVs,cMs,cMs_strip]
   | false =>
    have ha4:=haf hj
    have K4:=K3.call ha4
    obtain ⟨p4,hp4,hr4⟩:=K4.here
    have g84:H4 b8=some (.cells [.int .i64 7,.int .i64 0,.str [],.sl .nil 5 [],.sl o 6 (cMs l)]):=by rw [ha4.other (Ne.symm n8),g8]
    have g44:H4 b4=some (.cells zB):=by rw [ha4.other (Ne.symm n4),g4]
    rw [manyP,hj] at hR3
    simp only [Bool.false_eq_true,if_false] at hR3
    simp (disch:=first|omega|assumption) only [g84,go_sem,↓reduceIte]
    refine goK_both (memberPC (ih n rfl) hp4 hl hr4) (fun v H5 ⟨x,t5,e5,hv5,ha5⟩=>?_) fun v H5 ⟨n5,e5,hv5⟩=>pan v H5 n5 hv5 (by rw [hx,← hR3,e5];rfl)
    subst hv5
    rw [e5,pb_ok] at hR3
    have hlt:=(memberP_fit (valP_fit fixed n)).lt (by decide) _ _ _ e5
    have K5:=K4.call ha5
    have g85:H5 b8=some (.cells [.int .i64 7,.int .i64 0,.str [],.sl .nil 5 [],.sl o 6 (cMs l)]):=by rw [ha5.other (Ne.symm n8),g84]
    have g45:H5 b4=some (.cells zB):=by rw [ha5.other (Ne.symm n4),g44]
    simp (disch:=first|omega|assumption) only [cV_len,cV_take,cV_splice,cM_len,cM_take,cM_splice,cM_mk,g85,go_sem,↓reduceIte]
    refine goP_ownS (by rw [hcl];exact K5.own) (by simp only [hcl,List.length_cons,List.length_nil];simp only [LimP] at hll;omega) (by simp only [hcl,List.length_cons,List.length_nil,maxLen];simp only [LimP] at hll;omega) fun o6 H6 hs6=>?_
    have K6:=K5.app (by simpa [hcl] using hs6)
    have g86:=K5.stay hs6 g85
    have g46:=K5.stay hs6 g45
    simp (disch:=first|omega|assumption) only [cV_len,cV_take,cV_splice,cM_len,cM_take,cM_splice,cM_mk,g86,go_sem,↓reduceIte]
    refine goJ (hJ (o6,l++[x],t5) _ (by simp only;omega) ⟨by simpa using K6.box hb8H g86,by rw [upd_same];simp [cMs_map,cM_strip],by rw [upd_ne (Ne.symm h84)];exact g46,⟨m,by simp only;omega,hR3⟩,by simp only [List.length_append,List.length_cons,List.length_nil];omega⟩) (by simp (disch:=first|omega|assumption) only [go_sem,↓reduceIte])
  | false =>
   have ha2:=haf hi
   have K2:=K1.call ha2
   have g42:H2 b4=some (.cells zB):=by rw [ha2.other n4s,g41]
   obtain ⟨p2,hp2,hr2⟩:=K2.here
   have hi1:¬ (isP [123] t=true):=by rw [hi];decide
   cases hfx:fixed with
   | true =>
    subst hfx
    simp (disch:=first|omega|assumption) only [go_sem,↓reduceIte]
    exact goK_both (failP _ r 2) (fun _ _ h=>h.elim) fun v H3 h=>pan v H3 2 h (by rw [valP_eq,valB.eq_def,if_neg hk2,if_neg hk34,if_neg hk5,if_neg hi0,if_neg hi1];rfl)
   | false =>
    subst hfx
    have hx:valP false k t=pb (mustP [36] t) fun _ t=>pb (nameP t) fun s t=>.ok (.mk 8 0 s [] [],t):=by rw [valP_eq,valB.eq_def,if_neg hk2,if_neg hk34,if_neg hk5,if_neg hi0,if_neg hi1];rfl
    simp (disch:=first|omega|assumption) only [go_sem,↓reduceIte]
    refine goK_both (mustPC (dp:=16-k) hp2 hll hr2 [36]) (fun v H3 ⟨_,t3,e3,hv3,ha3⟩=>?_) fun v H3 ⟨n,e3,hv3⟩=>pan v H3 n hv3 (by rw [hx,e3];rfl)
    subst hv3
    have K3:=K2.call ha3
    obtain ⟨p3,hp3,hr3⟩:=K3.here
    have g43:H3 b4=some (.cells zB):=by rw [ha3.other n4s,g42]
    simp (disch:=first|omega|assumption) only [go_sem,↓reduceIte]
    refine goK_both (namePC (dp:=16-k) hp3 hll hr3) (fun v H4 ⟨s,t4,e4,hv4,ha4⟩=>?_) fun v H4 ⟨n,e4,hv4⟩=>pan v H4 n hv4 (by rw [hx,e3,pb_ok,e4];rfl)
    subst hv4
    have K4:=K3.call ha4
    have g44:H4 b4=some (.cells zB):=by rw [ha4.other n4s,g43]
    simp only [zB] at g44
    simp (disch:=first|omega|assumption) only [g44,go_sem,↓reduceIte]
    exact fin _ _ [.agg [.int .i64 8,.int .i64 0,.str s,.sl .nil 5 [],.sl .nil 6 []]] (.mk 8 0 s [] []) t4 (by simp (disch:=first|omega|assumption) only [ir96,resvs,resv,go_sem,↓reduceIte]) (by rw [hx,e3,pb_ok,e4];rfl) (K4.box hb4) rfl
theorem valuePall (fixed:Bool):∀ k,k≤16→ValPC fixed k
 | 0,h=>valuePC fixed 0 h fun n e=>by cases e
 | k+1,h=>valuePC fixed (k+1) h fun n e=>by cases e;exact valuePall fixed k (by omega)
end Go.Proofs.YticbbfbpeimkbaaGreatDoor
namespace Go.Proofs.YticbbfbpeimkbaaGreatDoor
open Go.Ab
theorem suf_len {p t L:TS} (h:p++t=L):t.length≤L.length:=by rw [← h];simp
theorem cD_map (l:List DirD):cDs l=l.map cD:=rfl
theorem argsPC {fixed:Bool} {k:Nat} (hk:k≤16) {H:Heap} {r:Nat} {L p t:TS} (hs:p++t=L) (hl:wT L≤LimP) (hr:H r=some (prc L p (16-k))) :
  ACalls Tryz.prog 300 [.ptr r 0,.bool fixed] H (RpE H r L (16-k) (argsP fixed k t) (fun l=>.sl .no 6 (cMs l))):=by
 refine retStrip (ACalls.goO (R:=fun v H'=>RetQ H r L (16-k) (argsP fixed k t) (fun l=>.sl .no 6 (cMs l)) v.strip H') (RP:=fun v H'=>PanQ (argsP fixed k t) v H') ir300 ck300 (Nat.le_refl _) fun KP Q hQ hP=>?_)
 have hll:L.length≤LimP:=Nat.le_trans (len_w L) hl
 have hll2:=hll
 simp only [LimP] at hll2
 have pan:∀ (v:AV) (H1:Heap) (n:Int),v=stopP n→(argsP fixed k t)=.error n→KP v H1:=fun v H1 n h1 h2=>hP v H1 H1 (Low.refl _) ⟨n,h2,h1⟩
 have fin:=KI.done hQ
 have K0:=KI.start hs hr
 have hv:=valuePall fixed k hk
 simp (disch:=first|omega|assumption) only [ir300,go_sem,↓reduceIte]
 refine goK_ret (mayPC (dp:=16-k) hs hll hr [40]) fun v H1 ⟨hv1,ha1⟩=>?_
 subst hv1
 cases hi:isP [40] t with
 | false =>
  rw [mayT,hi] at ha1
  simp (disch:=first|omega|assumption) only [go_sem,↓reduceIte]
  exact fin _ _ [.sl .nil 6 []] [] t (by simp (disch:=first|omega|assumption) only [ir300,resvs,resv,go_sem,↓reduceIte]) (by unfold argsP;rw [hi];rfl) (K0.call (by simpa using ha1)) (by simp [tupOf,AV.strip,AV.strip1,cMs])
 | true =>
  rw [mayT,hi,if_pos rfl] at ha1
  have K1:=K0.call ha1
  obtain ⟨p1,hp1,hr1⟩:=K1.here
  have hx:argsP fixed k t=pb (memberP (valP fixed k) t.tail) fun x t=>manyP [41] (memberP (valP fixed k)) (t.length+1) [x] t:=by
   unfold argsP;rw [hi]
   rfl
  simp (disch:=first|omega|assumption) only [go_sem,↓reduceIte]
  refine goK_both (memberPC hv hp1 hl hr1) (fun v H2 ⟨x1,t2,e2,hv2,ha2⟩=>?_) fun v H2 ⟨n,e2,hv2⟩=>pan v H2 n hv2 (by rw [hx,e2];rfl)
  subst hv2
  have K2:=K1.call ha2
  have hlt1:=(memberP_fit (valP_fit fixed k)).lt (by decide) _ _ _ e2
  have hsl:=suf_len hp1
  rw [e2,pb_ok] at hx
  obtain ⟨R,hR⟩:∃ R,manyP [41] (memberP (valP fixed k)) (t2.length+1) [x1] t2=R:=⟨_,rfl⟩
  rw [hR] at hx
  simp (disch:=first|omega|assumption) only [cV_len,cV_take,cV_splice,cM_len,cM_take,cM_splice,cM_mk,go_sem,↓reduceIte]
  refine goL_st (fun x:Own × List Mem × TS=>[(5,.sl x.1 6 (cMs x.2.1))]) (fun x H'=>KO H r L x.2.2 (16-k) H' x.1 x.2.1.length 6∧(∃ m,x.2.2.length<m∧manyP [41] (memberP (valP fixed k)) m x.2.1 x.2.2=R)∧x.2.1.length+x.2.2.length≤L.length) (fun x=>x.2.2.length) (.full,[x1],t2) (by simp (disch:=first|omega|assumption) only [cV_len,cV_take,cV_splice,cM_len,cM_take,cM_splice,cM_mk,cMs,cM_strip,go_sem,↓reduceIte]) ⟨⟨K2,Owned.full _ _ _,nofun⟩,⟨_,Nat.lt_succ_self _,hR⟩,by simp only [List.length_singleton];omega⟩ ?_
  rintro ⟨o,l,u⟩ H3 J ⟨K3,⟨m,hm,hR3⟩,hlen⟩ hJ
  simp only at K3 hm hR3 hlen
  obtain ⟨m,rfl⟩:∃ j,m=j+1:=⟨m-1,by omega⟩
  obtain ⟨p3,hp3,hr3⟩:=K3.here
  have hcl:=cMs_len l
  simp (disch:=first|omega|assumption) only [go_sem,↓reduceIte]
  refine goK_ret (mayPC (dp:=16-k) hp3 hll hr3 [41]) fun v H4 ⟨hv4,ha4⟩=>?_
  subst hv4
  cases hj:isP [41] u with
  | true =>
   rw [mayT,hj,if_pos rfl] at ha4
   have e1:R=.ok (l,u.tail):=by rw [← hR3,manyP,hj];rfl
   simp (disch:=first|omega|assumption) only [go_sem,↓reduceIte]
   refine fin _ _ [.sl o 6 (cMs l)] l u.tail (by simp (disch:=first|omega|assumption) only [ir300,resvs,resv,go_sem,↓reduceIte]) (by rw [hx,e1]) (K3.toKI.call ha4) ?_
   simp [tupOf,AV.strip,AV.strip1,cMs_strip]
  | false =>
   rw [mayT,hj] at ha4
   have K4:=K3.call (by simpa using ha4)
   obtain ⟨p4,hp4,hr4⟩:=K4.here
   rw [manyP,hj] at hR3
   simp only [Bool.false_eq_true,if_false] at hR3
   simp (disch:=first|omega|assumption) only [go_sem,↓reduceIte]
   refine goK_both (memberPC hv hp4 hl hr4) (fun v H5 ⟨x,t5,e5,hv5,ha5⟩=>?_) fun v H5 ⟨n5,e5,hv5⟩=>pan v H5 n5 hv5 (by rw [hx,← hR3,e5];rfl)
   subst hv5
   rw [e5,pb_ok] at hR3
   have hlt:=(memberP_fit (valP_fit fixed k)).lt (by decide) _ _ _ e5
   have K5:=K4.call ha5
   simp (disch:=first|omega|assumption) only [cV_len,cV_take,cV_splice,cM_len,cM_take,cM_splice,cM_mk,go_sem,↓reduceIte]
   refine goP_ownS (by rw [hcl];exact K5.own) (by simp only [hcl,List.length_cons,List.length_nil];omega) (by simp only [hcl,List.length_cons,List.length_nil,maxLen];omega) fun o6 H6 hs6=>?_
   have K6:=K5.app (by simpa [hcl] using hs6)
   simp (disch:=first|omega|assumption) only [cV_len,cV_take,cV_splice,cM_len,cM_take,cM_splice,cM_mk,go_sem,↓reduceIte]
   refine goJ (hJ (o6,l++[x],t5) _ (by simp only;omega) ⟨by simpa using K6,⟨m,by simp only;omega,hR3⟩,by simp only [List.length_append,List.length_cons,List.length_nil];omega⟩) (by simp (disch:=first|omega|assumption) only [cMs_map,List.map_append,List.map_cons,List.map_nil,cM_strip,go_sem,↓reduceIte])
theorem dirsPC {fixed:Bool} {k:Nat} (hk:k≤16) {H:Heap} {r:Nat} {L p t:TS} (hs:p++t=L) (hl:wT L≤LimP) (hr:H r=some (prc L p (16-k))) :
  ACalls Tryz.prog 250 [.ptr r 0,.bool fixed] H (RpE H r L (16-k) (dirsP fixed k t) (fun l=>.sl .no 2 (cDs l))):=by
 refine retStrip (ACalls.goO (R:=fun v H'=>RetQ H r L (16-k) (dirsP fixed k t) (fun l=>.sl .no 2 (cDs l)) v.strip H') (RP:=fun v H'=>PanQ (dirsP fixed k t) v H') ir250 ck250 (Nat.le_refl _) fun KP Q hQ hP=>?_)
 have hll:L.length≤LimP:=Nat.le_trans (len_w L) hl
 have hll2:=hll
 simp only [LimP] at hll2
 have pan:∀ (v:AV) (H1:Heap) (n:Int),v=stopP n→(dirsP fixed k t)=.error n→KP v H1:=fun v H1 n h1 h2=>hP v H1 H1 (Low.refl _) ⟨n,h2,h1⟩
 have fin:=KI.done hQ
 have K0:=KI.start hs hr
 obtain ⟨R,hR⟩:∃ R,whileP [64] (dirP fixed k) (t.length+1) [] t=R:=⟨_,rfl⟩
 have hx:dirsP fixed k t=R:=hR
 have hsl:=suf_len hs
 simp (disch:=first|omega|assumption) only [ir250,go_sem,↓reduceIte]
 refine goL_st (fun x:Own × List DirD × TS=>[(5,.sl x.1 2 (cDs x.2.1))]) (fun x H'=>KO H r L x.2.2 (16-k) H' x.1 x.2.1.length 2∧(∃ m,x.2.2.length<m∧whileP [64] (dirP fixed k) m x.2.1 x.2.2=R)∧x.2.1.length+x.2.2.length≤L.length) (fun x=>x.2.2.length) (.nil,[],t) (by simp (disch:=first|omega|assumption) only [cD_map,List.map_nil,go_sem,↓reduceIte]) ⟨⟨K0,rfl,nofun⟩,⟨_,Nat.lt_succ_self _,hR⟩,by simp only [List.length_nil];omega⟩ ?_
 rintro ⟨o,l,u⟩ H3 J ⟨K3,⟨m,hm,hR3⟩,hlen⟩ hJ
 simp only at K3 hm hR3 hlen
 obtain ⟨m,rfl⟩:∃ j,m=j+1:=⟨m-1,by omega⟩
 obtain ⟨p3,hp3,hr3⟩:=K3.here
 have hcl:=cDs_len l
 simp (disch:=first|omega|assumption) only [go_sem,↓reduceIte]
 refine goK_ret (mayPC (dp:=16-k) hp3 hll hr3 [64]) fun v H4 ⟨hv4,ha4⟩=>?_
 subst hv4
 cases hj:isP [64] u with
 | false =>
  rw [mayT,hj] at ha4
  have e1:R=.ok (l,u):=by rw [← hR3,whileP,hj];rfl
  simp (disch:=first|omega|assumption) only [go_sem,↓reduceIte]
  refine fin _ _ [.sl o 2 (cDs l)] l u (by simp (disch:=first|omega|assumption) only [ir250,resvs,resv,go_sem,↓reduceIte]) (by rw [hx,e1]) (K3.toKI.call (by simpa using ha4)) ?_
  simp [tupOf,AV.strip,AV.strip1,cD_map,cD_strip]
 | true =>
  rw [mayT,hj,if_pos rfl] at ha4
  have hlt0:=tail_lt hj
  have K4:=K3.call ha4
  obtain ⟨p4,hp4,hr4⟩:=K4.here
  rw [whileP,hj,if_pos rfl] at hR3
  simp (disch:=first|omega|assumption) only [go_sem,↓reduceIte]
  refine goK_both (namePC (dp:=16-k) hp4 hll hr4) (fun v H5 ⟨nm,t5,e5,hv5,ha5⟩=>?_) fun v H5 ⟨n5,e5,hv5⟩=>pan v H5 n5 hv5 (by rw [hx,← hR3,dirP,e5];rfl)
  subst hv5
  have K5:=K4.call ha5
  obtain ⟨p5,hp5,hr5⟩:=K5.here
  simp (disch:=first|omega|assumption) only [go_sem,↓reduceIte]
  refine goK_both (argsPC hk hp5 hl hr5) (fun v H6 ⟨a,t6,e6,hv6,ha6⟩=>?_) fun v H6 ⟨n6,e6,hv6⟩=>pan v H6 n6 hv6 (by rw [hx,← hR3,dirP,e5,pb_ok,e6];rfl)
  subst hv6
  have K6:=K5.call ha6
  have e7:dirP fixed k u.tail=.ok (⟨nm,a⟩,t6):=by rw [dirP,e5,pb_ok,e6];rfl
  rw [e7,pb_ok] at hR3
  have hlt:=(dirP_fit fixed k).lt (by decide) _ _ _ e7
  simp (disch:=first|omega|assumption) only [cV_len,cV_take,cV_splice,cM_len,cM_take,cM_splice,cM_mk,go_sem,↓reduceIte]
  refine goP_ownS (by rw [hcl];exact K6.own) (by simp only [hcl,List.length_cons,List.length_nil];omega) (by simp only [hcl,List.length_cons,List.length_nil,maxLen];omega) fun o7 H7 hs7=>?_
  have K7:=K6.app (by simpa [hcl] using hs7)
  simp (disch:=first|omega|assumption) only [cV_len,cV_take,cV_splice,cM_len,cM_take,cM_splice,cM_mk,go_sem,↓reduceIte]
  refine goJ (hJ (o7,l++[⟨nm,a⟩],t6) _ (by simp only;omega) ⟨by simpa using K7,⟨m,by simp only;omega,hR3⟩,by simp only [List.length_append,List.length_cons,List.length_nil];omega⟩) (by simp (disch:=first|omega|assumption) only [cD_map,cD,List.map_append,List.map_cons,List.map_nil,go_sem,↓reduceIte])
def SelsPC (k:Nat):Prop:=∀ (H:Heap) (r:Nat) (L p t:TS),p++t=L→wT L≤LimP→H r=some (prc L p (16-k)) →
 ACalls Tryz.prog 162 [.ptr r 0] H (RpE H r L (16-k) (selsP k t) fun l=>.sl .no 7 (cSs l))
abbrev zS:List AV:=[.int .i64 0,.str [],.str [],.sl .nil 6 [],.sl .nil 2 [],.str [],.sl .nil 7 []]
theorem w_k2 {m:List UInt8} {t:TS} (h:isW m t=true):(hdT t).k=2:=by
 simp only [isW,Bool.and_eq_true,decide_eq_true_eq] at h;exact h.1
theorem spreadPC {k:Nat} (hk:k≤16) (hv:SelsPC k) {H:Heap} {r:Nat} {L p t:TS} (hs:p++t=L) (hl:wT L≤LimP) (hr:H r=some (prc L p (16-k))) :
  ACalls Tryz.prog 299 [.ptr r 0] H (RpE H r L (16-k) (spreadP (selsP k) k t) (fun x=>.agg (cS x))):=by
 refine retStrip (ACalls.goO (R:=fun v H'=>RetQ H r L (16-k) (spreadP (selsP k) k t) (fun x=>.agg (cS x)) v.strip H') (RP:=fun v H'=>PanQ (spreadP (selsP k) k t) v H') ir299 ck299 (Nat.le_refl _) fun KP Q hQ hP=>?_)
 have hll:L.length≤LimP:=Nat.le_trans (len_w L) hl
 have hll2:=hll
 simp only [LimP] at hll2
 have pan:∀ (v:AV) (H1:Heap) (n:Int),v=stopP n→(spreadP (selsP k) k t)=.error n→KP v H1:=fun v H1 n h1 h2=>hP v H1 H1 (Low.refl _) ⟨n,h2,h1⟩
 have fin:=KI.done hQ
 have K0:=KI.start hs hr
 simp (disch:=first|omega|assumption) only [ir299,go_sem,↓reduceIte]
 refine goA_intro fun b2 hb2=>?_
 have n2:=K0.ne hb2
 have n2s:=Ne.symm n2
 have K1:=K0.box (x:=.cells zS) hb2
 simp (disch:=first|omega|assumption) only [go_sem,↓reduceIte]
 refine goK_ret (nextP (dp:=16-k) hs (by rw [upd_ne n2];exact hr)) fun v H1 ⟨hv1,hH⟩=>?_
 subst hv1;subst hH
 obtain ⟨p1,hp1,hr1⟩:=K1.here
 simp only [zS] at K1 hr1
 by_cases hsp:(hdT t).k=2∧isW [111,110] t=false
 ·obtain ⟨hk2,hw⟩:=hsp
  have hk2':((hdT t).k=2)=True:=eq_true hk2
  have hx:spreadP (selsP k) k t=pb (nameP t) fun s t=>pb (dirsP false k t) fun d t=>.ok (.mk 1 [] s [] d [] [],t):=by
   unfold spreadP;rw [if_pos ⟨hk2,hw⟩]
  simp (disch:=first|omega|assumption) only [tokA,hk2',go_sem,↓reduceIte]
  refine goK_ret (isWC (dp:=16-k) hp1 hr1 [111,110]) fun v H2 ⟨hv2,hH⟩=>?_
  subst hv2;subst hH
  rw [hw]
  simp (disch:=first|omega|assumption) only [go_sem,↓reduceIte]
  refine goK_both (namePC (dp:=16-k) hp1 hll hr1) (fun v H3 ⟨s,t3,e3,hv3,ha3⟩=>?_) fun v H3 ⟨n,e3,hv3⟩=>pan v H3 n hv3 (by rw [hx,e3];rfl)
  subst hv3
  rw [e3,pb_ok] at hx
  have K3:=K1.call ha3
  obtain ⟨p3,hp3,hr3⟩:=K3.here
  have g3:H3 b2=some (.cells zS):=by rw [ha3.other n2s,upd_same]
  simp (disch:=first|omega|assumption) only [go_sem,↓reduceIte]
  refine goK_both (dirsPC hk hp3 hl hr3) (fun v H4 ⟨d,t4,e4,hv4,ha4⟩=>?_) fun v H4 ⟨n,e4,hv4⟩=>pan v H4 n hv4 (by rw [hx,e4];rfl)
  subst hv4
  rw [e4,pb_ok] at hx
  have K4:=K3.call ha4
  have g4:H4 b2=some (.cells zS):=by rw [ha4.other n2s,g3]
  simp only [zS] at g4
  simp (disch:=first|omega|assumption) only [g4,go_sem,↓reduceIte]
  exact fin _ _ [.agg [.int .i64 1,.str [],.str s,.sl .nil 6 [],.sl .no 2 (cDs d),.str [],.sl .nil 7 []]] _ _ (by simp (disch:=first|omega|assumption) only [ir299,resvs,resv,go_sem,↓reduceIte]) hx (K4.box hb2) (by simp [tupOf,AV.strip,AV.strip1,cS,cMs,cSs])
 have hx:spreadP (selsP k) k t=pb (if isW [111,110] t then nameP t.tail else .ok ([],t)) fun o t=>pb (dirsP false k t) fun d t=>pb (selsP k t) fun l t=>.ok (.mk 2 [] [] [] d o l,t):=by
  unfold spreadP;rw [if_neg hsp]
 cases hw:isW [111,110] t with
 | true =>
  have hk2:=w_k2 hw
  have hk2':((hdT t).k=2)=True:=eq_true hk2
  rw [hw,if_pos rfl] at hx
  simp (disch:=first|omega|assumption) only [tokA,hk2',go_sem,↓reduceIte]
  refine goK_ret (isWC (dp:=16-k) hp1 hr1 [111,110]) fun v H2 ⟨hv2,hH⟩=>?_
  subst hv2;subst hH
  rw [hw]
  simp (disch:=first|omega|assumption) only [go_sem,↓reduceIte]
  refine goA_intro fun b3 hb3=>?_
  have h32:b3≠b2:=fun e=>by subst e;rw [upd_same] at hb3;cases hb3
  have hb3H:H b3=none:=by rw [upd_ne h32] at hb3;exact hb3
  have n3:=K0.ne hb3H
  have n3s:=Ne.symm n3
  have K2:=K1.box (x:=.cells [.int .i64 2,.str [],.str [],.sl .nil 6 [],.sl .nil 2 [],.str [],.sl .nil 7 []]) hb3H
  obtain ⟨p2,hp2,hr2⟩:=K2.here
  simp (disch:=first|omega|assumption) only [go_sem,↓reduceIte]
  refine goK_ret (mayWC (dp:=16-k) hp2 hll hr2 [111,110]) fun v H5 ⟨hv5,ha5⟩=>?_
  subst hv5
  have g53:H5 b3=some (.cells [.int .i64 2,.str [],.str [],.sl .nil 6 [],.sl .nil 2 [],.str [],.sl .nil 7 []]):=by rw [ha5.other n3s,upd_same]
  have g52:H5 b2=some (.cells zS):=by rw [ha5.other n2s,upd_ne (Ne.symm h32),upd_same]
  unfold mayWordP at ha5
  rw [hw] at ha5
  simp only [if_true,Bool.false_eq_true,if_false] at ha5
  rw [hw]
  have K5:=K2.call ha5
  obtain ⟨p5,hp5,hr5⟩:=K5.here
  simp (disch:=first|omega|assumption) only [go_sem,↓reduceIte]
  refine goK_both (namePC (dp:=16-k) hp5 hll hr5) (fun v H3 ⟨o,t3,e3,hv3,ha3⟩=>?_) fun v H3 ⟨n,e3,hv3⟩=>pan v H3 n hv3 (by rw [hx,e3];rfl)
  subst hv3
  rw [e3,pb_ok] at hx
  have K6:=K5.call ha3
  have g33:H3 b3=some (.cells [.int .i64 2,.str [],.str [],.sl .nil 6 [],.sl .nil 2 [],.str [],.sl .nil 7 []]):=by rw [ha3.other n3s,g53]
  have g32:H3 b2=some (.cells zS):=by rw [ha3.other n2s,g52]
  simp (disch:=first|omega|assumption) only [g33,go_sem,↓reduceIte]
  have K7:=K6.box (x:=.cells [.int .i64 2,.str [],.str [],.sl .nil 6 [],.sl .nil 2 [],.str o,.sl .nil 7 []]) hb3H
  have hHe:H3.upd b3 (.cells [.int .i64 2,.str [],.str [],.sl .nil 6 [],.sl .nil 2 [],.str o,.sl .nil 7 []])=H3.upd b3 (.cells [.int .i64 2,.str [],.str [],.sl .nil 6 [],.sl .nil 2 [],.str o,.sl .nil 7 []]):=rfl
  obtain ⟨p7,hp7,hr7⟩:=K7.here
  refine goK_both (dirsPC hk hp7 hl hr7) (fun v H8 ⟨d,t8,e8,hv8,ha8⟩=>?_) fun v H8 ⟨n,e8,hv8⟩=>pan v H8 n hv8 (by rw [hx,e8];rfl)
  subst hv8
  rw [e8,pb_ok] at hx
  have K8:=K7.call ha8
  have g83:H8 b3=some (.cells [.int .i64 2,.str [],.str [],.sl .nil 6 [],.sl .nil 2 [],.str o,.sl .nil 7 []]):=by rw [ha8.other n3s];(exact upd_same ..)
  have g82:H8 b2=some (.cells zS):=by rw [ha8.other n2s];(rw [upd_ne (Ne.symm h32)];exact g32)
  simp (disch:=first|omega|assumption) only [g83,go_sem,↓reduceIte]
  have K9:=K8.box (x:=.cells [.int .i64 2,.str [],.str [],.sl .nil 6 [],.sl .no 2 (cDs d),.str o,.sl .nil 7 []]) hb3H
  obtain ⟨p9,hp9,hr9⟩:=K9.here
  refine goK_both (hv _ r L p9 t8 hp9 hl hr9) (fun v H9 ⟨l,t9,e9,hv9,ha9⟩=>?_) fun v H9 ⟨n,e9,hv9⟩=>pan v H9 n hv9 (by rw [hx,e9];rfl)
  subst hv9
  rw [e9,pb_ok] at hx
  have KA:=K9.call ha9
  have g93:H9 b3=some (.cells [.int .i64 2,.str [],.str [],.sl .nil 6 [],.sl .no 2 (cDs d),.str o,.sl .nil 7 []]):=by rw [ha9.other n3s,upd_same]
  have g92:H9 b2=some (.cells zS):=by rw [ha9.other n2s,upd_ne (Ne.symm h32),g82]
  simp only [zS] at g92
  simp (disch:=first|omega|assumption) only [g93,g92,h32,Ne.symm h32,go_sem,↓reduceIte]
  exact fin _ _ [.agg [.int .i64 2,.str [],.str [],.sl .nil 6 [],.sl .no 2 (cDs d),.str o,.sl .no 7 (cSs l)]] _ _ (by simp (disch:=first|omega|assumption) only [ir299,resvs,resv,go_sem,↓reduceIte]) hx ((KA.box hb3H).box hb2) (by simp [tupOf,AV.strip,AV.strip1,cS,cMs,cSs])
 | false =>
  have hk2:¬ ((hdT t).k=2):=fun h=>hsp ⟨h,hw⟩
  rw [hw] at hx
  simp only [Bool.false_eq_true,if_false,pb_ok] at hx
  simp (disch:=first|omega|assumption) only [tokA,hk2,go_sem,↓reduceIte]
  refine goA_intro fun b3 hb3=>?_
  have h32:b3≠b2:=fun e=>by subst e;rw [upd_same] at hb3;cases hb3
  have hb3H:H b3=none:=by rw [upd_ne h32] at hb3;exact hb3
  have n3:=K0.ne hb3H
  have n3s:=Ne.symm n3
  have K2:=K1.box (x:=.cells [.int .i64 2,.str [],.str [],.sl .nil 6 [],.sl .nil 2 [],.str [],.sl .nil 7 []]) hb3H
  obtain ⟨p2,hp2,hr2⟩:=K2.here
  simp (disch:=first|omega|assumption) only [go_sem,↓reduceIte]
  refine goK_ret (mayWC (dp:=16-k) hp2 hll hr2 [111,110]) fun v H5 ⟨hv5,ha5⟩=>?_
  subst hv5
  have g53:H5 b3=some (.cells [.int .i64 2,.str [],.str [],.sl .nil 6 [],.sl .nil 2 [],.str [],.sl .nil 7 []]):=by rw [ha5.other n3s,upd_same]
  have g52:H5 b2=some (.cells zS):=by rw [ha5.other n2s,upd_ne (Ne.symm h32),upd_same]
  unfold mayWordP at ha5
  rw [hw] at ha5
  simp only [if_true,Bool.false_eq_true,if_false] at ha5
  rw [hw]
  have K5:=K2.call ha5
  obtain ⟨p5,hp5,hr5⟩:=K5.here
  simp (disch:=first|omega|assumption) only [go_sem,↓reduceIte]
  have K7:=K5.box (x:=.cells [.int .i64 2,.str [],.str [],.sl .nil 6 [],.sl .nil 2 [],.str [],.sl .nil 7 []]) hb3H
  have hHe:H5.upd b3 (.cells [.int .i64 2,.str [],.str [],.sl .nil 6 [],.sl .nil 2 [],.str [],.sl .nil 7 []])=H5.upd b3 (.cells [.int .i64 2,.str [],.str [],.sl .nil 6 [],.sl .nil 2 [],.str [],.sl .nil 7 []]):=rfl
  obtain ⟨p7,hp7,hr7⟩:=K5.here
  refine goK_both (dirsPC hk hp7 hl hr7) (fun v H8 ⟨d,t8,e8,hv8,ha8⟩=>?_) fun v H8 ⟨n,e8,hv8⟩=>pan v H8 n hv8 (by rw [hx,e8];rfl)
  subst hv8
  rw [e8,pb_ok] at hx
  have K8:=K5.call ha8
  have g83:H8 b3=some (.cells [.int .i64 2,.str [],.str [],.sl .nil 6 [],.sl .nil 2 [],.str [],.sl .nil 7 []]):=by rw [ha8.other n3s];(exact g53)
  have g82:H8 b2=some (.cells zS):=by rw [ha8.other n2s];(exact g52)
  simp (disch:=first|omega|assumption) only [g83,go_sem,↓reduceIte]
  have K9:=K8.box (x:=.cells [.int .i64 2,.str [],.str [],.sl .nil 6 [],.sl .no 2 (cDs d),.str [],.sl .nil 7 []]) hb3H
  obtain ⟨p9,hp9,hr9⟩:=K9.here
  refine goK_both (hv _ r L p9 t8 hp9 hl hr9) (fun v H9 ⟨l,t9,e9,hv9,ha9⟩=>?_) fun v H9 ⟨n,e9,hv9⟩=>pan v H9 n hv9 (by rw [hx,e9];rfl)
  subst hv9
  rw [e9,pb_ok] at hx
  have KA:=K9.call ha9
  have g93:H9 b3=some (.cells [.int .i64 2,.str [],.str [],.sl .nil 6 [],.sl .no 2 (cDs d),.str [],.sl .nil 7 []]):=by rw [ha9.other n3s,upd_same]
  have g92:H9 b2=some (.cells zS):=by rw [ha9.other n2s,upd_ne (Ne.symm h32),g82]
  simp only [zS] at g92
  simp (disch:=first|omega|assumption) only [g93,g92,h32,Ne.symm h32,go_sem,↓reduceIte]
  exact fin _ _ [.agg [.int .i64 2,.str [],.str [],.sl .nil 6 [],.sl .no 2 (cDs d),.str [],.sl .no 7 (cSs l)]] _ _ (by simp (disch:=first|omega|assumption) only [ir299,resvs,resv,go_sem,↓reduceIte]) hx ((KA.box hb3H).box hb2) (by simp [tupOf,AV.strip,AV.strip1,cS,cMs,cSs])
theorem selPC {k:Nat} (hk:k≤16) (hv:SelsPC k) {H:Heap} {r:Nat} {L p t:TS} (hs:p++t=L) (hl:wT L≤LimP) (hr:H r=some (prc L p (16-k))) :
  ACalls Tryz.prog 247 [.ptr r 0] H (RpE H r L (16-k) (selP (selsP k) k t) (fun x=>.agg (cS x))):=by
 refine retStrip (ACalls.goO (R:=fun v H'=>RetQ H r L (16-k) (selP (selsP k) k t) (fun x=>.agg (cS x)) v.strip H') (RP:=fun v H'=>PanQ (selP (selsP k) k t) v H') ir247 ck247 (Nat.le_refl _) fun KP Q hQ hP=>?_)
 have hll:L.length≤LimP:=Nat.le_trans (len_w L) hl
 have hll2:=hll
 simp only [LimP] at hll2
 have pan:∀ (v:AV) (H1:Heap) (n:Int),v=stopP n→(selP (selsP k) k t)=.error n→KP v H1:=fun v H1 n h1 h2=>hP v H1 H1 (Low.refl _) ⟨n,h2,h1⟩
 have fin:=KI.done hQ
 have K0:=KI.start hs hr
 simp (disch:=first|omega|assumption) only [ir247,go_sem,↓reduceIte]
 refine goA_intro fun b2 hb2=>?_
 have n2:=K0.ne hb2
 have n2s:=Ne.symm n2
 have K1:=K0.box (x:=.cells zS) hb2
 obtain ⟨p1,hp1,hr1⟩:=K1.here
 simp only [zS] at K1 hr1
 simp (disch:=first|omega|assumption) only [go_sem,↓reduceIte]
 refine goK_ret (mayPC (dp:=16-k) hp1 hll hr1 [46,46,46]) fun v H2 ⟨hv2,ha2⟩=>?_
 subst hv2
 have g22:H2 b2=some (.cells zS):=by rw [ha2.other n2s,upd_same]
 have K2:=K1.call ha2
 unfold mayT at K2
 obtain ⟨p2,hp2,hr2⟩:=K2.here
 cases hi:isP [46,46,46] t with
 | true =>
  rw [hi] at K2 hp2
  simp only [if_true] at K2 hp2
  have hx:selP (selsP k) k t=spreadP (selsP k) k t.tail:=by unfold selP;rw [hi];rfl
  simp (disch:=first|omega|assumption) only [go_sem,↓reduceIte]
  refine goK_both (spreadPC hk hv hp2 hl hr2) (fun v H3 ⟨x,t3,e3,hv3,ha3⟩=>?_) fun v H3 ⟨n,e3,hv3⟩=>pan v H3 n hv3 (by rw [hx,e3])
  subst hv3
  have K3:=K2.call ha3
  have g3:H3 b2=some (.cells zS):=by rw [ha3.other n2s,g22]
  simp only [zS] at g3
  simp (disch:=first|omega|assumption) only [g3,cS_len,cS_take,cS_splice,go_sem,↓reduceIte]
  exact fin _ _ [.agg (cS x)] _ _ (by simp (disch:=first|omega|assumption) only [ir247,resvs,resv,cS_len,cS_take,cS_splice,go_sem,↓reduceIte]) (by rw [hx,e3]) (K3.box hb2) (by simp [tupOf,AV.strip,cS_strip])
 | false =>
  rw [hi] at K2 hp2
  simp only [Bool.false_eq_true,if_false] at K2 hp2
  have hx:selP (selsP k) k t=pb (nameP t) fun s t=>pb (if isP [58] t then pb (nameP t.tail) fun s2 t=>.ok ((s,s2),t) else .ok (([],s),t)) fun an t =>
   pb (argsP false k t) fun a t=>pb (dirsP false k t) fun d t=>pb (if isP [123] t then selsP k t else .ok ([],t)) fun l t=>.ok (.mk 0 an.1 an.2 a d [] l,t):=by unfold selP;rw [hi];rfl
  simp (disch:=first|omega|assumption) only [go_sem,↓reduceIte]
  refine goK_both (namePC (dp:=16-k) hp2 hll hr2) (fun v H3 ⟨s,t3,e3,hv3,ha3⟩=>?_) fun v H3 ⟨n,e3,hv3⟩=>pan v H3 n hv3 (by rw [hx,e3];rfl)
  subst hv3
  rw [e3,pb_ok] at hx
  have K3:=K2.call ha3
  have g32:H3 b2=some (.cells zS):=by rw [ha3.other n2s,g22]
  simp (disch:=first|omega|assumption) only [go_sem,↓reduceIte]
  refine goA_intro fun b3 hb3=>?_
  have h32:b3≠b2:=fun e=>by subst e;rw [g32] at hb3;cases hb3
  have hb3H:H b3=none:=K3.none hb3
  have n3:=K0.ne hb3H
  have n3s:=Ne.symm n3
  have K4:=K3.box (x:=.cells [.int .i64 0,.str [],.str s,.sl .nil 6 [],.sl .nil 2 [],.str [],.sl .nil 7 []]) hb3H
  obtain ⟨p4,hp4,hr4⟩:=K4.here
  simp (disch:=first|omega|assumption) only [go_sem,↓reduceIte]
  refine goK_ret (mayPC (dp:=16-k) hp4 hll hr4 [58]) fun v H5 ⟨hv5,ha5⟩=>?_
  subst hv5
  have g53:H5 b3=some (.cells [.int .i64 0,.str [],.str s,.sl .nil 6 [],.sl .nil 2 [],.str [],.sl .nil 7 []]):=by rw [ha5.other n3s,upd_same]
  have g52:H5 b2=some (.cells zS):=by rw [ha5.other n2s,upd_ne (Ne.symm h32),g32]
  have K5:=K4.call ha5
  unfold mayT at K5
  obtain ⟨p5,hp5,hr5⟩:=K5.here
  cases hc:isP [58] t3 with
  | true =>
   rw [hc] at hx K5 hp5
   simp only [if_true] at hx K5 hp5
   simp (disch:=first|omega|assumption) only [g53,go_sem,↓reduceIte]
   refine goK_both (namePC (dp:=16-k) hp5 hll hr5) (fun v H6 ⟨s2,t6,e6,hv6,ha6⟩=>?_) fun v H6 ⟨n,e6,hv6⟩=>pan v H6 n hv6 (by rw [hx,e6];rfl)
   subst hv6
   rw [e6,pb_ok,pb_ok] at hx
   have K6:=K5.call ha6
   have g63:H6 b3=some (.cells [.int .i64 0,.str [],.str s,.sl .nil 6 [],.sl .nil 2 [],.str [],.sl .nil 7 []]):=by rw [ha6.other n3s,g53]
   have g62:H6 b2=some (.cells zS):=by rw [ha6.other n2s,g52]
   simp (disch:=first|omega|assumption) only [g63,go_sem,↓reduceIte]
   have K7:=K6.box (x:=.cells [.int .i64 0,.str s,.str s2,.sl .nil 6 [],.sl .nil 2 [],.str [],.sl .nil 7 []]) hb3H
   obtain ⟨p7,hp7,hr7⟩:=K7.here
   refine goK_both (argsPC hk hp7 hl hr7) (fun v H8 ⟨a,t8,e8,hv8,ha8⟩=>?_) fun v H8 ⟨n,e8,hv8⟩=>pan v H8 n hv8 (by rw [hx,e8];rfl)
   subst hv8
   rw [e8,pb_ok] at hx
   have K8:=K7.call ha8
   have g83:H8 b3=some (.cells [.int .i64 0,.str s,.str s2,.sl .nil 6 [],.sl .nil 2 [],.str [],.sl .nil 7 []]):=by rw [ha8.other n3s];(exact upd_same ..)
   have g82:H8 b2=some (.cells zS):=by rw [ha8.other n2s];(rw [upd_ne (Ne.symm h32)];exact g62)
   simp (disch:=first|omega|assumption) only [g83,go_sem,↓reduceIte]
   have K9:=K8.box (x:=.cells [.int .i64 0,.str s,.str s2,.sl .no 6 (cMs a),.sl .nil 2 [],.str [],.sl .nil 7 []]) hb3H
   obtain ⟨p9,hp9,hr9⟩:=K9.here
   refine goK_both (dirsPC hk hp9 hl hr9) (fun v HA ⟨d,tA,eA,hvA,haA⟩=>?_) fun v HA ⟨n,eA,hvA⟩=>pan v HA n hvA (by rw [hx,eA];rfl)
   subst hvA
   rw [eA,pb_ok] at hx
   have KA:=K9.call haA
   have gA3:HA b3=some (.cells [.int .i64 0,.str s,.str s2,.sl .no 6 (cMs a),.sl .nil 2 [],.str [],.sl .nil 7 []]):=by rw [haA.other n3s,upd_same]
   have gA2:HA b2=some (.cells zS):=by rw [haA.other n2s,upd_ne (Ne.symm h32),g82]
   simp (disch:=first|omega|assumption) only [gA3,go_sem,↓reduceIte]
   have KB:=KA.box (x:=.cells [.int .i64 0,.str s,.str s2,.sl .no 6 (cMs a),.sl .no 2 (cDs d),.str [],.sl .nil 7 []]) hb3H
   obtain ⟨pB,hpB,hrB⟩:=KB.here
   refine goK_ret (isPC (dp:=16-k) hpB hrB [123]) fun v HC ⟨hvC,hHC⟩=>?_
   subst hvC;subst hHC
   have gC2:(HA.upd b3 (.cells [.int .i64 0,.str s,.str s2,.sl .no 6 (cMs a),.sl .no 2 (cDs d),.str [],.sl .nil 7 []])) b2=some (.cells zS):=by rw [upd_ne (Ne.symm h32),gA2]
   cases hb:isP [123] tA with
   | true =>
    rw [hb] at hx
    simp only [if_true] at hx
    simp (disch:=first|omega|assumption) only [go_sem,↓reduceIte]
    refine goK_both (hv _ r L pB tA hpB hl hrB) (fun v HD ⟨l,tD,eD,hvD,haD⟩=>?_) fun v HD ⟨n,eD,hvD⟩=>pan v HD n hvD (by rw [hx,eD];rfl)
    subst hvD
    rw [eD,pb_ok] at hx
    have KD:=KB.call haD
    have gD3:HD b3=some (.cells [.int .i64 0,.str s,.str s2,.sl .no 6 (cMs a),.sl .no 2 (cDs d),.str [],.sl .nil 7 []]):=by rw [haD.other n3s,upd_same]
    have gD2:HD b2=some (.cells zS):=by rw [haD.other n2s,gC2]
    simp only [zS] at gD2
    simp (disch:=first|omega|assumption) only [gD3,gD2,h32,Ne.symm h32,go_sem,↓reduceIte]
    exact fin _ _ [.agg [.int .i64 0,.str s,.str s2,.sl .no 6 (cMs a),.sl .no 2 (cDs d),.str [],.sl .no 7 (cSs l)]] _ _ (by simp (disch:=first|omega|assumption) only [ir247,resvs,resv,go_sem,↓reduceIte]) hx ((KD.box hb3H).box hb2) (by simp [tupOf,AV.strip,AV.strip1,cS,cMs,cSs])
   | false =>
    rw [hb] at hx
    simp only [Bool.false_eq_true,if_false,pb_ok] at hx
    simp only [zS] at gA2
    simp (disch:=first|omega|assumption) only [gA2,h32,Ne.symm h32,go_sem,↓reduceIte]
    exact fin _ _ [.agg [.int .i64 0,.str s,.str s2,.sl .no 6 (cMs a),.sl .no 2 (cDs d),.str [],.sl .nil 7 []]] _ _ (by simp (disch:=first|omega|assumption) only [ir247,resvs,resv,go_sem,↓reduceIte]) hx (KB.box hb2) (by simp [tupOf,AV.strip,AV.strip1,cS,cMs,cSs])
  | false =>
   rw [hc] at hx K5 hp5
   simp only [Bool.false_eq_true,if_false,pb_ok] at hx K5 hp5
   simp (disch:=first|omega|assumption) only [go_sem,↓reduceIte]
   refine goK_both (argsPC hk hp5 hl hr5) (fun v H8 ⟨a,t8,e8,hv8,ha8⟩=>?_) fun v H8 ⟨n,e8,hv8⟩=>pan v H8 n hv8 (by rw [hx,e8];rfl)
   subst hv8
   rw [e8,pb_ok] at hx
   have K8:=K5.call ha8
   have g83:H8 b3=some (.cells [.int .i64 0,.str [],.str s,.sl .nil 6 [],.sl .nil 2 [],.str [],.sl .nil 7 []]):=by rw [ha8.other n3s];(exact g53)
   have g82:H8 b2=some (.cells zS):=by rw [ha8.other n2s];(exact g52)
   simp (disch:=first|omega|assumption) only [g83,go_sem,↓reduceIte]
   have K9:=K8.box (x:=.cells [.int .i64 0,.str [],.str s,.sl .no 6 (cMs a),.sl .nil 2 [],.str [],.sl .nil 7 []]) hb3H
   obtain ⟨p9,hp9,hr9⟩:=K9.here
   refine goK_both (dirsPC hk hp9 hl hr9) (fun v HA ⟨d,tA,eA,hvA,haA⟩=>?_) fun v HA ⟨n,eA,hvA⟩=>pan v HA n hvA (by rw [hx,eA];rfl)
   subst hvA
   rw [eA,pb_ok] at hx
   have KA:=K9.call haA
   have gA3:HA b3=some (.cells [.int .i64 0,.str [],.str s,.sl .no 6 (cMs a),.sl .nil 2 [],.str [],.sl .nil 7 []]):=by rw [haA.other n3s,upd_same]
   have gA2:HA b2=some (.cells zS):=by rw [haA.other n2s,upd_ne (Ne.symm h32),g82]
   simp (disch:=first|omega|assumption) only [gA3,go_sem,↓reduceIte]
   have KB:=KA.box (x:=.cells [.int .i64 0,.str [],.str s,.sl .no 6 (cMs a),.sl .no 2 (cDs d),.str [],.sl .nil 7 []]) hb3H
   obtain ⟨pB,hpB,hrB⟩:=KB.here
   refine goK_ret (isPC (dp:=16-k) hpB hrB [123]) fun v HC ⟨hvC,hHC⟩=>?_
   subst hvC;subst hHC
   have gC2:(HA.upd b3 (.cells [.int .i64 0,.str [],.str s,.sl .no 6 (cMs a),.sl .no 2 (cDs d),.str [],.sl .nil 7 []])) b2=some (.cells zS):=by rw [upd_ne (Ne.symm h32),gA2]
   cases hb:isP [123] tA with
   | true =>
    rw [hb] at hx
    simp only [if_true] at hx
    simp (disch:=first|omega|assumption) only [go_sem,↓reduceIte]
    refine goK_both (hv _ r L pB tA hpB hl hrB) (fun v HD ⟨l,tD,eD,hvD,haD⟩=>?_) fun v HD ⟨n,eD,hvD⟩=>pan v HD n hvD (by rw [hx,eD];rfl)
    subst hvD
    rw [eD,pb_ok] at hx
    have KD:=KB.call haD
    have gD3:HD b3=some (.cells [.int .i64 0,.str [],.str s,.sl .no 6 (cMs a),.sl .no 2 (cDs d),.str [],.sl .nil 7 []]):=by rw [haD.other n3s,upd_same]
    have gD2:HD b2=some (.cells zS):=by rw [haD.other n2s,gC2]
    simp only [zS] at gD2
    simp (disch:=first|omega|assumption) only [gD3,gD2,h32,Ne.symm h32,go_sem,↓reduceIte]
    exact fin _ _ [.agg [.int .i64 0,.str [],.str s,.sl .no 6 (cMs a),.sl .no 2 (cDs d),.str [],.sl .no 7 (cSs l)]] _ _ (by simp (disch:=first|omega|assumption) only [ir247,resvs,resv,go_sem,↓reduceIte]) hx ((KD.box hb3H).box hb2) (by simp [tupOf,AV.strip,AV.strip1,cS,cMs,cSs])
   | false =>
    rw [hb] at hx
    simp only [Bool.false_eq_true,if_false,pb_ok] at hx
    simp only [zS] at gA2
    simp (disch:=first|omega|assumption) only [gA2,h32,Ne.symm h32,go_sem,↓reduceIte]
    exact fin _ _ [.agg [.int .i64 0,.str [],.str s,.sl .no 6 (cMs a),.sl .no 2 (cDs d),.str [],.sl .nil 7 []]] _ _ (by simp (disch:=first|omega|assumption) only [ir247,resvs,resv,go_sem,↓reduceIte]) hx (KB.box hb2) (by simp [tupOf,AV.strip,AV.strip1,cS,cMs,cSs])
theorem selsPC0:SelsPC 0:=by
 intro H r L p t hs hl hr
 refine ACalls.goO (R:=fun v H'=>RetQ H r L (16-0) (selsP 0 t) (fun l=>.sl .no 7 (cSs l)) v H') (RP:=fun v H'=>PanQ (selsP 0 t) v H') ir162 ck162 (Nat.le_refl _) fun KP Q hQ hP=>?_
 have hll:L.length≤LimP:=Nat.le_trans (len_w L) hl
 have pan:∀ (v:AV) (H1:Heap) (n:Int),v=stopP n→selsP 0 t=.error n→KP v H1:=fun v H1 n h1 h2=>hP v H1 H1 (Low.refl _) ⟨n,h2,h1⟩
 simp (disch:=first|omega|assumption) only [ir162,go_sem,↓reduceIte]
 refine goK_both (openPC (dp:=16-0) hs hll (by omega) hr [123]) (fun v H1 ⟨hv,hat,haf⟩=>?_) fun v H1 ⟨hi,h16,hv⟩=>pan v H1 4 hv (by rw [selsP,if_pos hi])
 subst hv
 cases hi:isP [123] t with
 | true=>exact absurd (hat hi).1 (by decide)
 | false =>
  simp (disch:=first|omega|assumption) only [go_sem,↓reduceIte]
  exact goK_both (failP _ r 2) (fun _ _ h=>h.elim) fun v H3 h=>pan v H3 2 h (by rw [selsP,hi];rfl)
theorem selsPCs {k:Nat} (hk:k<16) (hv:SelsPC k):SelsPC (k+1):=by
 intro H r L p t hs hl hr
 refine retStrip (ACalls.goO (R:=fun v H'=>RetQ H r L (16-(k+1)) (selsP (k+1) t) (fun l=>.sl .no 7 (cSs l)) v.strip H') (RP:=fun v H'=>PanQ (selsP (k+1) t) v H') ir162 ck162 (Nat.le_refl _) fun KP Q hQ hP=>?_)
 have hll:L.length≤LimP:=Nat.le_trans (len_w L) hl
 have hll2:=hll
 simp only [LimP] at hll2
 have pan:∀ (v:AV) (H1:Heap) (n:Int),v=stopP n→(selsP (k+1) t)=.error n→KP v H1:=fun v H1 n h1 h2=>hP v H1 H1 (Low.refl _) ⟨n,h2,h1⟩
 have fin:=KI.done hQ
 have K0:=KI.start hs hr
 simp (disch:=first|omega|assumption) only [ir162,go_sem,↓reduceIte]
 refine goK_both (openPC (dp:=16-(k+1)) hs hll (by omega) hr [123]) (fun v H1 ⟨hv1,hat,haf⟩=>?_) fun v H1 ⟨hi,h16,hv1⟩=>by exfalso;omega
 subst hv1
 cases hi:isP [123] t with
 | false =>
  simp (disch:=first|omega|assumption) only [go_sem,↓reduceIte]
  exact goK_both (failP _ r 2) (fun _ _ h=>h.elim) fun v H3 h=>pan v H3 2 h (by rw [selsP,hi];rfl)
 | true =>
  have ha1:=(hat hi).2
  rw [show 16-(k+1)+1=16-k by omega] at ha1
  have K1:=K0.call ha1
  obtain ⟨p1,hp1,hr1⟩:=K1.here
  have hx:selsP (k+1) t=pb (selP (selsP k) k t.tail) fun x t=>manyP [125] (selP (selsP k) k) (t.length+1) [x] t:=by
   rw [selsP,hi];rfl
  clear hat haf
  simp (disch:=first|omega|assumption) only [go_sem,↓reduceIte]
  refine goK_both (selPC (by omega) hv hp1 hl hr1) (fun v H2 ⟨x1,t2,e2,hv2,ha2⟩=>?_) fun v H2 ⟨n,e2,hv2⟩=>pan v H2 n hv2 (by rw [hx,e2];rfl)
  subst hv2
  have K2:=K1.call ha2
  have hlt1:=(selP_fit (selsP_fit k)).lt (by decide) _ _ _ e2
  have hsl:=suf_len hp1
  rw [e2,pb_ok] at hx
  obtain ⟨R,hR⟩:∃ R,manyP [125] (selP (selsP k) k) (t2.length+1) [x1] t2=R:=⟨_,rfl⟩
  rw [hR] at hx
  simp (disch:=first|omega|assumption) only [cS_len,cS_take,cS_splice,go_sem,↓reduceIte]
  refine goL_st (fun x:Own × List SelD × TS=>[(3,.sl x.1 7 (cSs x.2.1))]) (fun x H'=>KO H r L x.2.2 (16-k) H' x.1 x.2.1.length 7∧(∃ m,x.2.2.length<m∧manyP [125] (selP (selsP k) k) m x.2.1 x.2.2=R)∧x.2.1.length+x.2.2.length≤L.length) (fun x=>x.2.2.length) (.full,[x1],t2) (by simp (disch:=first|omega|assumption) only [cSs,cS_strip,go_sem,↓reduceIte]) ⟨⟨K2,Owned.full _ _ _,nofun⟩,⟨_,Nat.lt_succ_self _,hR⟩,by simp only [List.length_singleton];omega⟩ ?_
  rintro ⟨o,l,u⟩ H3 J ⟨K3,⟨m,hm,hR3⟩,hlen⟩ hJ
  simp only at K3 hm hR3 hlen
  obtain ⟨m,rfl⟩:∃ j,m=j+1:=⟨m-1,by omega⟩
  obtain ⟨p3,hp3,hr3⟩:=K3.here
  have hcl:=cSs_len l
  simp (disch:=first|omega|assumption) only [go_sem,↓reduceIte]
  refine goK_ret (closePC (dp:=16-k) hp3 hll (by omega) hr3 [125]) fun v H4 ⟨hv4,hat,haf⟩=>?_
  subst hv4
  cases hj:isP [125] u with
  | true =>
   have ha4:=hat hj
   rw [show 16-k-1=16-(k+1) by omega] at ha4
   have e1:R=.ok (l,u.tail):=by rw [← hR3,manyP,hj];rfl
   simp (disch:=first|omega|assumption) only [go_sem,↓reduceIte]
   refine fin _ _ [.sl o 7 (cSs l)] l u.tail (by simp (disch:=first|omega|assumption) only [ir162,resvs,resv,go_sem,↓reduceIte]) (by rw [hx,e1]) (K3.toKI.call ha4) ?_
   simp [tupOf,AV.strip,AV.strip1,cSs_map,cS_strip]
  | false =>
   have K4:=K3.call (haf hj)
   obtain ⟨p4,hp4,hr4⟩:=K4.here
   rw [manyP,hj] at hR3
   simp only [Bool.false_eq_true,if_false] at hR3
   simp (disch:=first|omega|assumption) only [go_sem,↓reduceIte]
   refine goK_both (selPC (by omega) hv hp4 hl hr4) (fun v H5 ⟨x,t5,e5,hv5,ha5⟩=>?_) fun v H5 ⟨n5,e5,hv5⟩=>pan v H5 n5 hv5 (by rw [hx,← hR3,e5];rfl)
   subst hv5
   rw [e5,pb_ok] at hR3
   have hlt:=(selP_fit (selsP_fit k)).lt (by decide) _ _ _ e5
   have K5:=K4.call ha5
   simp (disch:=first|omega|assumption) only [cS_len,cS_take,cS_splice,go_sem,↓reduceIte]
   refine goP_ownS (by rw [hcl];exact K5.own) (by simp only [hcl,List.length_cons,List.length_nil];omega) (by simp only [hcl,List.length_cons,List.length_nil,maxLen];omega) fun o6 H6 hs6=>?_
   have K6:=K5.app (by simpa [hcl] using hs6)
   simp (disch:=first|omega|assumption) only [cS_len,cS_take,cS_splice,go_sem,↓reduceIte]
   refine goJ (hJ (o6,l++[x],t5) _ (by simp only;omega) ⟨by simpa using K6,⟨m,by simp only;omega,hR3⟩,by simp only [List.length_append,List.length_cons,List.length_nil];omega⟩) (by simp (disch:=first|omega|assumption) only [cSs_map,List.map_append,List.map_cons,List.map_nil,cS_strip,go_sem,↓reduceIte])
theorem selsPall:∀ k,k≤16→SelsPC k
 | 0,_=>selsPC0
 | k+1,h=>selsPCs (by omega) (selsPall k (by omega))
end Go.Proofs.YticbbfbpeimkbaaGreatDoor
namespace Go.Proofs.YticbbfbpeimkbaaGreatDoor
open Go.Ab
end Go.Proofs.YticbbfbpeimkbaaGreatDoor
namespace Go.Proofs.YticbbfbpeimkbaaGreatDoor
open Go.Lib
theorem u8_48 {d:Nat} (h:d<10):(UInt8.ofNat (48+d)).toNat=48+d:=by
 rw [UInt8.toNat_ofNat'];omega
theorem parse_dec (u:Nat) (hu:u<18446744073709551616) (r:List UInt8):parseUint10 0 (decDigits u++r)=parseUint10 u r:=by
 induction u using Nat.strongRecOn generalizing r with
 | _ u ih =>
  rw [decDigits]
  split
  ·rename_i h
   simp only [List.cons_append,List.nil_append,parseUint10,u8_48 h]
   rw [if_pos (by omega),if_neg (by omega),if_neg (by omega)]
   congr 1
   omega
  ·rename_i h
   have hd:u % 10<10:=Nat.mod_lt _ (by omega)
   rw [List.append_assoc,ih (u / 10) (by omega) (by omega)]
   simp only [List.cons_append,List.nil_append,parseUint10,u8_48 hd]
   rw [if_pos (by omega),if_neg (by omega),if_neg (by omega)]
   congr 1
   omega
theorem decDigits_ne (u:Nat):decDigits u≠[]:=by
 rw [decDigits];split<;>simp
theorem decDigits_mem (u:Nat):∀ c ∈ decDigits u,48≤c.toNat∧c.toNat≤57:=by
 induction u using Nat.strongRecOn with
 | _ u ih =>
  intro c hc
  rw [decDigits] at hc
  split at hc
  ·rename_i h
   rw [List.mem_singleton] at hc
   subst hc
   rw [u8_48 h];omega
  ·rename_i h
   rcases List.mem_append.1 hc with e|e
   ·exact ih (u / 10) (by omega) c e
   ·rw [List.mem_singleton] at e
    subst e
    rw [u8_48 (Nat.mod_lt _ (by omega))];omega
theorem parse_mag (u:Nat) (hu:u<18446744073709551616):parseMag (decDigits u)=.ok u:=by
 unfold parseMag
 rw [if_neg (decDigits_ne u)]
 have:=parse_dec u hu []
 rw [List.append_nil] at this
 rw [this];rfl
theorem parse_itoa (n:Int) (h1:-9223372036854775808≤n) (h2:n≤9223372036854775807):parseIntB 64 (itoa n)=.ok n:=by
 rw [parseIntB_64]
 unfold itoa
 split
 ·rename_i h
  rw [atoiAll_minus,parse_mag _ (by omega)]
  simp only [signed]
  rw [if_neg (by omega)]
  congr 1
  omega
 ·rename_i h
  cases hd:decDigits n.toNat with
  | nil=>exact absurd hd (decDigits_ne _)
  | cons c r =>
   have hc:=decDigits_mem n.toNat c (by rw [hd];simp)
   rw [atoiAll_plain c r (by omega) (by omega),← hd,parse_mag _ (by omega)]
   simp only [signless]
   rw [if_neg (by omega)]
   congr 1
   omega
end Go.Proofs.YticbbfbpeimkbaaGreatDoor
namespace Go.Proofs.YticbbfbpeimkbaaGreatDoor
open Go.Ab
abbrev pl (v:Val):Prop:=allV nameM v=true
inductive Shape:Val→Prop
 | null:Shape (.mk 0 0 [] [] [])
 | bool (n:Int) (h:n=0∨n=1):Shape (.mk 1 n [] [] [])
 | int (n:Int):Shape (.mk 2 n [] [] [])
 | num (s:List UInt8) (h:numB s=true):Shape (.mk 3 0 s [] [])
 | text (s:List UInt8):Shape (.mk 4 0 s [] [])
 | word (s:List UInt8) (h:resB s=false):Shape (.mk 5 0 s [] [])
 | var (s:List UInt8):Shape (.mk 8 0 s [] [])
 | list (l:List Val) (h:allVs nameM l=true):Shape (.mk 6 0 [] l [])
 | obj (m:List Mem) (h:allMs nameM m=true):Shape (.mk 7 0 [] [] m)
theorem bareM_iff {n:Int} {s:List UInt8} {l:List Val} {m:List Mem}:bareM n s l m=true↔n=0∧s=[]∧l=[]∧m=[]:=by
 simp [bareM]
theorem shape:∀ v,pl v→Shape v
 | .mk k n s l m,h=>by
  simp only [pl,allV] at h
  split at h
  ·rename_i k6
   subst k6
   simp only [Bool.and_eq_true,bareM_iff] at h
   obtain ⟨h1,rfl,rfl,_,rfl⟩:=h
   exact .list l h1
  ·split at h
   ·rename_i k7
    subst k7
    simp only [Bool.and_eq_true,bareM_iff] at h
    obtain ⟨h1,rfl,rfl,rfl,_⟩:=h
    exact .obj m h1
   ·simp only [singleM,Bool.and_eq_true,bareM_iff] at h
    obtain ⟨⟨_,_,rfl,rfl⟩,h⟩:=h
    split at h
    ·rename_i k0
     subst k0
     simp only [Bool.and_eq_true,decide_eq_true_eq] at h
     obtain ⟨rfl,rfl⟩:=h
     exact .null
    split at h
    ·rename_i k0
     subst k0
     simp only [Bool.and_eq_true,Bool.or_eq_true,decide_eq_true_eq] at h
     obtain ⟨h,rfl⟩:=h
     exact .bool n h
    split at h
    ·rename_i k0
     subst k0
     simp only [decide_eq_true_eq] at h
     subst h
     exact .int n
    split at h
    ·rename_i k0
     subst k0
     simp only [Bool.and_eq_true,decide_eq_true_eq] at h
     obtain ⟨rfl,h⟩:=h
     exact .num s h
    split at h
    ·rename_i k0
     subst k0
     simp only [Bool.and_eq_true,decide_eq_true_eq] at h
     obtain ⟨rfl,h⟩:=h
     exact .text s
    split at h
    ·rename_i k0
     subst k0
     simp only [Bool.and_eq_true,decide_eq_true_eq,Bool.not_eq_true'] at h
     obtain ⟨rfl,_,h⟩:=h
     exact .word s h
    split at h
    ·rename_i k0
     subst k0
     simp only [Bool.and_eq_true,decide_eq_true_eq] at h
     obtain ⟨rfl,_⟩:=h
     exact .var s
    ·cases h
end Go.Proofs.YticbbfbpeimkbaaGreatDoor
namespace Go.Proofs.YticbbfbpeimkbaaGreatDoor
open Go.Ab Go.Lib
theorem u8_all {P:UInt8→Prop} (h:∀ x:Fin 256,P (UInt8.ofNat x.val)) (c:UInt8):P c:=by
 have:=h ⟨c.toNat,c.toNat_lt⟩
 simpa using this
theorem getD_app {a b:List UInt8} {i:Nat} (h:i<a.length):(a++b).getD i 0=a.getD i 0:=by
 simp [List.getD,List.getElem?_append_left h]
theorem getD_at (a:List UInt8) (c:UInt8) (b:List UInt8):(a++c :: b).getD a.length 0=c:=by simp
theorem check_some {n b1 b2 b3 sz lo hi k:Nat} (h:checkN n b1 b2 b3 sz lo hi=some k) :
  2≤k∧k≤4∧k≤n∧k=sz∧lo≤b1∧(3≤k→128≤b2)∧(4≤k→128≤b3)∧∀ n' c2 c3,k≤n'→(3≤k→c2=b2)→(4≤k→c3=b3)→checkN n' b1 c2 c3 sz lo hi=some k:=by
 unfold checkN at h
 split at h
 ·rename_i hs
  split at h
  ·cases h
  ·rename_i hc
   cases h
   refine ⟨by omega,by omega,by omega,hs.symm,by omega,by omega,by omega,fun n' c2 c3 h1 _ _=>?_⟩
   unfold checkN;rw [if_pos hs,if_neg (by omega)]
 ·rename_i hs2
  split at h
  ·rename_i hs
   split at h
   ·cases h
   ·rename_i hc
    cases h
    refine ⟨by omega,by omega,by omega,hs.symm,by omega,by omega,by omega,fun n' c2 c3 h1 h2 _=>?_⟩
    have:=h2 (by omega)
    unfold checkN;rw [if_neg hs2,if_pos hs,if_neg (by omega)]
  ·rename_i hs3
   split at h
   ·rename_i hs
    split at h
    ·cases h
    ·rename_i hc
     cases h
     refine ⟨by omega,by omega,by omega,hs.symm,by omega,by omega,by omega,fun n' c2 c3 h1 h2 h3=>?_⟩
     have:=h2 (by omega)
     have:=h3 (by omega)
     unfold checkN;rw [if_neg hs2,if_neg hs3,if_pos hs,if_neg (by omega)]
   ·cases h
theorem lo_T:∀ x:Fin 256,2≤firstT x.val % 8→firstT x.val % 8≤4→128≤accLo (firstT x.val / 16):=by decide +kernel
theorem lo_ge {b:Nat} (h:b<256) (h1:2≤firstT b % 8) (h2:firstT b % 8≤4):128≤accLo (firstT b / 16):=lo_T ⟨b,h⟩ h1 h2
theorem validD_app:∀ (n:Nat) (a b:List UInt8),a.length≤n→validD a=true→validD (a++b)=validD b
 | n,[],b,_,_=>by simp
 | 0,x :: t,b,h,_=>by simp at h
 | n+1,x :: t,b,h,hv=>by
  by_cases hx:x.toNat<128
  ·rw [validD_cons x t hx] at hv
   rw [List.cons_append,validD_cons x _ hx]
   exact validD_app n t b (by simpa using h) hv
  ·have h0:128≤((x :: t).getD 0 0).toNat:=by simp;omega
   rw [validD_lead (x :: t) (by simp) h0] at hv
   split at hv
   ·cases hv
   ·rename_i k hk
    obtain ⟨k2,k4,kl,ks,klo,_,_,kall⟩:=check_some hk
    have hkl:k≤(x :: t).length:=kl
    have e1:((x :: t++b).getD 1 0)=(x :: t).getD 1 0:=getD_app (by omega)
    have e0:((x :: t++b).getD 0 0)=(x :: t).getD 0 0:=getD_app (by omega)
    rw [validD_lead (x :: t++b) (by simp) (by rw [e0];exact h0),e0,e1]
    rw [kall (x :: t++b).length _ _ (by simp only [List.length_append];omega) (fun h3=>by rw [getD_app (by omega)]) (fun h3=>by rw [getD_app (by omega)])]
    simp only
    rw [List.drop_append_of_le_length hkl]
    exact validD_app n _ b (by rw [List.length_drop];omega) hv
theorem validA {a b:List UInt8} (h:validD a=true):validD (a++b)=validD b:=validD_app a.length a b (Nat.le_refl _) h
theorem validA2 {a b:List UInt8} (h:validD a=true) (h':validD b=true):validD (a++b)=true:=(validA h).trans h'
theorem validD_split (c:UInt8) (hc:c.toNat<128):∀ (n:Nat) (a b:List UInt8),a.length≤n→validD (a++c :: b)=true→validD a=true∧validD b=true
 | n,[],b,_,hv=>by
  rw [List.nil_append,validD_cons c b hc] at hv
  exact ⟨validD_nil,hv⟩
 | 0,x :: t,b,h,_=>by simp at h
 | n+1,x :: t,b,h,hv=>by
  by_cases hx:x.toNat<128
  ·rw [List.cons_append,validD_cons x _ hx] at hv
   rw [validD_cons x t hx]
   exact validD_split c hc n t b (by simpa using h) hv
  ·have h0:128≤((x :: t++c :: b).getD 0 0).toNat:=by simp;omega
   have e0:((x :: t++c :: b).getD 0 0)=(x :: t).getD 0 0:=getD_app (by simp)
   have ec:((x :: t++c :: b).getD (x :: t).length 0)=c:=getD_at ..
   rw [validD_lead (x :: t++c :: b) (by simp) h0] at hv
   split at hv
   ·cases hv
   ·rename_i k hk
    obtain ⟨k2,k4,kl,ks,klo,k3,k4',kall⟩:=check_some hk
    have hlo:=lo_ge ((x :: t++c :: b).getD 0 0).toNat_lt (by omega) (by omega)
    have hkl:k≤(x :: t).length:=by
     rcases Nat.lt_or_ge (x :: t).length k with h1|h1
     ·exfalso
      have hl:(x :: t).length=1∨(x :: t).length=2∨(x :: t).length=3:=by simp only [List.length_cons] at h1 ⊢;omega
      rcases hl with e|e|e
      ·rw [e] at ec h1;rw [ec] at klo;omega
      ·rw [e] at ec h1;rw [ec] at k3;have:=k3 (by omega);omega
      ·rw [e] at ec h1;rw [ec] at k4';have:=k4' (by omega);omega
     ·exact h1
    have e1:((x :: t++c :: b).getD 1 0)=(x :: t).getD 1 0:=getD_app (by omega)
    rw [List.drop_append_of_le_length hkl] at hv
    obtain ⟨g1,g2⟩:=validD_split c hc n _ b (by rw [List.length_drop];omega) hv
    refine ⟨?_,g2⟩
    rw [validD_lead (x :: t) (by simp) (by rw [← e0];exact h0),← e0,← e1]
    rw [kall (x :: t).length _ _ hkl (fun h3=>by rw [getD_app (by omega)]) (fun h3=>by rw [getD_app (by omega)])]
    exact g1
theorem validS {c:UInt8} (hc:c.toNat<128) {a b:List UInt8} (hv:validD (a++c :: b)=true):validD a=true∧validD b=true:=validD_split c hc a.length a b (Nat.le_refl _) hv
theorem ofN {n:Nat} (h:n<256):(UInt8.ofNat n).toNat=n:=by rw [UInt8.toNat_ofNat'];omega
theorem enc_valid {n:Nat} (h1:n≤1114111) (h2:¬ (55296≤n∧n≤57343)):validD (encM n)=true:=by
 unfold encM
 split
 ·rename_i h
  rw [validD_cons _ _ (by rw [ofN (by omega)];omega)];rfl
 ·split
  ·rename_i h0 h
   rw [validD_lead _ (by simp) (by simp only [List.getD_cons_zero];rw [ofN (by omega)];omega)]
   simp only [List.getD_cons_zero,List.getD_cons_succ,List.getD_nil,List.length_cons,List.length_nil]
   rw [ofN (show 192+n / 64<256 by omega),ofN (show 128+n % 64<256 by omega)]
   have e:firstT (192+n / 64)=2:=by unfold firstT;rw [if_neg (by omega),if_neg (by omega),if_pos (by omega)]
   rw [e]
   have e2:checkN (0+1+1) (128+n % 64) (0:UInt8).toNat (0:UInt8).toNat (2 % 8) (accLo (2 / 16)) (accHi (2 / 16))=some 2:=by
    unfold checkN accLo accHi;simp;omega
   rw [e2];rfl
  ·split
   ·rename_i h0 h1' h
    rw [validD_lead _ (by simp) (by simp only [List.getD_cons_zero];rw [ofN (by omega)];omega)]
    simp only [List.getD_cons_zero,List.getD_cons_succ,List.getD_nil,List.length_cons,List.length_nil]
    rw [ofN (show 224+n / 4096<256 by omega),ofN (show 128+n / 64 % 64<256 by omega),ofN (show 128+n % 64<256 by omega)]
    have e2:checkN (0+1+1+1) (128+n / 64 % 64) (128+n % 64) (0:UInt8).toNat (firstT (224+n / 4096) % 8) (accLo (firstT (224+n / 4096) / 16)) (accHi (firstT (224+n / 4096) / 16))=some 3:=by
     have c:n / 4096=0∨(1≤n / 4096∧n / 4096<13)∨n / 4096=13∨(14≤n / 4096∧n / 4096<16):=by omega
     rcases c with c|c|c|c
     ·rw [c];unfold checkN;simp [firstT,accLo,accHi];omega
     ·have e:firstT (224+n / 4096)=3:=by unfold firstT;rw [if_neg (by omega),if_neg (by omega),if_neg (by omega),if_neg (by omega),if_pos (by omega)]
      rw [e];unfold checkN;simp [accLo,accHi];omega
     ·rw [c];unfold checkN;simp [firstT,accLo,accHi];omega
     ·have e:firstT (224+n / 4096)=3:=by unfold firstT;rw [if_neg (by omega),if_neg (by omega),if_neg (by omega),if_neg (by omega),if_neg (by omega),if_neg (by omega),if_pos (by omega)]
      rw [e];unfold checkN;simp [accLo,accHi];omega
    rw [e2];rfl
   ·rename_i h0 h1' h
    rw [validD_lead _ (by simp) (by simp only [List.getD_cons_zero];rw [ofN (by omega)];omega)]
    simp only [List.getD_cons_zero,List.getD_cons_succ,List.getD_nil,List.length_cons,List.length_nil]
    rw [ofN (show 240+n / 262144<256 by omega),ofN (show 128+n / 4096 % 64<256 by omega),ofN (show 128+n / 64 % 64<256 by omega),ofN (show 128+n % 64<256 by omega)]
    have e2:checkN (0+1+1+1+1) (128+n / 4096 % 64) (128+n / 64 % 64) (128+n % 64) (firstT (240+n / 262144) % 8) (accLo (firstT (240+n / 262144) / 16)) (accHi (firstT (240+n / 262144) / 16))=some 4:=by
     have c:n / 262144=0∨(1≤n / 262144∧n / 262144<4)∨n / 262144=4:=by omega
     rcases c with c|c|c
     ·rw [c];unfold checkN;simp [firstT,accLo,accHi];omega
     ·have e:firstT (240+n / 262144)=4:=by unfold firstT;rw [if_neg (by omega),if_neg (by omega),if_neg (by omega),if_neg (by omega),if_neg (by omega),if_neg (by omega),if_neg (by omega),if_neg (by omega),if_pos (by omega)]
      rw [e];unfold checkN;simp [accLo,accHi];omega
     ·rw [c];unfold checkN;simp [firstT,accLo,accHi];omega
    rw [e2];rfl
theorem join_valid:∀ (u:List Nat) (s:List UInt8),joinM u=some s→validD s=true
 | [],s,h=>by cases h;rfl
 | u :: [],s,h=>by
  simp only [joinM] at h
  split at h
  ·cases h
  ·rename_i h1
   split at h
   ·cases h
   ·simp only [Option.map_some,Option.some.injEq] at h
    subst h
    rw [List.append_nil]
    exact enc_valid (by omega) (by omega)
 | u :: v :: r,s,h=>by
  rw [joinM] at h
  split at h
  ·cases h
  ·rename_i h1
   split at h
   ·rename_i h2
    split at h
    ·cases h
    ·rename_i h3
     cases hr:joinM r with
     | none=>simp [hr] at h
     | some x =>
      simp only [hr,Option.map_some,Option.some.injEq] at h
      subst h
      exact validA2 (enc_valid (by omega) (by omega)) (join_valid r x hr)
   ·rename_i h2
    cases hr:joinM (v :: r) with
    | none=>simp [hr] at h
    | some x =>
     simp only [hr,Option.map_some,Option.some.injEq] at h
     subst h
     exact validA2 (enc_valid (by omega) (by omega)) (join_valid (v :: r) x hr)
end Go.Proofs.YticbbfbpeimkbaaGreatDoor
namespace Go.Proofs.YticbbfbpeimkbaaGreatDoor
open Go.Ab
def qB (c:UInt8):List UInt8:=if c=34∨c=92 then [92,c] else if c.toNat<32 then [92,117,48,48,hexL.getD (c.toNat / 16) 0,hexL.getD (c.toNat % 16) 0] else [c]
def quoteM (s:List UInt8):List UInt8:=34 :: (s.flatMap qB++[34])
mutual
def putV:Val→List UInt8
 | .mk k n s l m=>if k=0 then [110,117,108,108] else if k=1 then boolT (decide (n=1)) else if k=2 then Lib.itoa n else if k=3 then s else if k=4 then quoteM s
  else if k=6 then 91 :: (putVs true l++[93]) else 123 :: (putMs true m++[125])
def putVs:Bool→List Val→List UInt8
 | _,[]=>[]
 | f,v :: r=>(if f then [] else [44])++(putV v++putVs false r)
def putM:Mem→List UInt8
 | .mk s v=>quoteM s++(58 :: putV v)
def putMs:Bool→List Mem→List UInt8
 | _,[]=>[]
 | f,x :: r=>(if f then [] else [44])++(putM x++putMs false r)
end
mutual
def singV:Val→Bool
 | .mk k _ _ l m=>!(decide (k=5) || decide (k=8)) && (singVs l && singMs [] m)
def singVs:List Val→Bool
 | []=>true
 | v :: r=>singV v && singVs r
def singM:Mem→Bool
 | .mk _ v=>singV v
def singMs:List (List UInt8)→List Mem→Bool
 | _,[]=>true
 | ns,x :: r=>!(ns.contains (nmM x)) && (singM x && singMs (ns++[nmM x]) r)
def nmM:Mem→List UInt8
 | .mk s _=>s
end
def rightV (v:Val):Bool:=goodV v && singV v
end Go.Proofs.YticbbfbpeimkbaaGreatDoor
namespace Go.Proofs.YticbbfbpeimkbaaGreatDoor
open Go.Ab
end Go.Proofs.YticbbfbpeimkbaaGreatDoor
namespace Go.Proofs.YticbbfbpeimkbaaGreatDoor
open Go.Ab
theorem wholeN_neg (t:List UInt8):wholeN (45 :: t)=if run1 t=0 then 0 else 1+intN t:=by
 unfold wholeN;exact if_pos rfl
theorem wholeN_pos {s:List UInt8} (h:¬ s.head?=some 45):wholeN s=intN s:=by
 unfold wholeN;exact if_neg h
end Go.Proofs.YticbbfbpeimkbaaGreatDoor
namespace Go.Proofs.YticbbfbpeimkbaaGreatDoor
open Go.Ab Go.Lib
structure SdOk (q:Sd) (acc:List UInt8):Prop where
 ok:q.ok=true
 small:∀ u ∈ q.u,u<128
 eq:acc=q.b++q.u.map UInt8.ofNat
theorem join_small:∀ u:List Nat,(∀ x ∈ u,x<128)→joinM u=some (u.map UInt8.ofNat)
 | [],_=>rfl
 | u :: r,h=>by
  have h1:=h u (.head _)
  have h2:=join_small r fun x hx=>h x (.tail _ hx)
  have e:encM u=[UInt8.ofNat u]:=by unfold encM;rw [if_pos (by omega)]
  cases r with
  | nil=>simp only [joinM];rw [if_neg (by omega),if_neg (by omega),e];rfl
  | cons v r=>rw [joinM,if_neg (by omega),if_neg (by omega),h2,e];rfl
theorem SdOk.flush {q:Sd} {acc:List UInt8} (h:SdOk q acc):flushM q=⟨acc,[],true⟩:=by
 unfold flushM;rw [join_small _ h.small,h.ok,h.eq];rfl
theorem SdOk.put {q:Sd} {acc:List UInt8} (h:SdOk q acc) (c:UInt8):SdOk (q.put c) (acc++[c]):=by
 unfold Sd.put;rw [h.flush];exact ⟨rfl,by simp,by simp⟩
theorem SdOk.unit {q:Sd} {acc:List UInt8} (h:SdOk q acc) {u:Nat} (hu:u<128):SdOk ⟨q.b,q.u++[u],q.ok⟩ (acc++[UInt8.ofNat u]) :=
 ⟨h.ok,fun x hx=>by rcases List.mem_append.1 hx with e|e;exact h.small x e;simp at e;omega,by rw [h.eq];simp⟩
theorem unit_low:∀ x:Fin 32,∀ t,unitM (48 :: 48 :: hexL.getD (x.val / 16) 0 :: hexL.getD (x.val % 16) 0 :: t)=some x.val:=by
 intro x t
 have h0:hexD 48=some 0:=by decide
 have h1:∀ y:Fin 32,hexD (hexL.getD (y.val / 16) 0)=some (y.val / 16):=by decide
 have h2:∀ y:Fin 32,hexD (hexL.getD (y.val % 16) 0)=some (y.val % 16):=by decide
 unfold unitM
 simp only [unitG,h0,h1 x,h2 x]
 congr 1;omega
theorem esc_q {q:Sd} {acc:List UInt8} (h:SdOk q acc) (c:UInt8) (hc:c=34∨c=92) (t:List UInt8):escM q (c :: t)=some (q.put c,t):=by
 rcases hc with rfl|rfl
 ·simp only [escM];rw [if_neg (by decide),if_neg (by decide)];rfl
 ·simp only [escM];rw [if_neg (by decide),if_neg (by decide)];rfl
theorem esc_u (q:Sd) (c:UInt8) (hc:c.toNat<32) (t:List UInt8):escM q (117 :: 48 :: 48 :: hexL.getD (c.toNat / 16) 0 :: hexL.getD (c.toNat % 16) 0 :: t)=some (⟨q.b,q.u++[c.toNat],q.ok⟩,t):=by
 simp only [escM]
 rw [if_pos trivial]
 have:=unit_low ⟨c.toNat,hc⟩ t
 simp only at this
 rw [this];rfl
theorem quoG_q (may:UInt8→Bool) (hm:∀ c:UInt8,32≤c.toNat→may c=true):∀ (s:List UInt8) (n:Nat) (q:Sd) (acc t:List UInt8),SdOk q acc→(s.flatMap qB).length<n→∃ q',quoG may n (s.flatMap qB++34 :: t) q=some (q',t)∧q'.ok=true∧q'.b=acc++s
 | [],n+1,q,acc,t,h,_=>⟨flushM q,by simp [quoG],by rw [h.flush],by rw [h.flush];simp⟩
 | [],0,q,acc,t,h,hn=>by simp at hn
 | c :: s,0,q,acc,t,h,hn=>by simp at hn
 | c :: s,n+1,q,acc,t,h,hn=>by
  rw [List.flatMap_cons] at hn ⊢
  rw [List.append_assoc]
  rw [List.length_append] at hn
  by_cases h1:c=34∨c=92
  ·have e:qB c=[92,c]:=by unfold qB;rw [if_pos h1]
   rw [e] at hn ⊢
   simp only [List.length_cons,List.length_nil] at hn
   simp only [List.cons_append,List.nil_append,quoG]
   rw [if_neg (by decide),if_pos trivial,esc_q h c h1]
   obtain ⟨q',h2,h3,h4⟩:=quoG_q may hm s n (q.put c) (acc++[c]) t (h.put c) (by omega)
   exact ⟨q',h2,h3,by rw [h4];simp⟩
  ·by_cases h2:c.toNat<32
   ·have e:qB c=[92,117,48,48,hexL.getD (c.toNat / 16) 0,hexL.getD (c.toNat % 16) 0]:=by unfold qB;rw [if_neg h1,if_pos h2]
    rw [e] at hn ⊢
    simp only [List.length_cons,List.length_nil] at hn
    simp only [List.cons_append,List.nil_append,quoG]
    rw [if_neg (by decide),if_pos trivial,esc_u q c h2]
    obtain ⟨q',h2',h3,h4⟩:=quoG_q may hm s n _ (acc++[UInt8.ofNat c.toNat]) t (h.unit (by omega)) (by omega)
    exact ⟨q',h2',h3,by rw [h4];simp⟩
   ·have e:qB c=[c]:=by unfold qB;rw [if_neg h1,if_neg h2]
    rw [e] at hn ⊢
    simp only [List.length_cons,List.length_nil] at hn
    simp only [List.cons_append,List.nil_append,quoG]
    rw [if_neg (fun e=>h1 (.inl e)),if_neg (fun e=>h1 (.inr e)),if_pos (hm c (by omega))]
    obtain ⟨q',h2',h3,h4⟩:=quoG_q may hm s n (q.put c) (acc++[c]) t (h.put c) (by omega)
    exact ⟨q',h2',h3,by rw [h4];simp⟩
theorem quoM_q (s t:List UInt8):quoM hiB (s.flatMap qB++34 :: t)=some (s,t):=by
 unfold quoM
 obtain ⟨q',h1,h2,h3⟩:=quoG_q hiB (fun c h=>by simp [hiB,h]) s ((s.flatMap qB++34 :: t).length+1) ⟨[],[],true⟩ [] t ⟨rfl,by simp,rfl⟩ (by simp only [List.length_append,List.length_cons];omega)
 rw [h1]
 simp only [h2,if_true,h3,List.nil_append]
theorem bk34:bk 34=false:=by decide
theorem skB_no {c:UInt8} {t:List UInt8} (h:bk c=false):skB (c :: t)=c :: t:=by rw [skB,h];rfl
theorem textM_q (s t:List UInt8):textM (quoteM s++t)=.ok (s,t):=by
 unfold textM quoteM
 rw [List.cons_append,skB_no bk34,List.append_assoc,if_pos (by simp [List.isPrefixOf])]
 simp only [List.tail_cons,List.cons_append,List.nil_append]
 rw [quoM_q]
theorem nch_D (c:UInt8):isD c=true→nch c=true:=u8_all (P:=fun c=>isD c=true→nch c=true) (by decide +kernel) c
theorem nch_E (c:UInt8):isE c=true→nch c=true:=u8_all (P:=fun c=>isE c=true→nch c=true) (by decide +kernel) c
theorem nst_D (c:UInt8):isD c=true→nst c=true:=u8_all (P:=fun c=>isD c=true→nst c=true) (by decide +kernel) c
theorem nst_other (c:UInt8):nst c=true→bk c=false∧c≠123∧c≠91∧c≠34∧c≠93∧c≠125∧c.toNat<128:=u8_all (P:=fun c=>nst c=true→bk c=false∧c≠123∧c≠91∧c≠34∧c≠93∧c≠125∧c.toNat<128) (by decide +kernel) c
theorem run1_take:∀ (l:List UInt8) (c:UInt8),c ∈ l.take (run1 l)→isD c=true
 | [],c,h=>by simp at h
 | x :: l,c,h=>by
  rw [run1] at h
  split at h
  ·rename_i hx
   rw [List.take_succ_cons] at h
   rcases List.mem_cons.1 h with e|e
   ·rw [e];exact hx
   ·exact run1_take l c e
  ·simp at h
theorem take_mono {l:List UInt8} {a b:Nat} (h:a≤b) {c:UInt8} (hc:c ∈ l.take a):c ∈ l.take b :=
 (List.take_prefix_take_left h).subset hc
theorem intN_run (s:List UInt8):intN s≤run1 s:=by unfold intN;split<;>(try split)<;>omega
theorem intN_take {l:List UInt8} {c:UInt8} (h:c ∈ l.take (intN l)):isD c=true:=run1_take l c (take_mono (intN_run l) h)
theorem wholeN_take {s:List UInt8} {c:UInt8} (h:c ∈ s.take (wholeN s)):nch c=true:=by
 by_cases h45:s.head?=some 45
 ·cases s with
  | nil=>simp at h
  | cons x t =>
   have hx:x=45:=by simpa using h45
   subst hx
   rw [wholeN_neg] at h
   by_cases h0:run1 t=0
   ·rw [if_pos h0] at h;simp at h
   ·rw [if_neg h0,Nat.add_comm,List.take_succ_cons] at h
    rcases List.mem_cons.1 h with e|e
    ·rw [e];decide
    ·exact nch_D c (intN_take e)
 ·rw [wholeN_pos h45] at h
  exact nch_D c (intN_take h)
theorem fracN_take {s:List UInt8} {c:UInt8} (h:c ∈ s.take (fracN s)):nch c=true:=by
 unfold fracN at h
 split at h
 ·rename_i h46
  cases s with
  | nil=>simp at h
  | cons x t =>
   have hx:x=46:=by simpa using h46.1
   subst hx
   simp only [List.tail_cons] at h
   rw [Nat.add_comm,List.take_succ_cons] at h
   rcases List.mem_cons.1 h with e|e
   ·rw [e];decide
   ·exact nch_D c (run1_take _ c e)
 ·simp at h
theorem whole_head {s:List UInt8} (h:wholeN s≠0):∃ c t,s=c :: t∧nst c=true:=by
 cases s with
 | nil=>exact absurd (by decide) h
 | cons c t =>
  refine ⟨c,t,rfl,?_⟩
  by_cases hc:c=45
  ·rw [hc];decide
  ·rw [wholeN_pos (by simpa using hc)] at h
   apply nst_D
   cases hd:isD c with
   | true=>rfl
   | false=>exact absurd (by simp [intN,run1,hd]) h
theorem sgN_take {r:List UInt8} {c:UInt8} (h:c ∈ r.take (sgN r)):nch c=true:=by
 unfold sgN at h
 split at h
 ·rename_i hs
  cases r with
  | nil=>simp at h
  | cons x t =>
   simp only [List.head?_cons,Option.some.injEq] at hs
   simp at h
   subst h
   rcases hs with rfl|rfl<;>decide
 ·simp at h
theorem powN_take:∀ (s:List UInt8) (c:UInt8),c ∈ s.take (powN s)→nch c=true
 | [],c,h=>by simp at h
 | x :: r,c,h=>by
  rw [powN] at h
  split at h
  ·rename_i hx
   split at h
   ·simp at h
   ·rw [Nat.add_assoc,Nat.add_comm,List.take_succ_cons] at h
    rcases List.mem_cons.1 h with e|e
    ·rw [e];exact nch_E x hx
    ·rw [List.take_add] at e
     rcases List.mem_append.1 e with e|e
     ·exact sgN_take e
     ·exact nch_D c (run1_take _ c e)
  ·simp at h
theorem num_text {s:List UInt8} (h:numK s≠0):(∀ c ∈ s,nch c=true)∧∃ c t,s=c :: t∧nst c=true:=by
 unfold numK at h
 split at h
 ·rename_i hl
  unfold numN at h hl
  split at h
  ·exact absurd rfl h
  ·rename_i hw
   rw [if_neg hw] at hl
   simp only at hl
   refine ⟨fun c hc=>?_,whole_head hw⟩
   have e:s=s.take (wholeN s+fracN (s.drop (wholeN s))+powN (s.drop (wholeN s+fracN (s.drop (wholeN s))))):=by rw [hl,List.take_length]
   rw [e,List.take_add,List.take_add] at hc
   rcases List.mem_append.1 hc with hc|hc
   ·rcases List.mem_append.1 hc with hc|hc
    ·exact wholeN_take hc
    ·exact fracN_take hc
   ·exact powN_take _ _ hc
 ·exact absurd rfl h
def NoN (r:List UInt8):Prop:=∀ c,r.head?=some c→nch c=false
theorem takeN:∀ (s r:List UInt8),(∀ c ∈ s,nch c=true)→NoN r→(s++r).takeWhile nch=s∧(s++r).dropWhile nch=r
 | [],[],_,_=>⟨rfl,rfl⟩
 | [],c :: r,_,h=>by
  have:=h c rfl
  simp [this]
 | c :: s,r,h,hr=>by
  have h1:=takeN s r (fun x hx=>h x (.tail _ hx)) hr
  have h2:=h c (.head _)
  simp [h2,h1]
theorem numM_q {s r:List UInt8} (h:numK s≠0) (hr:NoN r):numM (s++r)=.ok (numV s,r):=by
 have h1:=takeN s r (num_text h).1 hr
 unfold numM
 rw [h1.1,h1.2,if_neg h]
theorem dec_isD {u:Nat} {c:UInt8} (h:c ∈ decDigits u):isD c=true:=by
 have:=decDigits_mem u c h
 simp [isD,this]
theorem run1_all:∀ l:List UInt8,(∀ c ∈ l,isD c=true)→run1 l=l.length
 | [],_=>rfl
 | c :: l,h=>by
  rw [run1,if_pos (h c (.head _)),run1_all l fun x hx=>h x (.tail _ hx)];rfl
theorem dec_head (u:Nat):∃ c t,decDigits u=c :: t∧(c=48→t=[]):=by
 induction u using Nat.strongRecOn with
 | _ u ih =>
  rw [decDigits]
  split
  ·exact ⟨_,[],rfl,fun _=>rfl⟩
  ·rename_i h
   obtain ⟨c,t,h1,h2⟩:=ih (u / 10) (by omega)
   refine ⟨c,t++[UInt8.ofNat (48+u % 10)],by rw [h1];rfl,fun e=>?_⟩
   have ht:=h2 e
   subst e;subst ht
   rw [decDigits] at h1
   split at h1
   ·rename_i h3
    have h4:=congrArg UInt8.toNat (List.cons.inj h1).1
    rw [u8_48 h3] at h4
    have:(48:UInt8).toNat=48:=rfl
    omega
   ·have:=congrArg List.length h1
    have h5:=decDigits_ne (u / 10 / 10)
    cases hd:decDigits (u / 10 / 10) with
    | nil=>exact absurd hd h5
    | cons a b=>rw [hd] at this;simp at this
theorem dec_intN (u:Nat):intN (decDigits u)=(decDigits u).length∧run1 (decDigits u)≠0:=by
 have h1:=run1_all (decDigits u) fun c hc=>dec_isD hc
 obtain ⟨c,t,h2,h3⟩:=dec_head u
 have h4:run1 (decDigits u)≠0:=by rw [h1,h2];simp
 refine ⟨?_,h4⟩
 unfold intN
 rw [if_neg h4]
 split
 ·rename_i h5
  rw [h2] at h5 ⊢
  rw [h3 (by simpa using h5)];rfl
 ·exact h1
theorem itoa_numK (n:Int):numK (itoa n)=3:=by
 have key:∀ s:List UInt8,wholeN s=s.length→s≠[]→numK s=3:=fun s h h0=>by
  have hl:s.length≠0:=fun e=>h0 (List.length_eq_zero_iff.1 e)
  have e1:fracN ([]:List UInt8)=0:=by decide
  have hn:numN s=(s.length,3):=by
   unfold numN
   rw [if_neg (by omega)]
   simp [h,e1,powN]
  unfold numK;rw [hn];simp
 unfold itoa
 split
 ·refine key _ ?_ (by simp)
  rw [wholeN_neg,if_neg (dec_intN _).2,(dec_intN _).1];simp;omega
 ·refine key _ ?_ (decDigits_ne _)
  obtain ⟨c,t,h2,h3⟩:=dec_head n.toNat
  have h5:¬ (decDigits n.toNat).head?=some 45:=by
   rw [h2];simp
   intro e;subst e
   have:=decDigits_mem n.toNat 45 (by rw [h2];simp)
   have e:(45:UInt8).toNat=45:=rfl
   omega
  rw [wholeN_pos h5,(dec_intN _).1]
theorem bareM_iff' {n:Int} {s:List UInt8} {l:List Val} {m:List Mem}:bareM n s l m=true↔n=0∧s=[]∧l=[]∧m=[]:=by
 simp [bareM]
inductive JS:Val→Prop
 | null:JS (.mk 0 0 [] [] [])
 | bool (n:Int) (h:n=0∨n=1):JS (.mk 1 n [] [] [])
 | int (n:Int):JS (.mk 2 n [] [] [])
 | num (s:List UInt8) (h:numB s=true):JS (.mk 3 0 s [] [])
 | text (s:List UInt8) (h:validD s=true):JS (.mk 4 0 s [] [])
 | list (l:List Val) (h:allVs validD l=true) (h':singVs l=true):JS (.mk 6 0 [] l [])
 | obj (m:List Mem) (h:allMs validD m=true) (h':singMs [] m=true):JS (.mk 7 0 [] [] m)
theorem jshape:∀ v,rightV v=true→JS v
 | .mk k n s l m,h=>by
  simp only [rightV,goodV,allV,singV,Bool.and_eq_true,Bool.not_eq_true',Bool.or_eq_false_iff,decide_eq_false_iff_not] at h
  obtain ⟨h,⟨h5,h8⟩,hl,hm⟩:=h
  split at h
  ·rename_i k6
   subst k6
   simp only [Bool.and_eq_true,bareM_iff'] at h
   obtain ⟨h1,rfl,rfl,_,rfl⟩:=h
   exact .list l h1 hl
  ·split at h
   ·rename_i k7
    subst k7
    simp only [Bool.and_eq_true,bareM_iff'] at h
    obtain ⟨h1,rfl,rfl,rfl,_⟩:=h
    exact .obj m h1 hm
   ·simp only [singleM,Bool.and_eq_true,bareM_iff'] at h
    obtain ⟨⟨_,_,rfl,rfl⟩,h⟩:=h
    split at h
    ·rename_i k0
     subst k0
     simp only [Bool.and_eq_true,decide_eq_true_eq] at h
     obtain ⟨rfl,rfl⟩:=h
     exact .null
    split at h
    ·rename_i k0
     subst k0
     simp only [Bool.and_eq_true,Bool.or_eq_true,decide_eq_true_eq] at h
     obtain ⟨h,rfl⟩:=h
     exact .bool n h
    split at h
    ·rename_i k0
     subst k0
     simp only [decide_eq_true_eq] at h
     subst h
     exact .int n
    split at h
    ·rename_i k0
     subst k0
     simp only [Bool.and_eq_true,decide_eq_true_eq] at h
     obtain ⟨rfl,h⟩:=h
     exact .num s h
    split at h
    ·rename_i k0
     subst k0
     simp only [Bool.and_eq_true,decide_eq_true_eq] at h
     obtain ⟨rfl,h⟩:=h
     exact .text s h
    ·cases h
theorem numB_ne {s:List UInt8} (h:numB s=true):numK s≠0∧wholeB s=false:=by
 simp only [numB,Bool.or_eq_true,decide_eq_true_eq,Bool.and_eq_true,Bool.not_eq_true'] at h
 rcases h with h|⟨h,h2⟩
 ·exact ⟨by omega,by simp [wholeB,h]⟩
 ·exact ⟨by omega,h2⟩
theorem itoa_whole {n:Int} (h:inR n):wholeB (itoa n)=true∧valI (itoa n)=n:=by
 have h1:=parse_itoa n h.1 h.2
 exact ⟨by simp [wholeB,h1,okI,itoa_numK],by simp [valI,h1]⟩
theorem valM_hd {k:Nat} {c:UInt8} {t:List UInt8} (h0:bk c=false) (h1:c≠123) (h2:c≠91):∃ p,valM k (c :: t)=headM (c :: t) p:=by
 cases k with
 | zero=>exact ⟨deepM,by simp only [valM,skB_no h0];rw [if_neg (by simp [h1,h2])]⟩
 | succ n=>exact ⟨valM n,by simp only [valM,skB_no h0]⟩
theorem put_head {v:Val} (h:rightV v=true):∃ c t,putV v=c :: t∧bk c=false∧c≠93∧c≠125∧c≠44:=by
 cases jshape v h with
 | null=>exact ⟨110,[117,108,108],by simp [putV],by decide,by decide,by decide,by decide⟩
 | bool n h1 =>
  rcases h1 with rfl|rfl
  ·exact ⟨102,[97,108,115,101],by simp [putV,boolT],by decide,by decide,by decide,by decide⟩
  ·exact ⟨116,[114,117,101],by simp [putV,boolT],by decide,by decide,by decide,by decide⟩
 | int n =>
  obtain ⟨c,t,h1,h2⟩:=(num_text (s:=itoa n) (by rw [itoa_numK];decide)).2
  have h3:=nst_other c h2
  refine ⟨c,t,by simpa [putV] using h1,h3.1,h3.2.2.2.2.1,h3.2.2.2.2.2.1,fun e=>?_⟩
  subst e;revert h2;decide
 | num s hb =>
  obtain ⟨c,t,h1,h2⟩:=(num_text (numB_ne hb).1).2
  have h3:=nst_other c h2
  refine ⟨c,t,by simpa [putV] using h1,h3.1,h3.2.2.2.2.1,h3.2.2.2.2.2.1,fun e=>?_⟩
  subst e;revert h2;decide
 | text s hb=>exact ⟨34,s.flatMap qB++[34],by simp [putV,quoteM],by decide,by decide,by decide,by decide⟩
 | list l h1 h2=>exact ⟨91,putVs true l++[93],by simp [putV],by decide,by decide,by decide,by decide⟩
 | obj m h1 h2=>exact ⟨123,putMs true m++[125],by simp [putV],by decide,by decide,by decide,by decide⟩
theorem mayM_no {x c:UInt8} {t:List UInt8} (h:bk c=false) (hx:x≠c):mayM [x] (c :: t)=none:=by
 unfold mayM;rw [skB_no h,if_neg (by simp [List.isPrefixOf,hx])]
theorem mayM_yes {c:UInt8} {t:List UInt8} (h:bk c=false):mayM [c] (c :: t)=some t:=by
 unfold mayM;rw [skB_no h,if_pos (by simp [List.isPrefixOf])];rfl
theorem mustM_yes {c:UInt8} {t:List UInt8} (h:bk c=false):mustM [c] (c :: t)=.ok ((),t):=by
 unfold mustM;rw [mayM_yes h]
theorem depthVs_iff (n:Int):∀ (l:List Val) (a:Int),(depthVs l a≤n↔a≤n∧∀ v ∈ l,depthV v≤n)
 | [],a=>by simp [depthVs]
 | v :: l,a=>by
  rw [depthVs,depthVs_iff n l]
  have:mm2 true a (depthV v)≤n↔a≤n∧depthV v≤n:=by simp only [mm2,if_true];split<;>omega
  rw [this];simp [and_assoc]
theorem depthMs_iff (n:Int):∀ (l:List Mem) (a:Int),(depthMs l a≤n↔a≤n∧∀ v ∈ l,depthM v≤n)
 | [],a=>by simp [depthMs]
 | v :: l,a=>by
  rw [depthMs,depthMs_iff n l]
  have:mm2 true a (depthM v)≤n↔a≤n∧depthM v≤n:=by simp only [mm2,if_true];split<;>omega
  rw [this];simp [and_assoc]
theorem NoN_cons {c:UInt8} {t:List UInt8} (h:nch c=false):NoN (c :: t):=fun x hx=>by
 cases hx;exact h
theorem hasN_iff (s:List UInt8):∀ l:List Mem,hasN s l=(l.map nmM).contains s
 | []=>rfl
 | .mk t v :: l=>by
  rw [hasN,hasN_iff s l]
  by_cases h:t=s
  ·simp [h,nmM]
  ·simp [h,nmM,Ne.symm h]
def BackV (n:Nat) (v:Val):Prop:=∀ r,NoN r→valM n (putV v++r)=if depthV v≤n then .ok (v,r) else .error 4
theorem items_back (n:Nat):∀ (l acc:List Val) (fuel:Nat) (r:List UInt8),(∀ v ∈ l,BackV n v)→(putVs false l).length<fuel →
  itemsM (valM n) fuel acc (putVs false l++93 :: r)=if (∀ v ∈ l,depthV v≤n) then .ok (acc++l,r) else .error 4
 | _,_,0,_,_,h=>by omega
 | [],acc,fuel+1,r,_,_=>by
  simp only [putVs,List.nil_append,itemsM,mayM_yes (show bk 93=false by decide)]
  simp
 | v :: l,acc,fuel+1,r,hv,hf=>by
  have hf':(putVs false l).length<fuel:=by
   simp only [putVs,Bool.false_eq_true,if_false,List.length_append,List.length_cons,List.length_nil] at hf;omega
  have e:putVs false (v :: l)++93 :: r=44 :: (putV v++(putVs false l++93 :: r)):=by simp [putVs]
  have hN:NoN (putVs false l++93 :: r):=by
   cases l with
   | nil=>exact NoN_cons (by decide)
   | cons w l=>exact NoN_cons (by decide)
  rw [e,itemsM,mayM_no (show bk 44=false by decide) (by decide)]
  simp only [mustM_yes (show bk 44=false by decide),RR.bind,hv v (.head _) _ hN]
  by_cases hd:depthV v≤n
  ·rw [if_pos hd]
   simp only
   rw [items_back n l (acc++[v]) fuel r (fun x hx=>hv x (.tail _ hx)) hf']
   simp [hd]
  ·rw [if_neg hd]
   rw [if_neg (fun h=>hd (h v (.head _)))]
theorem list_back (n:Nat) (l:List Val) (r:List UInt8) (hv:∀ v ∈ l,BackV n v) (hh:∀ v ∈ l,rightV v=true) :
  listM (valM n) (putVs true l++93 :: r)=if (∀ v ∈ l,depthV v≤n) then .ok (.mk 6 0 [] l [],r) else .error 4:=by
 cases l with
 | nil=>simp only [putVs,List.nil_append,listM,mayM_yes (show bk 93=false by decide)];simp
 | cons v l =>
  have e:putVs true (v :: l)++93 :: r=putV v++(putVs false l++93 :: r):=by simp [putVs]
  have hN:NoN (putVs false l++93 :: r):=by
   cases l with
   | nil=>exact NoN_cons (by decide)
   | cons w l=>exact NoN_cons (by decide)
  obtain ⟨c,t,h1,h2,h3,h4⟩:=put_head (hh v (.head _))
  have hm:mayM [93] (putV v++(putVs false l++93 :: r))=none:=by rw [h1];exact mayM_no h2 (Ne.symm h3)
  rw [e,listM,hm]
  simp only [RR.bind,hv v (.head _) _ hN]
  by_cases hd:depthV v≤n
  ·rw [if_pos hd]
   simp only
   rw [items_back n l [v] _ r (fun x hx=>hv x (.tail _ hx)) (by simp only [List.length_append,List.length_cons];omega)]
   by_cases ha:∀ v ∈ l,depthV v≤n
   ·rw [if_pos ha,if_pos (fun x hx=>by rcases List.mem_cons.1 hx with e|e;exact e▸hd;exact ha x e)]
    rfl
   ·rw [if_neg ha,if_neg (fun h=>ha fun x hx=>h x (.tail _ hx))]
  ·rw [if_neg hd]
   rw [if_neg (fun h=>hd (h v (.head _)))]
theorem member_back {n:Nat} {s:List UInt8} {v:Val} {acc:List Mem} {r:List UInt8} (hv:BackV n v) (hr:NoN r) (hs:(acc.map nmM).contains s=false) :
  memberM (valM n) acc (putM (.mk s v)++r)=if depthV v≤n then .ok (acc++[.mk s v],r) else .error 4:=by
 have e:putM (.mk s v)++r=quoteM s++(58 :: (putV v++r)):=by simp [putM]
 rw [e,memberM,textM_q]
 simp only [RR.bind]
 rw [hasN_iff,hs]
 simp only [Bool.false_eq_true,if_false,mustM_yes (show bk 58=false by decide),hv r hr]
 by_cases hd:depthV v≤n
 ·rw [if_pos hd,if_pos hd]
 ·rw [if_neg hd,if_neg hd]
theorem members_back (n:Nat):∀ (l acc:List Mem) (fuel:Nat) (r:List UInt8),(∀ s v,Mem.mk s v ∈ l→BackV n v)→singMs (acc.map nmM) l=true→(putMs false l).length<fuel →
  membersM (valM n) fuel acc (putMs false l++125 :: r)=if (∀ x ∈ l,depthM x≤n) then .ok (acc++l,r) else .error 4
 | _,_,0,_,_,_,h=>by omega
 | [],acc,fuel+1,r,_,_,_=>by
  simp only [putMs,List.nil_append,membersM,mayM_yes (show bk 125=false by decide)]
  simp
 | .mk s v :: l,acc,fuel+1,r,hv,hs,hf=>by
  have hf':(putMs false l).length<fuel:=by
   simp only [putMs,Bool.false_eq_true,if_false,List.length_append,List.length_cons,List.length_nil] at hf;omega
  have e:putMs false (.mk s v :: l)++125 :: r=44 :: (putM (.mk s v)++(putMs false l++125 :: r)):=by simp [putMs]
  have hN:NoN (putMs false l++125 :: r):=by
   cases l with
   | nil=>exact NoN_cons (by decide)
   | cons w l=>exact NoN_cons (by decide)
  simp only [singMs,nmM,Bool.and_eq_true,Bool.not_eq_true'] at hs
  obtain ⟨hs1,_,hs2⟩:=hs
  rw [e,membersM,mayM_no (show bk 44=false by decide) (by decide)]
  simp only [mustM_yes (show bk 44=false by decide),RR.bind,member_back (hv s v (.head _)) hN hs1]
  by_cases hd:depthV v≤n
  ·rw [if_pos hd]
   simp only
   rw [members_back n l (acc++[Mem.mk s v]) fuel r (fun s v hx=>hv s v (.tail _ hx)) (by simpa [nmM] using hs2) hf']
   simp [hd,depthM]
  ·rw [if_neg hd]
   rw [if_neg (fun h=>hd (by have:=h _ (.head _);simpa [depthM] using this))]
theorem map_back (n:Nat) (l:List Mem) (r:List UInt8) (hv:∀ s v,Mem.mk s v ∈ l→BackV n v) (hs:singMs [] l=true) :
  mapM (valM n) (putMs true l++125 :: r)=if (∀ x ∈ l,depthM x≤n) then .ok (.mk 7 0 [] [] l,r) else .error 4:=by
 cases l with
 | nil=>simp only [putMs,List.nil_append,mapM,mayM_yes (show bk 125=false by decide)];simp
 | cons x l =>
  obtain ⟨s,v⟩:=x
  have e:putMs true (.mk s v :: l)++125 :: r=putM (.mk s v)++(putMs false l++125 :: r):=by simp [putMs]
  have hN:NoN (putMs false l++125 :: r):=by
   cases l with
   | nil=>exact NoN_cons (by decide)
   | cons w l=>exact NoN_cons (by decide)
  simp only [singMs,nmM,Bool.and_eq_true,Bool.not_eq_true',List.nil_append] at hs
  obtain ⟨hs1,_,hs2⟩:=hs
  have hm:mayM [125] (putM (.mk s v)++(putMs false l++125 :: r))=none:=mayM_no (c:=34) (by decide) (by decide)
  rw [e,mapM,hm]
  simp only [RR.bind,member_back (acc:=[]) (hv s v (.head _)) hN rfl]
  by_cases hd:depthV v≤n
  ·rw [if_pos hd]
   simp only
   rw [members_back n l ([]++[Mem.mk s v]) _ r (fun s v hx=>hv s v (.tail _ hx)) (by simpa [nmM] using hs2) (by simp only [List.length_append,List.length_cons];omega)]
   by_cases ha:∀ v ∈ l,depthM v≤n
   ·rw [if_pos ha,if_pos (fun x hx=>by rcases List.mem_cons.1 hx with e|e;rw [e];exact hd;exact ha x e)]
    rfl
   ·rw [if_neg ha,if_neg (fun h=>ha fun x hx=>h x (.tail _ hx))]
  ·rw [if_neg hd]
   rw [if_neg (fun h=>hd (by have:=h _ (.head _);simpa [depthM] using this))]
theorem right_items:∀ {l:List Val},allVs validD l=true→singVs l=true→∀ v ∈ l,rightV v=true
 | v :: l,h,h',x,hx=>by
  simp only [allVs,singVs,Bool.and_eq_true] at h h'
  rcases List.mem_cons.1 hx with e|e
  ·subst e;simp [rightV,goodV,h.1,h'.1]
  ·exact right_items h.2 h'.2 x e
theorem right_mems:∀ {l:List Mem} {ns:List (List UInt8)},allMs validD l=true→singMs ns l=true→∀ s v,Mem.mk s v ∈ l→validD s=true∧rightV v=true
 | .mk t w :: l,ns,h,h',s,v,hx=>by
  simp only [allMs,allM,singMs,singM,nmM,Bool.and_eq_true] at h h'
  rcases List.mem_cons.1 hx with e|e
  ·cases e;exact ⟨h.1.1,by simp [rightV,goodV,h.1.2,h'.2.1]⟩
  ·exact right_mems h.2 h'.2.2 s v e
theorem word_null (r:List UInt8) (p):headM (110 :: 117 :: 108 :: 108 :: r) p=.ok (nullV,r):=by
 simp only [headM]
 rw [if_neg (by decide),if_neg (by decide),if_neg (by decide),if_neg (by decide)]
 simp only [wordM,mayM,skB_no (show bk 110=false by decide)]
 rw [if_pos (by simp [List.isPrefixOf])];rfl
theorem word_bool (b:Bool) (r:List UInt8) (p):headM (boolT b++r) p=.ok (.mk 1 (if b then 1 else 0) [] [] [],r):=by
 cases b
 ·simp only [boolT,Bool.false_eq_true,if_false,List.cons_append,List.nil_append,headM]
  rw [if_neg (by decide),if_neg (by decide),if_neg (by decide),if_neg (by decide)]
  simp only [wordM,mustM,mayM,skB_no (show bk 102=false by decide)]
  rw [if_neg (by simp [List.isPrefixOf]),if_neg (by simp [List.isPrefixOf]),if_pos (by simp [List.isPrefixOf])];rfl
 ·simp only [boolT,if_true,List.cons_append,List.nil_append,headM]
  rw [if_neg (by decide),if_neg (by decide),if_neg (by decide),if_neg (by decide)]
  simp only [wordM,mustM,mayM,skB_no (show bk 116=false by decide)]
  rw [if_neg (by simp [List.isPrefixOf]),if_pos (by simp [List.isPrefixOf])];rfl
theorem headM_num {c:UInt8} {t:List UInt8} (h:nst c=true) (p):headM (c :: t) p=numM (c :: t):=by
 have h3:=nst_other c h
 simp only [headM]
 rw [if_neg h3.2.1,if_neg h3.2.2.1,if_neg h3.2.2.2.1,if_pos h]
theorem back:∀ v,rightV v=true→wfV v→∀ n,BackV n v:=by
 refine Val.ind fun k n s l m ihl ihm h hwf q r hr=>?_
 obtain ⟨hn,hwl,hwm⟩:=hwf
 have flat:∀ {v:Val},depthV v=0→depthV v≤(q:Int):=fun e=>by rw [e];omega
 generalize hv:Val.mk k n s l m=v at h
 cases jshape v h with
 | null =>
  rw [if_pos (flat (by simp [depthV]))]
  have e:putV (.mk 0 0 [] [] [])++r=110 :: 117 :: 108 :: 108 :: r:=by simp [putV]
  rw [e]
  obtain ⟨p,hp⟩:=valM_hd (k:=q) (c:=110) (t:=117 :: 108 :: 108 :: r) (by decide) (by decide) (by decide)
  rw [hp,word_null];rfl
 | bool b hb =>
  rw [if_pos (flat (by simp [depthV]))]
  have e:putV (.mk 1 b [] [] [])++r=boolT (decide (b=1))++r:=by simp [putV]
  rw [e]
  have h1:=word_bool (decide (b=1)) r
  have e1:(if decide (b=1)=true then (1:Int) else 0)=b:=by rcases hb with rfl|rfl<;>decide
  rw [e1] at h1
  rcases hb with rfl|rfl
  ·obtain ⟨p,hp⟩:=valM_hd (k:=q) (c:=102) (t:=97 :: 108 :: 115 :: 101 :: r) (by decide) (by decide) (by decide)
   exact hp.trans (h1 p)
  ·obtain ⟨p,hp⟩:=valM_hd (k:=q) (c:=116) (t:=114 :: 117 :: 101 :: r) (by decide) (by decide) (by decide)
   exact hp.trans (h1 p)
 | int b =>
  rw [if_pos (flat (by simp [depthV]))]
  have e:putV (.mk 2 b [] [] [])++r=itoa b++r:=by simp [putV]
  rw [e]
  have hb:inR b:=by cases hv;exact hn
  have h0:numK (itoa b)≠0:=by rw [itoa_numK];decide
  have h1:=numM_q h0 hr
  obtain ⟨c,t,h2,h3⟩:=(num_text h0).2
  have h4:=nst_other c h3
  rw [h2] at h1 ⊢
  obtain ⟨p,hp⟩:=valM_hd (k:=q) (c:=c) (t:=t++r) h4.1 h4.2.1 h4.2.2.1
  rw [List.cons_append] at h1 ⊢
  rw [hp,headM_num h3,h1,← h2]
  simp [numV,itoa_whole hb]
 | num s hs =>
  rw [if_pos (flat (by simp [depthV]))]
  have e:putV (.mk 3 0 s [] [])++r=s++r:=by simp [putV]
  rw [e]
  have h0:=numB_ne hs
  have h1:=numM_q h0.1 hr
  obtain ⟨c,t,h2,h3⟩:=(num_text h0.1).2
  have h4:=nst_other c h3
  have e2:numV s=.mk 3 0 s [] []:=by simp [numV,h0.2]
  rw [e2] at h1
  subst h2
  obtain ⟨p,hp⟩:=valM_hd (k:=q) (c:=c) (t:=t++r) h4.1 h4.2.1 h4.2.2.1
  rw [List.cons_append] at h1 ⊢
  rw [hp,headM_num h3,h1]
 | text s hs =>
  rw [if_pos (flat (by simp [depthV]))]
  have e:putV (.mk 4 0 s [] [])++r=quoteM s++r:=by simp [putV]
  rw [e]
  have h1:=textM_q s r
  have e2:quoteM s++r=34 :: (s.flatMap qB++[34]++r):=by simp [quoteM]
  rw [e2] at h1 ⊢
  obtain ⟨p,hp⟩:=valM_hd (k:=q) (c:=34) (t:=s.flatMap qB++[34]++r) (by decide) (by decide) (by decide)
  rw [hp]
  simp only [headM]
  rw [if_neg (by decide),if_neg (by decide),if_pos trivial,h1];rfl
 | list l' h1 h2 =>
  cases hv
  have e:putV (.mk 6 0 [] l [])++r=91 :: (putVs true l++93 :: r):=by simp [putV]
  have ed:depthV (.mk 6 0 [] l [])=depthVs l 0+1:=by simp [depthV]
  rw [e,ed]
  have h3:=right_items h1 h2
  have h4:=(depthVs_iff 0 l 0)
  cases q with
  | zero =>
   have h5:(0:Int)≤depthVs l 0:=(depthVs_le l 0).1
   rw [if_neg (by simp;omega)]
   simp only [valM,skB_no (show bk 91=false by decide)]
   rw [if_pos (by simp)]
  | succ q =>
   simp only [valM,skB_no (show bk 91=false by decide),headM]
   rw [if_neg (by decide),if_pos trivial,list_back q l r (fun v hx=>ihl v hx (h3 v hx) (wfVs_mem hwl v hx) q) h3]
   have h5:=depthVs_iff (q:Int) l 0
   by_cases ha:∀ v ∈ l,depthV v≤(q:Int)
   ·rw [if_pos ha,if_pos (by have:=h5.2 ⟨by omega,ha⟩;simp;omega)]
   ·rw [if_neg ha,if_neg (fun h6=>ha (h5.1 (by simp at h6;omega)).2)]
 | obj l' h1 h2 =>
  cases hv
  have e:putV (.mk 7 0 [] [] m)++r=123 :: (putMs true m++125 :: r):=by simp [putV]
  have ed:depthV (.mk 7 0 [] [] m)=depthMs m 0+1:=by simp [depthV]
  rw [e,ed]
  have h3:=right_mems h1 h2
  cases q with
  | zero =>
   have h5:(0:Int)≤depthMs m 0:=(depthMs_le m 0).1
   rw [if_neg (by simp;omega)]
   simp only [valM,skB_no (show bk 123=false by decide)]
   rw [if_pos (by simp)]
  | succ q =>
   simp only [valM,skB_no (show bk 123=false by decide),headM]
   rw [if_pos trivial,map_back q m r (fun s v hx=>ihm s v hx (h3 s v hx).2 (wfMs_mem hwm s v hx) q) h2]
   have h5:=depthMs_iff (q:Int) m 0
   by_cases ha:∀ v ∈ m,depthM v≤(q:Int)
   ·rw [if_pos ha,if_pos (by have:=h5.2 ⟨by omega,ha⟩;simp;omega)]
   ·rw [if_neg ha,if_neg (fun h6=>ha (h5.1 (by simp at h6;omega)).2)]
end Go.Proofs.YticbbfbpeimkbaaGreatDoor
namespace Go.Proofs.YticbbfbpeimkbaaGreatDoor
open Go.Ab
theorem isP_cons (m:List UInt8) (x:Tok) (t:TS):isP m (x :: t)=(decide (x.k=1) && decide (x.s=m)):=rfl
theorem isP_pk (m n:List UInt8) (t:TS):isP m (pk n :: t)=decide (n=m):=by simp [isP_cons,pk]
end Go.Proofs.YticbbfbpeimkbaaGreatDoor
namespace Go.Proofs.YticbbfbpeimkbaaGreatDoor
open Go.Ab
def lvlB (i:Nat) (m:Int) (t:TS):Int × TS:=if isP [33] t then (m+2 ^ i,t.tail) else (m,t)
def lvlM (n i:Nat) (t:TS):PR Unit:=if i<n then mustP [93] t else .ok ((),t)
def tyL (n:Nat):Nat→Int→TS→PR Int
 | 0,m,t=>pb (lvlM n 0 t) fun _ t=>.ok (lvlB 0 m t)
 | i+1,m,t=>pb (lvlM n (i+1) t) fun _ t=>tyL n i (lvlB (i+1) m t).1 (lvlB (i+1) m t).2
theorem lvlM_s (n i:Nat) (t:TS):lvlM (n+1) (i+1) t=lvlM n i t:=by
 unfold lvlM
 by_cases h:i<n
 ·rw [if_pos h,if_pos (by omega)]
 ·rw [if_neg h,if_neg (by omega)]
theorem lvlB_s (i:Nat) (m:Int) (t:TS):lvlB (i+1) (m*2) t=((lvlB i m t).1*2,(lvlB i m t).2):=by
 unfold lvlB
 split
 ·simp only [Prod.mk.injEq,and_true];rw [Int.pow_succ];omega
 ·rfl
theorem tyL_s (n:Nat):∀ (i:Nat) (m:Int) (t:TS),tyL (n+1) (i+1) (m*2) t=pb (tyL n i m t) fun m t=>pb (mustP [93] t) fun _ t=>.ok (lvlB 0 (m*2) t)
 | 0,m,t=>by
  have e:∀ (m:Int) (t:TS),tyL (n+1) 0 m t=pb (mustP [93] t) fun _ t=>.ok (lvlB 0 m t):=fun m t=>by rw [tyL,lvlM,if_pos (Nat.succ_pos n)]
  have e1:tyL (n+1) (0+1) (m*2) t=pb (lvlM n 0 t) fun _ t=>tyL (n+1) 0 (lvlB (0+1) (m*2) t).1 (lvlB (0+1) (m*2) t).2:=by conv=>lhs;rw [tyL,lvlM_s]
  have e2:tyL n 0 m t=pb (lvlM n 0 t) fun _ t=>.ok (lvlB 0 m t):=by rw [tyL]
  rw [e1,e2]
  rcases lvlM n 0 t with x|⟨_,t1⟩
  ·rfl
  ·simp only [pb_ok]
   rw [lvlB_s,e]
   rfl
 | i+1,m,t=>by
  have e1:tyL (n+1) (i+1+1) (m*2) t=pb (lvlM n (i+1) t) fun _ t=>tyL (n+1) (i+1) (lvlB (i+1+1) (m*2) t).1 (lvlB (i+1+1) (m*2) t).2:=by conv=>lhs;rw [tyL,lvlM_s]
  have e2:tyL n (i+1) m t=pb (lvlM n (i+1) t) fun _ t=>tyL n i (lvlB (i+1) m t).1 (lvlB (i+1) m t).2:=by rw [tyL]
  rw [e1,e2]
  rcases lvlM n (i+1) t with x|⟨_,t1⟩
  ·rfl
  ·simp only [pb_ok]
   rw [lvlB_s,tyL_s n i]
theorem typP_iter:∀ (n k:Nat) (u:TS),n≤k→isP [91] u=false→typP k (List.replicate n (pk [91])++u)=pb (nameP u) fun s t=>pb (tyL n n 0 t) fun m t=>.ok (⟨s,n,m⟩,t)
 | 0,k,u,_,hu=>by
  rw [List.replicate_zero,List.nil_append,typP_eq,typB.eq_def,hu]
  simp only [Bool.false_eq_true,if_false]
  rcases nameP u with x|⟨s,t⟩
  ·rfl
  ·simp only [pb_ok,tyL,lvlM,Nat.lt_irrefl,if_false]
   unfold bangP lvlB
   cases isP [33] t<;>simp [pb]
 | n+1,0,u,h,_=>by omega
 | n+1,k+1,u,h,hu=>by
  rw [List.replicate_succ,List.cons_append,typP_eq,typB.eq_def,isP_pk,predP_s]
  simp only [decide_true,if_true,List.tail_cons]
  rw [typP_iter n k u (by omega) hu]
  rcases nameP u with x|⟨s,t⟩
  ·rfl
  ·simp only [pb_ok]
   have e:=tyL_s n n 0 t
   rw [Int.zero_mul] at e
   rw [e]
   rcases tyL n n 0 t with x|⟨m,t1⟩
   ·rfl
   ·simp only [pb_ok]
    rcases mustP [93] t1 with x|⟨_,t2⟩
    ·rfl
    ·simp only [pb_ok]
     unfold bangP lvlB
     cases isP [33] t2<;>simp [pb]
def tyN (n:Nat):Nat→Int→TS→PR Int
 | 0,m,t=>.ok (m,t)
 | i+1,m,t=>tyL n i m t
theorem tyL_eq (n i:Nat) (m:Int) (t:TS):tyL n i m t=pb (lvlM n i t) fun _ t=>tyN n i (lvlB i m t).1 (lvlB i m t).2:=by cases i<;>rfl
theorem typP_deep:∀ (k:Nat) (u:TS),isP [91] u=true→typP k (List.replicate k (pk [91])++u)=.error 4
 | 0,u,hu=>by rw [List.replicate_zero,List.nil_append,typP_eq,typB.eq_def,hu];rfl
 | k+1,u,hu=>by
  rw [List.replicate_succ,List.cons_append,typP_eq,typB.eq_def,isP_pk,predP_s]
  simp only [decide_true,if_true,List.tail_cons]
  rw [typP_deep k u hu];rfl
theorem isP_eq {m:List UInt8} {t:TS} (h:isP m t=true):t=pk m :: t.tail:=by
 have h2:=hd_tail (isP_ne h)
 simp only [isP,Bool.and_eq_true,decide_eq_true_eq] at h
 rw [h2]
 congr 1
 cases hx:hdT t with|mk k s=>rw [hx] at h;simp only at h;rw [h.1,h.2];rfl
theorem rep_snoc (n:Nat) (x:Tok) (u:TS):List.replicate n x++x :: u=List.replicate (n+1) x++u:=by
 rw [List.replicate_succ',List.append_assoc];rfl
theorem orTy:∀ i:Fin 5,∀ m:Fin 32,m.val % 2 ^ (i.val+1)=0→IntKind.wrap .i64 ((BitVec.ofInt IntKind.i64.bits ((m.val:Nat):Int) ||| BitVec.ofInt IntKind.i64.bits (((2 ^ i.val:Nat)):Int)).toNat:Int)=((m.val+2 ^ i.val:Nat):Int):=by decide +kernel
theorem shTy:∀ i:Fin 5,IntKind.wrap .i64 (1*2 ^ min i.val IntKind.i64.bits)=((2 ^ i.val:Nat):Int):=by decide +kernel
theorem orTyB:∀ i:Fin 5,∀ m:Fin 32,m.val % 2 ^ (i.val+1)=0→m.val+2 ^ i.val<32∧(m.val+2 ^ i.val) % 2 ^ i.val=0:=by decide +kernel
abbrev zT:List AV:=[.str [],.int .i64 0,.int .i64 0]
theorem typePC {H:Heap} {r:Nat} {L p t:TS} {dp:Nat} (hs:p++t=L) (hl:wT L≤LimP) (hr:H r=some (prc L p dp)) :
  ACalls Tryz.prog 100 [.ptr r 0] H (RpE H r L dp (typP 4 t) (fun x=>.agg (cTy x))):=by
 refine retStrip (ACalls.goO (R:=fun v H'=>RetQ H r L dp (typP 4 t) (fun x=>.agg (cTy x)) v.strip H') (RP:=fun v H'=>PanQ (typP 4 t) v H') ir100 ck100 (Nat.le_refl _) fun KP Q hQ hP=>?_)
 have hll:L.length≤LimP:=Nat.le_trans (len_w L) hl
 have hll2:=hll
 simp only [LimP] at hll2
 have pan:∀ (v:AV) (H1:Heap) (n:Int),v=stopP n→typP 4 t=.error n→KP v H1:=fun v H1 n h1 h2=>hP v H1 H1 (Low.refl _) ⟨n,h2,h1⟩
 have fin:=KI.done hQ
 have K0:=KI.start hs hr
 simp (disch:=first|omega|assumption) only [ir100,steps,st2,pev,rev,oev,optr,ibin,sbin,ishf,bound,mmAll,mm2,mk,mkArgs,AV.cells,AV.boxable,AV.one,AV.strip1,fillA,fillS,Nat.reduceEqDiff,reduceCtorEq,↓reduceIte,Nat.reduceAdd,Int.reduceNeg,Nat.reduceLeDiff,Int.reduceToNat,Int.reduceEq,Int.reduceLT,Int.reduceLE,Int.reduceAdd,Io,Im,If,Il,Jt,Jf]
 refine goA_intro fun b2 hb2=>?_
 have n2:=K0.ne hb2
 have n2s:=Ne.symm n2
 have K1:=K0.box (x:=.cells zT) hb2
 simp (disch:=first|omega|assumption) only [steps,st2,pev,rev,oev,optr,ibin,sbin,ishf,bound,mmAll,mm2,mk,mkArgs,AV.cells,AV.boxable,AV.one,AV.strip1,fillA,fillS,Nat.reduceEqDiff,reduceCtorEq,↓reduceIte,Nat.reduceAdd,Int.reduceNeg,Nat.reduceLeDiff,Int.reduceToNat,Int.reduceEq,Int.reduceLT,Int.reduceLE,Int.reduceAdd,Io,Im,If,Il,Jt,Jf]
 refine goL_st (fun x:Nat × TS=>[(3,.int .i64 (x.1:Int))]) (fun x H'=>KI H r L x.2 dp H'∧H' b2=some (.cells zT)∧x.1≤4∧t=List.replicate x.1 (pk [91])++x.2) (fun x=>x.2.length) (0,t) (by simp (disch:=first|omega|assumption) only [steps,st2,pev,rev,oev,optr,ibin,sbin,ishf,bound,mmAll,mm2,mk,mkArgs,AV.cells,AV.boxable,AV.one,AV.strip1,fillA,fillS,Nat.reduceEqDiff,reduceCtorEq,↓reduceIte,Nat.reduceAdd,Int.reduceNeg,Nat.reduceLeDiff,Int.reduceToNat,Int.reduceEq,Int.reduceLT,Int.reduceLE,Int.reduceAdd,Io,Im,If,Il,Jt,Jf]) ⟨K1,upd_same ..,Nat.zero_le _,rfl⟩ ?_
 rintro ⟨n,u⟩ H1 J ⟨K2,g2,hn4,htu⟩ hJ
 simp only at K2 g2 hn4 htu
 obtain ⟨p2,hp2,hr2⟩:=K2.here
 have hpl2:p2.length+u.length=L.length:=by rw [← hp2];simp
 have hr2':=hr2
 simp only [prc] at hr2'
 simp (disch:=first|omega|assumption) only [steps,st2,pev,rev,oev,optr,ibin,sbin,ishf,bound,mmAll,mm2,mk,mkArgs,AV.cells,AV.boxable,AV.one,AV.strip1,fillA,fillS,Nat.reduceEqDiff,reduceCtorEq,↓reduceIte,Nat.reduceAdd,Int.reduceNeg,Nat.reduceLeDiff,Int.reduceToNat,Int.reduceEq,Int.reduceLT,Int.reduceLE,Int.reduceAdd,Io,Im,If,Il,Jt,Jf]
 refine goK_ret (isPC hp2 hr2 [91]) fun v H2 ⟨hv2,hH⟩=>?_
 subst hv2;subst hH
 cases hi:isP [91] u with
 | true =>
  by_cases h4:n=4
  ·have h4':((n:Int)=4)=True:=eq_true (by omega)
   simp (disch:=first|omega|assumption) only [h4',steps,st2,pev,rev,oev,optr,ibin,sbin,ishf,bound,mmAll,mm2,mk,mkArgs,AV.cells,AV.boxable,AV.one,AV.strip1,fillA,fillS,Nat.reduceEqDiff,reduceCtorEq,↓reduceIte,Nat.reduceAdd,Int.reduceNeg,Nat.reduceLeDiff,Int.reduceToNat,Int.reduceEq,Int.reduceLT,Int.reduceLE,Int.reduceAdd,Io,Im,If,Il,Jt,Jf]
   exact goK_both (failP _ r 4) (fun _ _ h=>h.elim) fun v H3 h=>pan v H3 4 h (by rw [htu,h4];exact typP_deep 4 u hi)
  ·have h4':¬ ((n:Int)=4):=by omega
   have hlt:=tail_lt hi
   simp (disch:=first|omega|assumption) only [h4',hr2',wrap64,steps,st2,pev,rev,oev,optr,ibin,sbin,ishf,bound,mmAll,mm2,mk,mkArgs,AV.cells,AV.boxable,AV.one,AV.strip1,fillA,fillS,Nat.reduceEqDiff,reduceCtorEq,↓reduceIte,Nat.reduceAdd,Int.reduceNeg,Nat.reduceLeDiff,Int.reduceToNat,Int.reduceEq,Int.reduceLT,Int.reduceLE,Int.reduceAdd,Io,Im,If,Il,Jt,Jf]
   refine goJ (hJ (n+1,u.tail) _ hlt ⟨K2.call (prc_on hp2 (isP_ne hi) _),by rw [upd_ne n2s];exact g2,by simp only;omega,?_⟩) (by simp (disch:=first|omega|assumption) only [Int.natCast_add,steps,st2,pev,rev,oev,optr,ibin,sbin,ishf,bound,mmAll,mm2,mk,mkArgs,AV.cells,AV.boxable,AV.one,AV.strip1,fillA,fillS,Nat.reduceEqDiff,reduceCtorEq,↓reduceIte,Nat.reduceAdd,Int.reduceNeg,Nat.reduceLeDiff,Int.reduceToNat,Int.reduceEq,Int.reduceLT,Int.reduceLE,Int.reduceAdd,Io,Im,If,Il,Jt,Jf])
   simp only
   rw [← rep_snoc,← isP_eq hi];exact htu
 | false =>
  have hx:typP 4 t=pb (nameP u) fun s t=>pb (tyL n n 0 t) fun m t=>.ok (⟨s,n,m⟩,t):=by rw [htu];exact typP_iter n 4 u hn4 hi
  simp (disch:=first|omega|assumption) only [steps,st2,pev,rev,oev,optr,ibin,sbin,ishf,bound,mmAll,mm2,mk,mkArgs,AV.cells,AV.boxable,AV.one,AV.strip1,fillA,fillS,Nat.reduceEqDiff,reduceCtorEq,↓reduceIte,Nat.reduceAdd,Int.reduceNeg,Nat.reduceLeDiff,Int.reduceToNat,Int.reduceEq,Int.reduceLT,Int.reduceLE,Int.reduceAdd,Io,Im,If,Il,Jt,Jf]
  refine goK_both (namePC hp2 hll hr2) (fun v H3 ⟨s,t3,e3,hv3,ha3⟩=>?_) fun v H3 ⟨n3,e3,hv3⟩=>pan v H3 n3 hv3 (by rw [hx,e3];rfl)
  subst hv3
  rw [e3,pb_ok] at hx
  have K3:=K2.call ha3
  have g32:H3 b2=some (.cells zT):=by rw [ha3.other n2s,g2]
  simp (disch:=first|omega|assumption) only [steps,st2,pev,rev,oev,optr,ibin,sbin,ishf,bound,mmAll,mm2,mk,mkArgs,AV.cells,AV.boxable,AV.one,AV.strip1,fillA,fillS,Nat.reduceEqDiff,reduceCtorEq,↓reduceIte,Nat.reduceAdd,Int.reduceNeg,Nat.reduceLeDiff,Int.reduceToNat,Int.reduceEq,Int.reduceLT,Int.reduceLE,Int.reduceAdd,Io,Im,If,Il,Jt,Jf]
  refine goA_intro fun b4 hb4=>?_
  have h42:b4≠b2:=fun e=>by subst e;rw [g32] at hb4;cases hb4
  have hb4H:H b4=none:=K3.none hb4
  have n4:=K0.ne hb4H
  have n4s:=Ne.symm n4
  have K4:=K3.box (x:=.cells [.str s,.int .i64 (n:Int),.int .i64 0]) hb4H
  obtain ⟨R,hR⟩:∃ R,tyL n n 0 t3=R:=⟨_,rfl⟩
  rw [hR] at hx
  simp (disch:=first|omega|assumption) only [steps,st2,pev,rev,oev,optr,ibin,sbin,ishf,bound,mmAll,mm2,mk,mkArgs,AV.cells,AV.boxable,AV.one,AV.strip1,fillA,fillS,Nat.reduceEqDiff,reduceCtorEq,↓reduceIte,Nat.reduceAdd,Int.reduceNeg,Nat.reduceLeDiff,Int.reduceToNat,Int.reduceEq,Int.reduceLT,Int.reduceLE,Int.reduceAdd,Io,Im,If,Il,Jt,Jf]
  have hj0:((n:Int):Int)=(((n+1:Nat):Int)-1):=by omega
  refine goL_st (fun x:Nat × Nat × TS=>[(5,.int .i64 ((x.1:Int)-1))]) (fun x H'=>KI H r L x.2.2 dp H'∧H' b2=some (.cells zT)∧H' b4=some (.cells [.str s,.int .i64 (n:Int),.int .i64 (x.2.1:Int)])∧x.1≤n+1∧x.2.1<32∧x.2.1 % 2 ^ x.1=0∧tyN n x.1 (x.2.1:Int) x.2.2=R) (fun x=>x.1) (n+1,0,t3) (by rw [← hj0];simp (disch:=first|omega|assumption) only [steps,st2,pev,rev,oev,optr,ibin,sbin,ishf,bound,mmAll,mm2,mk,mkArgs,AV.cells,AV.boxable,AV.one,AV.strip1,fillA,fillS,Nat.reduceEqDiff,reduceCtorEq,↓reduceIte,Nat.reduceAdd,Int.reduceNeg,Nat.reduceLeDiff,Int.reduceToNat,Int.reduceEq,Int.reduceLT,Int.reduceLE,Int.reduceAdd,Io,Im,If,Il,Jt,Jf]) ⟨K4,by rw [upd_ne (Ne.symm h42)];exact g32,upd_same ..,Nat.le_refl _,by show 0<32;decide,Nat.zero_mod _,hR⟩ ?_
  rintro ⟨j,m,u5⟩ H5 J5 ⟨K5,g52,g54,hj,hm,hmd,he⟩ hJ5
  simp only at K5 g52 g54 hj hm hmd he
  obtain ⟨p5,hp5,hr5⟩:=K5.here
  cases j with
  | zero =>
   have hneg:¬ ((0:Int)≤-1):=by decide
   have hz1:(0:Int)-1=-1:=rfl
   have e1:R=.ok ((m:Int),u5):=he.symm
   simp only [zT] at g52
   simp (disch:=first|omega|assumption) only [hz1,hneg,g52,g54,h42,Ne.symm h42,steps,st2,pev,rev,oev,optr,ibin,sbin,ishf,bound,mmAll,mm2,mk,mkArgs,AV.cells,AV.boxable,AV.one,AV.strip1,fillA,fillS,Nat.reduceEqDiff,reduceCtorEq,↓reduceIte,Nat.reduceAdd,Int.reduceNeg,Nat.reduceLeDiff,Int.reduceToNat,Int.reduceEq,Int.reduceLT,Int.reduceLE,Int.reduceAdd,Io,Im,If,Il,Jt,Jf]
   exact fin _ _ [.agg [.str s,.int .i64 (n:Int),.int .i64 (m:Int)]] ⟨s,n,m⟩ u5 (by simp (disch:=first|omega|assumption) only [ir100,resvs,resv,steps,st2,pev,rev,oev,optr,ibin,sbin,ishf,bound,mmAll,mm2,mk,mkArgs,AV.cells,AV.boxable,AV.one,AV.strip1,fillA,fillS,Nat.reduceEqDiff,reduceCtorEq,↓reduceIte,Nat.reduceAdd,Int.reduceNeg,Nat.reduceLeDiff,Int.reduceToNat,Int.reduceEq,Int.reduceLT,Int.reduceLE,Int.reduceAdd,Io,Im,If,Il,Jt,Jf]) (by rw [hx,e1];rfl) (K5.box hb2) (by simp [tupOf,AV.strip,AV.strip1,cTy])
  | succ i =>
   have hge:((0:Int)≤(((i+1:Nat):Int)-1))=True:=eq_true (by omega)
   have hi5:(((i+1:Nat):Int)-1)=(i:Int):=by omega
   have e1:tyL n i (m:Int) u5=R:=he
   rw [tyL_eq,lvlM] at e1
   by_cases hin:i<n
   ·have hin':((i:Int)<(n:Int))=True:=eq_true (by omega)
    rw [if_pos hin] at e1
    simp (disch:=first|omega|assumption) only [hge,hi5,hin',steps,st2,pev,rev,oev,optr,ibin,sbin,ishf,bound,mmAll,mm2,mk,mkArgs,AV.cells,AV.boxable,AV.one,AV.strip1,fillA,fillS,Nat.reduceEqDiff,reduceCtorEq,↓reduceIte,Nat.reduceAdd,Int.reduceNeg,Nat.reduceLeDiff,Int.reduceToNat,Int.reduceEq,Int.reduceLT,Int.reduceLE,Int.reduceAdd,Io,Im,If,Il,Jt,Jf]
    refine goK_both (mustPC hp5 hll hr5 [93]) (fun v H6 ⟨_,t6,e6,hv6,ha6⟩=>?_) fun v H6 ⟨n6,e6,hv6⟩=>pan v H6 n6 hv6 (by rw [hx,← e1,e6];rfl)
    subst hv6
    rw [e6,pb_ok] at e1
    have K6:=K5.call ha6
    have g62:H6 b2=some (.cells zT):=by rw [ha6.other n2s,g52]
    have g64:H6 b4=some (.cells [.str s,.int .i64 (n:Int),.int .i64 (m:Int)]):=by rw [ha6.other n4s,g54]
    obtain ⟨p6,hp6,hr6⟩:=K6.here
    simp (disch:=first|omega|assumption) only [steps,st2,pev,rev,oev,optr,ibin,sbin,ishf,bound,mmAll,mm2,mk,mkArgs,AV.cells,AV.boxable,AV.one,AV.strip1,fillA,fillS,Nat.reduceEqDiff,reduceCtorEq,↓reduceIte,Nat.reduceAdd,Int.reduceNeg,Nat.reduceLeDiff,Int.reduceToNat,Int.reduceEq,Int.reduceLT,Int.reduceLE,Int.reduceAdd,Io,Im,If,Il,Jt,Jf]
    refine goK_ret (mayPC hp6 hll hr6 [33]) fun v H7 ⟨hv7,ha7⟩=>?_
    subst hv7
    have g72:H7 b2=some (.cells zT):=by rw [ha7.other n2s,g62]
    have g74:H7 b4=some (.cells [.str s,.int .i64 (n:Int),.int .i64 (m:Int)]):=by rw [ha7.other n4s,g64]
    have K7:=K6.call ha7
    cases hb:isP [33] t6 with
    | true =>
     simp only [lvlB,hb,if_true] at e1
     rw [mayT,hb,if_pos rfl] at K7
     have ho:=orTy ⟨i,by omega⟩ ⟨m,hm⟩ hmd
     have hob:=orTyB ⟨i,by omega⟩ ⟨m,hm⟩ hmd
     have hsh:=shTy ⟨i,by omega⟩
     simp only at ho hob hsh
     have hi0:¬ ((i:Int)<0):=by omega
     simp (disch:=first|omega|assumption) only [g74,hi0,hsh,ho,steps,st2,pev,rev,oev,optr,ibin,sbin,ishf,bound,mmAll,mm2,mk,mkArgs,AV.cells,AV.boxable,AV.one,AV.strip1,fillA,fillS,Nat.reduceEqDiff,reduceCtorEq,↓reduceIte,Nat.reduceAdd,Int.reduceNeg,Nat.reduceLeDiff,Int.reduceToNat,Int.reduceEq,Int.reduceLT,Int.reduceLE,Int.reduceAdd,Io,Im,If,Il,Jt,Jf]
     refine goJ (hJ5 (i,m+2 ^ i,t6.tail) _ (Nat.lt_succ_self _) ⟨K7.box hb4H,by rw [upd_ne (Ne.symm h42)];exact g72,upd_same ..,by simp only;omega,hob.1,hob.2,by simp only;rw [← e1];simp⟩) (by simp (disch:=first|omega|assumption) only [wrap64,steps,st2,pev,rev,oev,optr,ibin,sbin,ishf,bound,mmAll,mm2,mk,mkArgs,AV.cells,AV.boxable,AV.one,AV.strip1,fillA,fillS,Nat.reduceEqDiff,reduceCtorEq,↓reduceIte,Nat.reduceAdd,Int.reduceNeg,Nat.reduceLeDiff,Int.reduceToNat,Int.reduceEq,Int.reduceLT,Int.reduceLE,Int.reduceAdd,Io,Im,If,Il,Jt,Jf])
    | false =>
     simp only [lvlB,hb,Bool.false_eq_true,if_false] at e1
     rw [mayT,hb] at K7
     simp only [Bool.false_eq_true,if_false] at K7
     have hmd2:m % 2 ^ i=0:=by
      have h3:2 ^ i∣2 ^ (i+1):=⟨2,by rw [Nat.pow_succ]⟩
      exact Nat.mod_eq_zero_of_dvd (Nat.dvd_trans h3 (Nat.dvd_of_mod_eq_zero hmd))
     simp (disch:=first|omega|assumption) only [steps,st2,pev,rev,oev,optr,ibin,sbin,ishf,bound,mmAll,mm2,mk,mkArgs,AV.cells,AV.boxable,AV.one,AV.strip1,fillA,fillS,Nat.reduceEqDiff,reduceCtorEq,↓reduceIte,Nat.reduceAdd,Int.reduceNeg,Nat.reduceLeDiff,Int.reduceToNat,Int.reduceEq,Int.reduceLT,Int.reduceLE,Int.reduceAdd,Io,Im,If,Il,Jt,Jf]
     refine goJ (hJ5 (i,m,t6) _ (Nat.lt_succ_self _) ⟨K7,g72,g74,by simp only;omega,hm,hmd2,e1⟩) (by simp (disch:=first|omega|assumption) only [wrap64,steps,st2,pev,rev,oev,optr,ibin,sbin,ishf,bound,mmAll,mm2,mk,mkArgs,AV.cells,AV.boxable,AV.one,AV.strip1,fillA,fillS,Nat.reduceEqDiff,reduceCtorEq,↓reduceIte,Nat.reduceAdd,Int.reduceNeg,Nat.reduceLeDiff,Int.reduceToNat,Int.reduceEq,Int.reduceLT,Int.reduceLE,Int.reduceAdd,Io,Im,If,Il,Jt,Jf])
   ·have hin':¬ ((i:Int)<(n:Int)):=by omega
    rw [if_neg hin,pb_ok] at e1
    simp (disch:=first|omega|assumption) only [hge,hi5,hin',steps,st2,pev,rev,oev,optr,ibin,sbin,ishf,bound,mmAll,mm2,mk,mkArgs,AV.cells,AV.boxable,AV.one,AV.strip1,fillA,fillS,Nat.reduceEqDiff,reduceCtorEq,↓reduceIte,Nat.reduceAdd,Int.reduceNeg,Nat.reduceLeDiff,Int.reduceToNat,Int.reduceEq,Int.reduceLT,Int.reduceLE,Int.reduceAdd,Io,Im,If,Il,Jt,Jf]
    refine goK_ret (mayPC hp5 hll hr5 [33]) fun v H7 ⟨hv7,ha7⟩=>?_
    subst hv7
    have g72:H7 b2=some (.cells zT):=by rw [ha7.other n2s,g52]
    have g74:H7 b4=some (.cells [.str s,.int .i64 (n:Int),.int .i64 (m:Int)]):=by rw [ha7.other n4s,g54]
    have K7:=K5.call ha7
    cases hb:isP [33] u5 with
    | true =>
     simp only [lvlB,hb,if_true] at e1
     rw [mayT,hb,if_pos rfl] at K7
     have ho:=orTy ⟨i,by omega⟩ ⟨m,hm⟩ hmd
     have hob:=orTyB ⟨i,by omega⟩ ⟨m,hm⟩ hmd
     have hsh:=shTy ⟨i,by omega⟩
     simp only at ho hob hsh
     have hi0:¬ ((i:Int)<0):=by omega
     simp (disch:=first|omega|assumption) only [g74,hi0,hsh,ho,steps,st2,pev,rev,oev,optr,ibin,sbin,ishf,bound,mmAll,mm2,mk,mkArgs,AV.cells,AV.boxable,AV.one,AV.strip1,fillA,fillS,Nat.reduceEqDiff,reduceCtorEq,↓reduceIte,Nat.reduceAdd,Int.reduceNeg,Nat.reduceLeDiff,Int.reduceToNat,Int.reduceEq,Int.reduceLT,Int.reduceLE,Int.reduceAdd,Io,Im,If,Il,Jt,Jf]
     refine goJ (hJ5 (i,m+2 ^ i,u5.tail) _ (Nat.lt_succ_self _) ⟨K7.box hb4H,by rw [upd_ne (Ne.symm h42)];exact g72,upd_same ..,by simp only;omega,hob.1,hob.2,by simp only;rw [← e1];simp⟩) (by simp (disch:=first|omega|assumption) only [wrap64,steps,st2,pev,rev,oev,optr,ibin,sbin,ishf,bound,mmAll,mm2,mk,mkArgs,AV.cells,AV.boxable,AV.one,AV.strip1,fillA,fillS,Nat.reduceEqDiff,reduceCtorEq,↓reduceIte,Nat.reduceAdd,Int.reduceNeg,Nat.reduceLeDiff,Int.reduceToNat,Int.reduceEq,Int.reduceLT,Int.reduceLE,Int.reduceAdd,Io,Im,If,Il,Jt,Jf])
    | false =>
     simp only [lvlB,hb,Bool.false_eq_true,if_false] at e1
     rw [mayT,hb] at K7
     simp only [Bool.false_eq_true,if_false] at K7
     have hmd2:m % 2 ^ i=0:=by
      have h3:2 ^ i∣2 ^ (i+1):=⟨2,by rw [Nat.pow_succ]⟩
      exact Nat.mod_eq_zero_of_dvd (Nat.dvd_trans h3 (Nat.dvd_of_mod_eq_zero hmd))
     simp (disch:=first|omega|assumption) only [steps,st2,pev,rev,oev,optr,ibin,sbin,ishf,bound,mmAll,mm2,mk,mkArgs,AV.cells,AV.boxable,AV.one,AV.strip1,fillA,fillS,Nat.reduceEqDiff,reduceCtorEq,↓reduceIte,Nat.reduceAdd,Int.reduceNeg,Nat.reduceLeDiff,Int.reduceToNat,Int.reduceEq,Int.reduceLT,Int.reduceLE,Int.reduceAdd,Io,Im,If,Il,Jt,Jf]
     refine goJ (hJ5 (i,m,u5) _ (Nat.lt_succ_self _) ⟨K7,g72,g74,by simp only;omega,hm,hmd2,e1⟩) (by simp (disch:=first|omega|assumption) only [wrap64,steps,st2,pev,rev,oev,optr,ibin,sbin,ishf,bound,mmAll,mm2,mk,mkArgs,AV.cells,AV.boxable,AV.one,AV.strip1,fillA,fillS,Nat.reduceEqDiff,reduceCtorEq,↓reduceIte,Nat.reduceAdd,Int.reduceNeg,Nat.reduceLeDiff,Int.reduceToNat,Int.reduceEq,Int.reduceLT,Int.reduceLE,Int.reduceAdd,Io,Im,If,Il,Jt,Jf])
end Go.Proofs.YticbbfbpeimkbaaGreatDoor
