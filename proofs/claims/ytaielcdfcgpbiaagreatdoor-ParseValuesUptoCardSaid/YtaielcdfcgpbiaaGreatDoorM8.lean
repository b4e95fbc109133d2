import Derived.Test.YtaielcdfcgpbiaaGreatDoorRows
import Derived.Test.YtaielcdfcgpbiaaGreatDoorM1
import Derived.Test.YtaielcdfcgpbiaaGreatDoorM2
import Derived.Test.YtaielcdfcgpbiaaGreatDoorM3
import Derived.Test.YtaielcdfcgpbiaaGreatDoorM4
import Derived.Test.YtaielcdfcgpbiaaGreatDoorM5
import Derived.Test.YtaielcdfcgpbiaaGreatDoorM6
import Derived.Test.YtaielcdfcgpbiaaGreatDoorM7
set_option maxRecDepth 100000
set_option linter.all false
namespace Go.Proofs.YtaielcdfcgpbiaaGreatDoor
open Go.Ab Go.Lib
def okC (c:Int):Bool:=decide (c=9)||(decide (c=10)||(decide (c=13)||(decide (32≤c)&&decide (c≤65535))))
theorem zh4 (c:Nat):okC (c:Int)=Ya c:=by
 have h:∀ k:Nat,decide ((c:Int)=(k:Int))=decide (c=k):=fun k=>by rw[decide_eq_decide];omega
 have h1:=h 9
 have h2:=h 10
 have h3:=h 13
 have h4:decide ((32:Int)≤(c:Int))=decide (32≤c):=by rw[decide_eq_decide];omega
 have h5:decide ((c:Int)≤65535)=decide (c≤65535):=by rw[decide_eq_decide];omega
 unfold okC Ya
 rw[← h1,← h2,← h3,← h4,← h5];rfl
theorem zcX:∀(n:Nat) (s:List UInt8),s.length≤n→zcl n s=(validD s&&(ZB n s).all okC)
 | 0,s,h=>by
  obtain rfl:s=[]:=zfT.1 (by omega)
  rfl
 | n+1,s,h=>by
  by_cases hne:s=[]
  ·subst hne;rfl
  ·have hl:0<s.length:=List.length_pos_iff.2 hne
   rw[zcl,if_neg hne,ZB,if_neg hne,List.all_cons,zh4]
   by_cases hk:(zo s).2=0
   ·rw[zcN hne hk,hk];rfl
   ·obtain⟨g1,g2⟩:=zar hne hk
    rw[zcX n _ (by rw[zI];omega),← g1]
    have:decide (0<(zo s).2)=true:=decide_eq_true (by omega)
    rw[this,Bool.true_and]
    cases validD s<;>cases Ya (zo s).1<;>rfl
theorem zbI:∀(n:Nat) (s:List UInt8),(ZB n s).length≤n
 | 0,_=>Al4 _
 | n+1,s=>by
  rw[ZB]
  split
  ·exact Nat.zero_le _
  ·have:=zbI n (s.drop (zo s).2);simp only[Al2];omega
theorem zeF (s:List UInt8):(Ys s).length≤s.length:=by
 unfold Ys;split
 ·exact zbI _ _
 ·exact Nat.zero_le _
theorem zet (s:List UInt8):zab s=(validD s&&(Ys s).all okC):=by
 unfold zab Ys
 rw[zcX _ _ (Al4 _)]
 cases validD s<;>rfl
theorem zh0 (s:List UInt8) (hs:s.length≤Lim):Pure Tryz.prog 86 [.str s] (.bool (zab s)):=by
 refine Pure.go ir86 ck86 (Al4 _) fun KP Q hQ=>?_
 have hs':=hs
 simp only[Lim] at hs
 simp(disch:=first|omega|assumption) only[ir86,go_sem]
 refine goK_pure (ziJ s hs') ?_
 rw[zet] at hQ
 have hlen:=zeF s
 generalize Ys s=l at *
 have hcl:=zhj l
 simp(disch:=first|omega|assumption) only[go_sem]
 refine goL_st (fun i:Nat=>[(5,.int .i64 i)]) (fun i H=>l.all okC=(l.drop i).all okC∧i≤l.length) (fun i=>l.length-i) 0 (by simp(disch:=first|omega|assumption) only[go_sem]) ⟨by simp,by omega⟩ ?_
 rintro i H J ⟨hn,hle⟩ hJ
 by_cases hlt:i<l.length
 case neg =>
  have hlt':¬ ((i:Int)<l.length):=by omega
  rw[List.drop_of_length_le (by omega)] at hn
  simp(disch:=first|omega|assumption) only[hlt',hcl,go_sem]
  exact hQ _ _ _ _ nofun rfl (by simp[tupOf,envOf,AV.strip,AV.strip1,hn])
 have hlt':((i:Int)<l.length)=True:=eq_true (by omega)
 obtain⟨c,hc⟩:∃ c,l[i]?=some c:=⟨_,Al9 hlt⟩
 have hg:(cZ l).getD i []=[.int .i64 c]:=by simp[cZ,List.getD,hc]
 have hd:l.drop i=c::l.drop (i+1):=by rw[List.drop_eq_getElem_cons hlt];rw[Al9 hlt] at hc;cases hc;rfl
 rw[hd,List.all_cons] at hn
 by_cases h32:c<32
 ·have h65:¬ (65535<c):=by omega
  by_cases h9:c=9
  ·have hk:okC c=true:=by rw[h9];rfl
   rw[hk,Bool.true_and] at hn
   simp(disch:=first|omega|assumption) only[hlt',hcl,hg,h32,h9,h65,go_sem]
   exact goJ (hJ (i+1) _ (by omega) ⟨hn,by omega⟩) (by simp(disch:=first|omega|assumption) only[wrap64,Int.natCast_add,go_sem])
  by_cases h10:c=10
  ·have hk:okC c=true:=by rw[h10];rfl
   rw[hk,Bool.true_and] at hn
   simp(disch:=first|omega|assumption) only[hlt',hcl,hg,h32,h9,h10,h65,go_sem]
   exact goJ (hJ (i+1) _ (by omega) ⟨hn,by omega⟩) (by simp(disch:=first|omega|assumption) only[wrap64,Int.natCast_add,go_sem])
  by_cases h13:c=13
  ·have hk:okC c=true:=by rw[h13];rfl
   rw[hk,Bool.true_and] at hn
   simp(disch:=first|omega|assumption) only[hlt',hcl,hg,h32,h9,h10,h13,h65,go_sem]
   exact goJ (hJ (i+1) _ (by omega) ⟨hn,by omega⟩) (by simp(disch:=first|omega|assumption) only[wrap64,Int.natCast_add,go_sem])
  have hk:okC c=false:=by
   have h:¬ (32≤c):=by omega
   simp[okC,h9,h10,h13,h]
  rw[hk,Bool.false_and] at hn
  rw[hn,Bool.and_false] at hQ
  simp(disch:=first|omega|assumption) only[hlt',hcl,hg,h32,h9,h10,h13,go_sem]
  exact hQ _ _ _ _ nofun rfl (by simp[tupOf,envOf,AV.strip,AV.strip1])
 ·by_cases h65:65535<c
  ·have hk:okC c=false:=by
    have h1:¬ (c=9):=by omega
    have h2:¬ (c=10):=by omega
    have h3:¬ (c=13):=by omega
    have h4:¬ (c≤65535):=by omega
    simp[okC,h1,h2,h3,h4]
   rw[hk,Bool.false_and] at hn
   rw[hn,Bool.and_false] at hQ
   simp(disch:=first|omega|assumption) only[hlt',hcl,hg,h32,h65,go_sem]
   exact hQ _ _ _ _ nofun rfl (by simp[tupOf,envOf,AV.strip,AV.strip1])
  ·have hk:okC c=true:=by
    have h3:32≤c:=by omega
    have h4:c≤65535:=by omega
    simp[okC,h3,h4]
   rw[hk,Bool.true_and] at hn
   simp(disch:=first|omega|assumption) only[hlt',hcl,hg,h32,h65,go_sem]
   exact goJ (hJ (i+1) _ (by omega) ⟨hn,by omega⟩) (by simp(disch:=first|omega|assumption) only[wrap64,Int.natCast_add,go_sem])
def SkQ (s:List UInt8) (i j:Nat):Prop:=i≤j∧j≤s.length∧(∀ l,yP l (s.drop i)=yP l (s.drop j))∧(validD (s.drop i)=true→validD (s.drop j)=true)
theorem SkQ.refl {s:List UInt8} {i:Nat} (h:i≤s.length):SkQ s i i:=⟨Al4 _,h,fun _=>rfl,fun h=>h⟩
theorem SkQ.gap {s:List UInt8} {i j:Nat} (h:SkQ s i j) (hj:j<s.length) (hg:yB (s.drop j)≠0):SkQ s i (j+yB (s.drop j)):=by
 have h1:=zas (s.drop j)
 rw[zI] at h1
 have hne:s.drop j≠[]:=fun e=>by have:=congrArg List.length e;simp at this;omega
 refine⟨by have:=h.1;omega,by omega,fun l=>?_,fun hv=>?_⟩
 ·rw[h.2.2.1 l,zcG hne hg,List.drop_drop]
 ·rw[← List.drop_drop];exact zd3 (h.2.2.2 hv)
theorem zil (s:List UInt8) (i0:Nat) (hi0:i0≤s.length) (hs:s.length≤yp) (H:Heap) :
  ACalls Tryz.prog 87 [.str s,.int .i64 i0] H (fun e H'=>∃ v,e=.ret v∧((∃ j,v=.int .i64 (j:Nat)∧SkQ s i0 j∧(j<s.length→yB (s.drop j)=0))∧H'=H)):=by
 refine ACalls.go ir87 ck87 (Al4 _) fun KP Q hQ=>?_
 have hsl:s.length≤Lim:=by simp only[yp] at hs;simp only[Lim];omega
 simp only[yp] at hs
 simp(disch:=first|omega|assumption) only[ir87,go_sem]
 refine goL_st (fun i:Nat=>[(1,.int .i64 i)]) (fun i H'=>SkQ s i0 i∧H'=H) (fun i=>s.length-i) i0 (by simp(disch:=first|omega|assumption) only[go_sem]) ⟨SkQ.refl hi0,rfl⟩ ?_
 rintro i H' J ⟨hk,hH⟩ hJ
 subst hH
 rcases zH s i with ⟨h1,h2⟩|⟨hi,hd⟩
 ·have hlt:¬ ((i:Int)<(s.length:Int)):=by omega
  simp(disch:=first|omega|assumption) only[hlt,go_sem]
  exact hQ _ _ _ H' [_] nofun rfl (Low.refl _) ⟨⟨i,rfl,hk,fun h=>absurd h (by omega)⟩,rfl⟩
 have hlt:((i:Int)<(s.length:Int))=True:=eq_true (by omega)
 have hb:=zaD s i [239,187,191] (by omega) hsl (by decide)
 obtain⟨c,hg⟩:∃ c,s.getD i 0=c:=⟨_,rfl⟩
 rw[hg] at hd
 have hgl:=zas (s.drop i)
 rw[zI] at hgl
 have nat:∀ k:Nat,(c.toNat:Int)=k→k<256→c=UInt8.ofNat k:=fun k h hk=>UInt8.toNat_inj.1 (by rw[UInt8.toNat_ofNat'];omega)
 have one:(c=9∨c=10∨c=13∨c=32∨c=44)→SkQ s i0 (i+1):=fun hw=>by
  have e:yB (s.drop i)=1:=by rw[hd,yy,if_pos hw]
  have:=hk.gap hi (by rw[e];decide)
  rw[e] at this;exact this
 by_cases g9:(c.toNat:Int)=9
 ·have hw:=one (.inl (nat 9 g9 (by decide)))
  simp(disch:=first|omega|assumption) only[hlt,hg,g9,go_sem]
  exact goJ (hJ (i+1) _ (by omega) ⟨hw,rfl⟩) (by simp(disch:=first|omega|assumption) only[wrap64,Int.natCast_add,go_sem])
 by_cases g10:(c.toNat:Int)=10
 ·have hw:=one (.inr (.inl (nat 10 g10 (by decide))))
  simp(disch:=first|omega|assumption) only[hlt,hg,g9,g10,go_sem]
  exact goJ (hJ (i+1) _ (by omega) ⟨hw,rfl⟩) (by simp(disch:=first|omega|assumption) only[wrap64,Int.natCast_add,go_sem])
 by_cases g13:(c.toNat:Int)=13
 ·have hw:=one (.inr (.inr (.inl (nat 13 g13 (by decide)))))
  simp(disch:=first|omega|assumption) only[hlt,hg,g9,g10,g13,go_sem]
  exact goJ (hJ (i+1) _ (by omega) ⟨hw,rfl⟩) (by simp(disch:=first|omega|assumption) only[wrap64,Int.natCast_add,go_sem])
 by_cases g32:(c.toNat:Int)=32
 ·have hw:=one (.inr (.inr (.inr (.inl (nat 32 g32 (by decide))))))
  simp(disch:=first|omega|assumption) only[hlt,hg,g9,g10,g13,g32,go_sem]
  exact goJ (hJ (i+1) _ (by omega) ⟨hw,rfl⟩) (by simp(disch:=first|omega|assumption) only[wrap64,Int.natCast_add,go_sem])
 by_cases g44:(c.toNat:Int)=44
 ·have hw:=one (.inr (.inr (.inr (.inr (nat 44 g44 (by decide))))))
  simp(disch:=first|omega|assumption) only[hlt,hg,g9,g10,g13,g32,g44,go_sem]
  exact goJ (hJ (i+1) _ (by omega) ⟨hw,rfl⟩) (by simp(disch:=first|omega|assumption) only[wrap64,Int.natCast_add,go_sem])
 have hw:¬ (c=9∨c=10∨c=13∨c=32∨c=44):=by
  rintro(h|h|h|h|h)<;>subst h<;>first|exact g9 rfl|exact g10 rfl|exact g13 rfl|exact g32 rfl|exact g44 rfl
 simp(disch:=first|omega|assumption) only[hlt,hg,g9,g10,g13,g32,g44,go_sem]
 refine goK_pure hb ?_
 rw[hd]
 by_cases hp:([239,187,191]:List UInt8).isPrefixOf (c::s.drop (i+1))=true
 ·have e:yB (s.drop i)=3:=by rw[hd,yy,if_neg hw];exact if_pos hp
  have hq:=hk.gap hi (by rw[e];decide)
  rw[e] at hq hgl
  simp(disch:=first|omega|assumption) only[hp,go_sem]
  exact goJ (hJ (i+3) _ (by omega) ⟨hq,rfl⟩) (by simp(disch:=first|omega|assumption) only[wrap64,Int.natCast_add,go_sem])
 have hp':([239,187,191]:List UInt8).isPrefixOf (c::s.drop (i+1))=false:=Bool.eq_false_iff.2 hp
 by_cases g35:(c.toNat:Int)=35
 ·have hc:c=35:=nat 35 g35 (by decide)
  have e:yB (s.drop i)=((s.drop i).takeWhile zx).length:=by
   rw[hd,yy,if_neg hw,if_neg (show ¬ (zde.isPrefixOf _=true) from hp),if_pos hc,List.takeWhile_cons,hc,if_pos (show zx 35=true from rfl)]
   simp only[Al2];omega
  have e1:0<yB (s.drop i):=by rw[hd,yy,if_neg hw,if_neg (show ¬ (zde.isPrefixOf _=true) from hp),if_pos hc];omega
  have hq:=hk.gap hi (by omega)
  simp(disch:=first|omega|assumption) only[hp',hlt,hg,g35,go_sem]
  refine goL_st (fun j:Nat=>[(1,.int .i64 j)]) (fun j H2=>H2=H'∧i≤j∧j≤s.length∧yB (s.drop i)=(j-i)+((s.drop j).takeWhile zx).length) (fun j=>s.length-j) i (by simp(disch:=first|omega|assumption) only[go_sem]) ⟨rfl,Al4 _,by omega,by rw[e];omega⟩ ?_
  rintro j H2 J2 ⟨hH,hij,hjs,hj⟩ hJ2
  subst hH
  have out:((s.drop j).takeWhile zx).length=0→J ((setAll _ [(1,.int .i64 (j:Int))]).keep [0,1]) H2:=fun h0=>by
   have ej:i+yB (s.drop i)=j:=by omega
   rw[ej] at hq
   exact hJ j _ (by omega) ⟨hq,rfl⟩
  rcases zH s j with ⟨h1,h2⟩|⟨hj1,hd1⟩
  ·have hl2:¬ ((j:Int)<(s.length:Int)):=by omega
   simp(disch:=first|omega|assumption) only[hl2,go_sem]
   exact goJ (out (by rw[h1];rfl)) (by simp(disch:=first|omega|assumption) only[go_sem])
  have hl2:((j:Int)<(s.length:Int))=True:=eq_true (by omega)
  obtain⟨d,hg1⟩:∃ d,s.getD j 0=d:=⟨_,rfl⟩
  rw[hg1] at hd1
  have natd:∀ k:Nat,(d.toNat:Int)=k→k<256→d=UInt8.ofNat k:=fun k h hk=>UInt8.toNat_inj.1 (by rw[UInt8.toNat_ofNat'];omega)
  by_cases k10:(d.toNat:Int)=10
  ·have hn:zx d=false:=by rw[natd 10 k10 (by decide)];rfl
   simp(disch:=first|omega|assumption) only[hl2,hg1,k10,go_sem]
   exact goJ (out (by rw[hd1,List.takeWhile_cons,hn];rfl)) (by simp(disch:=first|omega|assumption) only[go_sem])
  by_cases k13:(d.toNat:Int)=13
  ·have hn:zx d=false:=by rw[natd 13 k13 (by decide)];rfl
   simp(disch:=first|omega|assumption) only[hl2,hg1,k10,k13,go_sem]
   exact goJ (out (by rw[hd1,List.takeWhile_cons,hn];rfl)) (by simp(disch:=first|omega|assumption) only[go_sem])
  have hn:zx d=true:=by
   unfold zx
   have h1:d≠10:=fun e=>k10 (by rw[e];rfl)
   have h2:d≠13:=fun e=>k13 (by rw[e];rfl)
   simp[h1,h2]
  rw[hd1,List.takeWhile_cons,hn,if_pos rfl,Al2] at hj
  simp(disch:=first|omega|assumption) only[hl2,hg1,k10,k13,go_sem]
  exact goJ (hJ2 (j+1) _ (by omega) ⟨rfl,by omega,by omega,by omega⟩) (by simp(disch:=first|omega|assumption) only[wrap64,Int.natCast_add,go_sem])
 ·have e:yB (s.drop i)=0:=by
   rw[hd,yy,if_neg hw,if_neg (show ¬ (zde.isPrefixOf _=true) from hp),if_neg (fun h=>g35 (by rw[h];rfl))]
  simp(disch:=first|omega|assumption) only[hp',hlt,hg,g35,go_sem]
  exact hQ _ _ _ H' [_] nofun rfl (Low.refl _) ⟨⟨i,rfl,hk,fun _=>e⟩,rfl⟩
def NxQ (s:List UInt8) (i:Nat) (v:AV):Prop:=match zU (s.drop i) with
 | some (x,t)=>v=.tup [zv x,.int .i64 ((s.length-t.length:Nat):Int),.bool true]
 | none=>∃(x:Tok) (n:Int),v=.tup [zv x,.int .i64 n,.bool false]
theorem NxQ.some {s t:List UInt8} {i:Nat} {x:Tok} {n:Int} (h:zU (s.drop i)=some (x,t)) (hn:n=((s.length-t.length:Nat):Int)):NxQ s i (.tup [zv x,.int .i64 n,.bool true]):=by
 unfold NxQ;rw[h,hn]
theorem NxQ.none {s:List UInt8} {i:Nat} {x:Tok} {n:Int} (h:zU (s.drop i)=.none):NxQ s i (.tup [zv x,.int .i64 n,.bool false]):=by
 unfold NxQ;rw[h];exact⟨x,n,rfl⟩
theorem zQ {A H:Heap} {b:Nat} {o:AObj} (h:Sub A H) (hb:A b=none):Sub A (H.upd b o):=fun c x hc=>by
 rw[upd_ne (fun e=>by rw[e,hb] at hc;cases hc)];exact h c x hc
set_option maxHeartbeats 2000000 in
theorem zjm (s:List UInt8) (i:Nat) (hi:i<s.length) (hv:validD (s.drop i)=true) (hs:s.length≤yp) (H:Heap) :
  ACalls Tryz.prog 88 [.str s,.int .i64 i] H (fun e H'=>∃ v,e=.ret v∧(NxQ s i v∧H'=H)):=by
 refine ACalls.go ir88 ck88 (Al4 _) fun KP Q hQ=>?_
 have hsl:s.length≤Lim:=by simp only[yp] at hs;simp only[Lim];omega
 have hsq:=hs
 simp only[yp] at hs
 obtain⟨c,hg⟩:∃ c,s.getD i 0=c:=⟨_,rfl⟩
 obtain⟨r,hd⟩:∃ r,s.drop i=c::r:=by
  rcases zH s i with ⟨h1,h2⟩|⟨h1,h2⟩
  ·omega
  ·exact⟨_,by rw[h2,hg]⟩
 have hdl:s.length=i+(r.length+1):=by have:=congrArg List.length hd;rw[zI,Al2] at this;omega
 have hd1:s.drop (i+1)=r:=by rw[← List.drop_drop,hd];rfl
 have hd3:s.drop (i+3)=r.drop 2:=by rw[← List.drop_drop,hd];rfl
 have hlt:((i:Int)<(s.length:Int))=True:=eq_true (by omega)
 have hle:((i:Int)≤(s.length:Int))=True:=eq_true (by omega)
 have hle1:((i:Int)+1≤(s.length:Int))=True:=eq_true (by omega)
 have ot:zU (s.drop i)=_:=(congrArg zU hd).trans (za6 c r)
 have hb1:=zaD s i [46,46,46] (by omega) hsl (by decide)
 have hb2:=zaD s i [34,34,34] (by omega) hsl (by decide)
 rw[hd] at hb1 hb2
 have nat:∀ k:Nat,(c.toNat:Int)=k→k<256→c=UInt8.ofNat k:=fun k h hk=>UInt8.toNat_inj.1 (by rw[UInt8.toNat_ofNat'];omega)
 simp(disch:=first|omega|assumption) only[ir88,go_sem]
 refine goA_intro fun b4 hb4=>?_
 simp(disch:=first|omega|assumption) only[go_sem]
 refine goA_intro fun b7 hb7=>?_
 have h74:b7≠b4:=fun e=>by subst e;rw[upd_same] at hb7;cases hb7
 have hb7H:H b7=.none:=by rw[upd_ne h74] at hb7;exact hb7
 have h47:=Ne.symm h74
 simp(disch:=first|omega|assumption) only[h74,h47,go_sem]
 refine goK_pure hb1 ?_
 by_cases c34:c=34
 ·-- a quote
  have p1:([46,46,46]:List UInt8).isPrefixOf (c::r)=false:=by rw[c34];rfl
  have p1':¬ (yU.isPrefixOf (c::r)=true):=by rw[c34];exact Bool.eq_false_iff.1 rfl
  have hix:¬ ((0:Int)≤Lib.indexByte Zg c):=by rw[c34];decide
  simp(disch:=first|omega|assumption) only[p1,hlt,hg,go_sem]
  refine goK_pure (zel Zg c (by decide)) ?_
  simp(disch:=first|omega|assumption) only[hix,go_sem]
  refine goK_pure hb2 ?_
  by_cases p2:([34,34,34]:List UInt8).isPrefixOf (c::r)=true
  ·have hl3:=z7 _ _ p2
   simp only[Al2,Al3] at hl3
   have hbl:=zgz s (i+3) (by omega) hsq
   rw[hd3,show ((i+3:Nat):Int)=(i:Int)+3 by omega] at hbl
   have ef:yd (s.length-(i+3)+1) [] (r.drop 2)=yd (r.length+1) [] (r.drop 2):=Zu _ _ _ _ (by rw[zI];omega) (by rw[zI];omega)
   rw[ef] at hbl
   have e1:zU (s.drop i)=(yd (r.length+1) [] (r.drop 2)).map fun x=>(⟨5,zy x.1⟩,x.2):=by rw[ot,if_pos (show zu.isPrefixOf (c::r)=true from p2)]
   simp(disch:=first|omega|assumption) only[p2,wrap64,go_sem]
   refine goK_pure hbl ?_
   cases hx:yd (r.length+1) [] (r.drop 2) with
   | none =>
    rw[hx] at e1
    simp(disch:=first|omega|assumption) only[zgF,h74,h47,go_sem]
    refine hQ _ _ _ H [(zv ⟨5,[]⟩),(.int .i64 0),(.bool false)] nofun (by simp(disch:=first|omega|assumption) only[ir88,resvs,resv,zv,go_sem]) (Low.of_sub (by repeat (first|exact sub_refl _|refine zQ ?_ (by assumption)))) ⟨?_,rfl⟩
    exact NxQ.none e1
   | some x =>
    obtain⟨raw,t⟩:=x
    rw[hx] at e1
    simp(disch:=first|omega|assumption) only[zgF,h74,h47,go_sem]
    refine hQ _ _ _ H [(zv ⟨5,zy raw⟩),(.int .i64 ((s.length-t.length:Nat):Int)),(.bool true)] nofun (by simp(disch:=first|omega|assumption) only[ir88,resvs,resv,zv,go_sem]) (Low.of_sub (by repeat (first|exact sub_refl _|refine zQ ?_ (by assumption)))) ⟨?_,rfl⟩
    exact NxQ.some e1 rfl
  ·have p2':([34,34,34]:List UInt8).isPrefixOf (c::r)=false:=Bool.eq_false_iff.2 p2
   have hc:(c.toNat:Int)=34:=by rw[c34];rfl
   have hvr:validD r=true:=by rw[hd,c34] at hv;exact yK (by decide) hv
   have hqu:=zhA s (i+1) (by omega) (by rw[hd1];exact hvr) hsq
   rw[hd1,show ((i+1:Nat):Int)=(i:Int)+1 by omega] at hqu
   have e1:zU (s.drop i)=(yt zJ r).map fun x=>(⟨5,x.1⟩,x.2):=by rw[ot,if_neg (show ¬ (zu.isPrefixOf (c::r)=true) from p2),if_pos c34]
   simp(disch:=first|omega|assumption) only[p2',hlt,hg,hc,wrap64,go_sem]
   refine goK_pure hqu ?_
   cases hx:yt zJ r with
   | none =>
    rw[hx] at e1
    simp(disch:=first|omega|assumption) only[zaV,h74,h47,go_sem]
    refine hQ _ _ _ H [(zv ⟨5,[]⟩),(.int .i64 0),(.bool false)] nofun (by simp(disch:=first|omega|assumption) only[ir88,resvs,resv,zv,go_sem]) (Low.of_sub (by repeat (first|exact sub_refl _|refine zQ ?_ (by assumption)))) ⟨?_,rfl⟩
    exact NxQ.none e1
   | some x =>
    obtain⟨b,t⟩:=x
    rw[hx] at e1
    simp(disch:=first|omega|assumption) only[zaV,h74,h47,go_sem]
    refine hQ _ _ _ H [(zv ⟨5,b⟩),(.int .i64 ((s.length-t.length:Nat):Int)),(.bool true)] nofun (by simp(disch:=first|omega|assumption) only[ir88,resvs,resv,zv,go_sem]) (Low.of_sub (by repeat (first|exact sub_refl _|refine zQ ?_ (by assumption)))) ⟨?_,rfl⟩
    exact NxQ.some e1 rfl
 have g34:¬ ((c.toNat:Int)=34):=fun e=>c34 (nat 34 e (by decide))
 have p2':([34,34,34]:List UInt8).isPrefixOf (c::r)=false:=by
  rw[← Bool.not_eq_true]
  intro h
  simp only[List.isPrefixOf,Al0,beq_iff_eq] at h
  exact c34 h.1.symm
 have p2:¬ (zu.isPrefixOf (c::r)=true):=by rw[show zu=[34,34,34] from rfl,p2'];decide
 rw[if_neg p2,if_neg c34] at ot
 by_cases p1:([46,46,46]:List UInt8).isPrefixOf (c::r)=true
 ·have hl3:=z7 _ _ p1
  simp only[Al2,Al3] at hl3
  rw[if_pos (show yU.isPrefixOf (c::r)=true from p1)] at ot
  simp(disch:=first|omega|assumption) only[p1,wrap64,go_sem]
  refine hQ _ _ _ H [(zv ⟨1,[46,46,46]⟩),(.int .i64 ((i:Int)+3)),(.bool true)] nofun (by simp(disch:=first|omega|assumption) only[ir88,resvs,resv,zv,go_sem]) (Low.of_sub (by repeat (first|exact sub_refl _|refine zQ ?_ (by assumption)))) ⟨?_,rfl⟩
  exact NxQ.some (x:=⟨1,yU⟩) ot (by rw[zI];omega)
 have p1':([46,46,46]:List UInt8).isPrefixOf (c::r)=false:=Bool.eq_false_iff.2 p1
 rw[if_neg (show ¬ (yU.isPrefixOf (c::r)=true) from p1)] at ot
 simp(disch:=first|omega|assumption) only[p1',hlt,hg,go_sem]
 refine goK_pure (zel Zg c (by decide)) ?_
 by_cases hix:(0:Int)≤Lib.indexByte Zg c
 ·rw[if_pos hix] at ot
  have ht1:List.drop i (List.take (i+1) s)=[c]:=by rw[List.drop_take,hd,Nat.add_sub_cancel_left];rfl
  have hi1:((i:Int)≤(i:Int)+1)=True:=eq_true (by omega)
  have hi3:((i:Int)+1).toNat=i+1:=by omega
  simp(disch:=first|omega|assumption) only[hix,wrap64,hi1,hle1,hi3,ht1,go_sem]
  refine hQ _ _ _ H [(zv ⟨1,[c]⟩),(.int .i64 ((i:Int)+1)),(.bool true)] nofun (by simp(disch:=first|omega|assumption) only[ir88,resvs,resv,zv,go_sem]) (Low.of_sub (by repeat (first|exact sub_refl _|refine zQ ?_ (by assumption)))) ⟨?_,rfl⟩
  exact NxQ.some ot (by omega)
 rw[if_neg hix] at ot
 simp(disch:=first|omega|assumption) only[hix,go_sem]
 refine goK_pure hb2 ?_
 simp(disch:=first|omega|assumption) only[p2',hlt,hg,g34,go_sem]
 refine goK_pure (zdr c) ?_
 cases hL:isL c with
 | true =>
  rw[if_pos hL] at ot
  have hwl:=zaI (s.drop i)
  rw[zI] at hwl
  rw[← hd] at ot
  simp(disch:=first|omega|assumption) only[go_sem]
  refine goL_st (fun k:Nat=>[(14,.int .i64 k)]) (fun k H'=>H'=((H.upd b4 (.cells [.int .i64 0,.str []])).upd b7 (.cells [.int .i64 0,.str []]))∧i≤k∧k≤s.length∧zM (s.drop i)=(k-i)+zM (s.drop k)) (fun k=>s.length-k) i (by simp(disch:=first|omega|assumption) only[go_sem]) ⟨by first|rfl|simp only[upd_upd],Al4 _,by omega,by omega⟩ ?_
  rintro k H2 J ⟨hH,hik,hks,hk⟩ hJ
  have hb42:H2 b4=some (.cells [.int .i64 0,.str []]):=by rw[hH,upd_ne h47,upd_same]
  have hsub:Sub H H2:=by rw[hH];exact zQ (zQ (sub_refl _) hb4) hb7H
  have done:zM (s.drop k)=0→zU (s.drop i)=some (⟨2,(s.take k).drop i⟩,s.drop k):=fun h0=>by
   have e:i+zM (s.drop i)=k:=by omega
   rw[ot,List.drop_drop,e]
   congr 3
   rw[List.drop_take];congr 1;omega
  have hik':((i:Int)≤(k:Int))=True:=eq_true (by omega)
  have hks':((k:Int)≤(s.length:Int))=True:=eq_true (by omega)
  rcases zH s k with ⟨h1,h2⟩|⟨hk1,hdk⟩
  ·have hl2:¬ ((k:Int)<(s.length:Int)):=by omega
   have e1:=done (by rw[h1];rfl)
   simp(disch:=first|omega|assumption) only[hl2,hik',hks',hb42,go_sem]
   refine hQ _ _ _ H [zv ⟨2,(s.take k).drop i⟩,.int .i64 k,.bool true] nofun (by simp(disch:=first|omega|assumption) only[ir88,resvs,resv,zv,go_sem]) (Low.of_sub (zQ hsub hb4)) ⟨NxQ.some e1 (by rw[zI];omega),rfl⟩
  have hl2:((k:Int)<(s.length:Int))=True:=eq_true (by omega)
  rw[hdk,zac] at hk
  simp(disch:=first|omega|assumption) only[hl2,go_sem]
  refine goK_pure (zdr (s.getD k 0)) ?_
  cases hl:isL (s.getD k 0) with
  | true =>
   simp only[hl,Bool.true_or,if_true] at hk
   simp(disch:=first|omega|assumption) only[hl,go_sem]
   exact goJ (hJ (k+1) _ (by omega) ⟨hH,by omega,by omega,by omega⟩) (by simp(disch:=first|omega|assumption) only[wrap64,Int.natCast_add,go_sem])
  | false =>
   simp(disch:=first|omega|assumption) only[hl,hl2,go_sem]
   refine goK_pure (zbX (s.getD k 0)) ?_
   cases hdg:isD (s.getD k 0) with
   | true =>
    simp only[hl,hdg,Bool.or_true,if_true] at hk
    simp(disch:=first|omega|assumption) only[hdg,go_sem]
    exact goJ (hJ (k+1) _ (by omega) ⟨hH,by omega,by omega,by omega⟩) (by simp(disch:=first|omega|assumption) only[wrap64,Int.natCast_add,go_sem])
   | false =>
    have e1:=done (by rw[hdk,zac,hl,hdg];rfl)
    simp(disch:=first|omega|assumption) only[hdg,hik',hks',hb42,go_sem]
    refine hQ _ _ _ H [zv ⟨2,(s.take k).drop i⟩,.int .i64 k,.bool true] nofun (by simp(disch:=first|omega|assumption) only[ir88,resvs,resv,zv,go_sem]) (Low.of_sub (zQ hsub hb4)) ⟨NxQ.some e1 (by rw[zI];omega),rfl⟩
 | false =>
  rw[if_neg (by rw[hL];decide)] at ot
  rw[← hd] at ot
  have hul:(s.drop i).length≤Lim:=by rw[zI];omega
  have hnr:=zgc (s.drop i) hul
  have hnl:=YC (s.drop i)
  rw[zI] at hnl
  have htl:List.drop i (List.take s.length s)=s.drop i:=by rw[List.take_length]
  simp(disch:=first|omega|assumption) only[hle,htl,go_sem]
  refine goK_pure hnr ?_
  generalize hnn:(zA (s.drop i)).1=n at *
  generalize hkk:(zA (s.drop i)).2=k at *
  by_cases hn0:n=0
  ·have hz:((n:Int)=0)=True:=eq_true (by omega)
   rw[if_pos hn0] at ot
   simp(disch:=first|omega|assumption) only[hz,h74,h47,go_sem]
   refine hQ _ _ _ H [(zv ⟨0,[]⟩),(.int .i64 0),(.bool false)] nofun (by simp(disch:=first|omega|assumption) only[ir88,resvs,resv,zv,go_sem]) (Low.of_sub (by repeat (first|exact sub_refl _|refine zQ ?_ (by assumption)))) ⟨?_,rfl⟩
   exact NxQ.none ot
  have hz:¬ ((n:Int)=0):=by omega
  rw[if_neg hn0] at ot
  have hw:IntKind.wrap .i64 ((i:Int)+(n:Int))=((i+n:Nat):Int):=by rw[wrap64 (by omega) (by omega)];omega
  have hin:((i:Int)≤((i+n:Nat):Int))=True:=eq_true (by omega)
  have hns:(((i+n:Nat):Int)≤(s.length:Int))=True:=eq_true (by omega)
  have etk:List.drop i (List.take (i+n) s)=(s.drop i).take n:=by rw[List.drop_take];congr 1;omega
  have edr:(s.drop i).drop n=s.drop (i+n):=by rw[List.drop_drop]
  rw[edr] at ot
  have good:∀ x,zU (s.drop i)=some (⟨k,(s.drop i).take n⟩,s.drop (i+n))→NxQ s i (.tup [zv ⟨k,(s.drop i).take n⟩,.int .i64 x,.bool true])∨x≠((i+n:Nat):Int):=fun x h=>by
   by_cases e:x=((i+n:Nat):Int)
   ·exact .inl (NxQ.some h (by rw[e,zI];omega))
   ·exact .inr e
  rcases zH s (i+n) with ⟨h1,h2⟩|⟨hk1,hdk⟩
  ·have hl2:¬ (((i+n:Nat):Int)<(s.length:Int)):=by omega
   rw[h1] at ot
   have e1:zU (s.drop i)=some (⟨k,(s.drop i).take n⟩,[]):=ot
   simp(disch:=first|omega|assumption) only[hz,hw,hl2,hin,hns,etk,h74,h47,go_sem]
   refine hQ _ _ _ H [(zv ⟨k,(s.drop i).take n⟩),(.int .i64 ((i+n:Nat):Int)),(.bool true)] nofun (by simp(disch:=first|omega|assumption) only[ir88,resvs,resv,zv,go_sem]) (Low.of_sub (by repeat (first|exact sub_refl _|refine zQ ?_ (by assumption)))) ⟨?_,rfl⟩
   exact NxQ.some e1 (by simp;omega)
  have hl2:(((i+n:Nat):Int)<(s.length:Int))=True:=eq_true (by omega)
  obtain⟨d,hgd⟩:∃ d,s.getD (i+n) 0=d:=⟨_,rfl⟩
  rw[hgd] at hdk
  rw[hdk] at ot
  have ha:(d::s.drop (i+n+1)).head?.any (fun d=>isL d||isD d||decide (d=46))=(isL d||isD d||decide (d=46)):=rfl
  rw[ha] at ot
  simp(disch:=first|omega|assumption) only[hz,hw,hl2,hgd,go_sem]
  refine goK_pure (zdr d) ?_
  cases hld:isL d with
  | true =>
   rw[hld] at ot
   have e1:zU (s.drop i)=.none:=ot
   simp(disch:=first|omega|assumption) only[h74,h47,go_sem]
   refine hQ _ _ _ H [(zv ⟨0,[]⟩),(.int .i64 0),(.bool false)] nofun (by simp(disch:=first|omega|assumption) only[ir88,resvs,resv,zv,go_sem]) (Low.of_sub (by repeat (first|exact sub_refl _|refine zQ ?_ (by assumption)))) ⟨?_,rfl⟩
   exact NxQ.none e1
  | false =>
   simp(disch:=first|omega|assumption) only[hl2,hgd,go_sem]
   refine goK_pure (zbX d) ?_
   cases hdg:isD d with
   | true =>
    rw[hld,hdg] at ot
    have e1:zU (s.drop i)=.none:=ot
    simp(disch:=first|omega|assumption) only[h74,h47,go_sem]
    refine hQ _ _ _ H [(zv ⟨0,[]⟩),(.int .i64 0),(.bool false)] nofun (by simp(disch:=first|omega|assumption) only[ir88,resvs,resv,zv,go_sem]) (Low.of_sub (by repeat (first|exact sub_refl _|refine zQ ?_ (by assumption)))) ⟨?_,rfl⟩
    exact NxQ.none e1
   | false =>
    by_cases h46:d=46
    ·have g46:((d.toNat:Int)=46)=True:=eq_true (by rw[h46];rfl)
     rw[hld,hdg,h46] at ot
     have e1:zU (s.drop i)=.none:=ot
     simp(disch:=first|omega|assumption) only[hl2,hgd,g46,h74,h47,go_sem]
     refine hQ _ _ _ H [(zv ⟨0,[]⟩),(.int .i64 0),(.bool false)] nofun (by simp(disch:=first|omega|assumption) only[ir88,resvs,resv,zv,go_sem]) (Low.of_sub (by repeat (first|exact sub_refl _|refine zQ ?_ (by assumption)))) ⟨?_,rfl⟩
     exact NxQ.none e1
    ·have g46:¬ ((d.toNat:Int)=46):=fun e=>h46 (UInt8.toNat_inj.1 (by show d.toNat=46;omega))
     rw[hld,hdg,decide_eq_false h46] at ot
     have e1:zU (s.drop i)=some (⟨k,(s.drop i).take n⟩,d::s.drop (i+n+1)):=ot
     simp(disch:=first|omega|assumption) only[hl2,hgd,g46,hin,hns,etk,h74,h47,go_sem]
     refine hQ _ _ _ H [(zv ⟨k,(s.drop i).take n⟩),(.int .i64 ((i+n:Nat):Int)),(.bool true)] nofun (by simp(disch:=first|omega|assumption) only[ir88,resvs,resv,zv,go_sem]) (Low.of_sub (by repeat (first|exact sub_refl _|refine zQ ?_ (by assumption)))) ⟨?_,rfl⟩
     exact NxQ.some e1 (by rw[← hdk,zI];omega)
theorem zfq (s:List UInt8) (hs:s.length≤yp):Pure Tryz.prog 34 [.str s] (readA (zX s)):=by
 refine Pure.go ir34 ck34 (Al4 _) fun KP Q hQ=>?_
 have hsq:=hs
 simp only[yp] at hs
 by_cases h8:8192<s.length
 ·have g8:((8192:Int)<(s.length:Int))=True:=eq_true (by omega)
  simp(disch:=first|omega|assumption) only[ir34,g8,go_sem]
  exact hQ _ _ _ _ nofun rfl (by simp[tupOf,envOf,AV.strip,AV.strip1,zX,h8,readA])
 have g8:¬ ((8192:Int)<(s.length:Int)):=by omega
 simp(disch:=first|omega|assumption) only[ir34,g8,go_sem]
 refine goK_pure (zh0 s (by simp only[Lim];omega)) ?_
 cases hsb:zab s with
 | false =>
  simp(disch:=first|omega|assumption) only[go_sem]
  exact hQ _ _ _ _ nofun rfl (by simp[tupOf,envOf,AV.strip,AV.strip1,zX,h8,hsb,readA])
 | true =>
  have e0:zX s=yP [] s:=by unfold zX yP;rw[if_neg h8,if_pos hsb]
  have hvs:=zai _ s (Al4 _) hsb
  rw[e0] at hQ
  simp(disch:=first|omega|assumption) only[go_sem]
  refine goK_ret (zil s 0 (Nat.zero_le _) hsq _) fun v H1 ⟨⟨i0,hv,hsk,hgp⟩,hH⟩=>?_
  subst hv;subst hH
  simp(disch:=first|omega|assumption) only[go_sem]
  refine goL_st (fun x:Own×List Tok×Nat=>[(4,.sl x.1 2 (cKs x.2.1)),(5,.int .i64 x.2.2)]) (fun x H=>x.2.2≤s.length∧x.2.1.length≤x.2.2∧yP [] s=yP x.2.1 (s.drop x.2.2)∧validD (s.drop x.2.2)=true∧(x.2.2<s.length→yB (s.drop x.2.2)=0)∧OwnS Heap.emp .nil H x.1 x.2.1.length 2) (fun x=>s.length-x.2.2) (.nil,[],i0) (by simp(disch:=first|omega|assumption) only[cKs,List.map_nil,go_sem]) ⟨hsk.2.1,Nat.zero_le _,by simpa using hsk.2.2.1 [],hsk.2.2.2 (by simpa using hvs),hgp,OwnS.refl rfl⟩ ?_
  rintro⟨o,l,i⟩ H J ⟨hi,hll,hr,hvi,hg0,hso⟩ hJ
  simp only at hi hll hr hvi hg0 hso
  have hcl:=YX l
  by_cases hlt:i<s.length
  case neg =>
   have hlt':¬ ((i:Int)<s.length):=by omega
   rw[List.drop_of_length_le (by omega),zct] at hr
   simp(disch:=first|omega|assumption) only[hlt',go_sem]
   exact hQ _ _ _ _ nofun rfl (by simp[tupOf,envOf,AV.strip,AV.strip1,hr,readA,zcE])
  have hlt':((i:Int)<s.length)=True:=eq_true (by omega)
  have hg:=hg0 hlt
  obtain⟨u,hd⟩:∃ u,s.drop i=u:=⟨_,rfl⟩
  have hdl:s.length=i+u.length:=by have:=congrArg List.length hd;rw[zI] at this;omega
  have hne:u≠[]:=fun e=>by rw[e] at hdl;simp at hdl;omega
  simp(disch:=first|omega|assumption) only[hlt',go_sem]
  refine goK_ret (zjm s i hlt hvi hsq _) fun v H1 ⟨hx,hH⟩=>?_
  subst hH
  unfold NxQ at hx
  rw[hd] at hx hr hg hvi
  cases ho:zU u with
  | none =>
   rw[ho] at hx
   obtain⟨a,n,hx⟩:=hx
   subst hx
   rw[zch hne hg ho] at hr
   simp(disch:=first|omega|assumption) only[zv,go_sem]
   refine goA_intro fun b1 hb1=>?_
   simp(disch:=first|omega|assumption) only[go_sem]
   exact hQ _ _ _ _ nofun rfl (by simp[tupOf,envOf,AV.strip,AV.strip1,hr,readA])
  | some x =>
   obtain⟨x,t⟩:=x
   rw[ho] at hx
   simp only at hx
   subst hx
   have hlt2:=YU ho
   have hsf:=zd0 ho
   have hgd:=zcD hvi ho
   rw[zb5 hne hg ho] at hr
   have hk:s.length-t.length≤s.length:=Nat.sub_le _ _
   have hdt:s.drop (s.length-t.length)=t:=by
    have e:s.length-t.length=i+(u.length-t.length):=by omega
    rw[e,← List.drop_drop,hd,hsf]
   simp(disch:=first|omega|assumption) only[zv,go_sem]
   refine goA_intro fun b1 hb1=>?_
   simp(disch:=first|omega|assumption) only[go_sem]
   refine goP_ownS (by rw[hcl];exact(hso.upd hb1).own) (by simp only[hcl,Al2,Al3];omega) (by simp only[hcl,Al2,Al3,maxLen];omega) fun o' H' hs2=>?_
   simp(disch:=first|omega|assumption) only[go_sem]
   refine goK_ret (zil s (s.length-t.length) hk hsq _) fun v H3 ⟨⟨j,hv3,hsk3,hgp3⟩,hH3⟩=>?_
   subst hv3;subst hH3
   have hvt:validD (s.drop (s.length-t.length))=true:=by rw[hdt];exact hgd.2
   simp(disch:=first|omega|assumption) only[go_sem]
   refine goJ (hJ (o',l++[x],j) H3 (by simp only;have:=hsk3.1;omega) ⟨hsk3.2.1,by have:=hsk3.1;simp;omega,?_,hsk3.2.2.2 hvt,hgp3,(hso.upd (x:=.cells [.int .i64 x.k,.str x.s]) hb1).trans (by simpa[hcl] using hs2)⟩) (by simp(disch:=first|omega|assumption) only[← zfn,go_sem])
   simp only
   rw[hr,← hsk3.2.2.1,hdt]
end Go.Proofs.YtaielcdfcgpbiaaGreatDoor
namespace Go.Proofs.YtaielcdfcgpbiaaGreatDoor
open Go.Ab
open Go.Lib
end Go.Proofs.YtaielcdfcgpbiaaGreatDoor
namespace Go.Proofs.YtaielcdfcgpbiaaGreatDoor
open Go.Ab
theorem GP.low {α:Type} {b:α→Nat} {ok:α→Prop} {c c':Nat} {f:TS→PR α} (h:GP b ok c f) (hc:c'≤c):GP b ok c' f:=fun t a t' e=>by
 have g:=h t a t' e
 have w:=g.w
 exact⟨g.suf,by omega,g.ok⟩
section
variable (L:TS)
end
theorem zfO {x:Tok} (h:y7 x=true):zcQ x:=fun hk=>by
 unfold y7 at h
 rw[if_neg (by omega),if_neg (by omega),if_pos hk] at h
 simpa using h
def sp31 : ASp := ⟨27, 2, 5, (.reg [] [⟨some 4, none, .alloc [.int .i64 0], []⟩]), (.seq (.reg [] [⟨some 13, none, .mv (.t 6), []⟩, ⟨some 14, none, .bi .neq .i64 (.t 13) (.k (.int .i64 0)), []⟩])
 (.cond (.t 14) (.seq (.reg [] [⟨some 15, none, .mv (.t 6), []⟩, ⟨none, none, .st 1 (.t 4) (.t 15), []⟩])
 (.ret)) (.skip))), [⟨some 16, none, .mkfn 74 [] [(.t 4)], []⟩], 16, (.seq (.reg [] [⟨some 17, none, .mv (.t 5), []⟩, ⟨some 18, none, .bld [.sl .nil 2 [], .int .i64 0, .int .i64 0] [(0, 1, (.t 17))], []⟩, ⟨some 19, none, .box (.t 18), []⟩, ⟨some 7, none, .mv (.t 19), []⟩])
 (.seq (.reg [] [⟨some 20, none, .mv (.t 1), []⟩, ⟨some 21, none, .mv (.t 7), []⟩, ⟨some 22, none, .callv (.t 20) [(.t 21)], []⟩])
 (.seq (.seq (.reg [] [⟨some 23, none, .mv (.t 7), []⟩, ⟨some 24, none, .call 43 [(.t 23)], []⟩])
 (.cond (.t 24) (.reg [] [⟨some 25, none, .mv (.t 7), []⟩, ⟨some 26, none, .call 75 [(.t 25), (.k (.int .i64 2))], []⟩]) (.skip)))
 (.seq (.reg [] [⟨none, none, .st 1 (.t 4) (.k (.int .i64 0)), []⟩])
 (.ret))))), [.c 4 1 false], some (.reg [] [⟨some 9, none, .mv (.t 0), []⟩, ⟨some 10, none, .call 24 [(.t 9)], []⟩, ⟨some 8, none, .mv (.t 10), []⟩, ⟨some 11, none, .ext (.t 8) 0, []⟩, ⟨some 12, none, .ext (.t 8) 1, []⟩, ⟨some 5, none, .mv (.t 11), []⟩, ⟨some 6, none, .mv (.t 12), []⟩])⟩
theorem ckS31:chkSp Tryz.prog 31 sp31=true:=by kernel_rfl
def df74 : ADfn := ⟨16, 1, 4, [⟨some 1, none, .mv (.t 4), []⟩], (.seq (.reg [] [⟨some 6, none, .mv (.t 1), []⟩, ⟨some 7, none, .tas 120 (.agg [.int .i64 0]) (.t 6), []⟩, ⟨some 5, none, .mv (.t 7), []⟩, ⟨some 8, none, .ext (.t 5) 0, []⟩, ⟨some 9, none, .ext (.t 5) 1, []⟩, ⟨some 2, none, .alloc [.int .i64 0], []⟩, ⟨none, none, .st 1 (.t 2) (.t 8), []⟩, ⟨some 3, none, .mv (.t 9), []⟩])
 (.seq (.reg [] [⟨some 10, none, .mv (.t 3), []⟩])
 (.cond (.t 10) (.reg [] [⟨some 11, none, .fa 0 (.t 2), []⟩, ⟨some 12, none, .ld 1 false (.t 11), []⟩, ⟨none, none, .st 1 (.t 0) (.t 12), []⟩]) (.seq (.reg [] [⟨some 13, none, .mv (.t 1), []⟩, ⟨some 14, none, .ifnil true (.t 13), []⟩])
 (.cond (.t 14) (.reg [] [⟨some 15, none, .mv (.t 1), []⟩, ⟨none, none, .pan (.t 15), []⟩]) (.skip))))))⟩
theorem ckD74:chkDfn Tryz.prog 74 df74=true:=by kernel_rfl
theorem za3 {P:Program} {KP:AV→Heap→Prop} {items:List AItem} {ρ:Env} {H:Heap} {K:Env→Heap→Prop} (h:∀ Q:AExit→Env→Heap→Prop,(∀ ρ' H',K ρ' H'→Q .normal ρ' H')→goI P KP Q items items [] ρ H):awpItems P KP (annot items) ρ H K :=
 h (fun e ρ H=>match e with|.normal=>K ρ H|_=>True) (fun _ _ h=>h)
theorem Yd {P:Program} {KP:AV→Heap→Prop} {c:AC} {ρ:Env} {H:Heap} {K:AExit→Env→Heap→Prop} (h:∀(KP':AV→Heap→Prop) (Q:AExit→Env→Heap→Prop),(∀ v H',KP v H'→KP' v H')→(∀ e ρ' H',K e ρ' H'→Q e ρ' H')→goC P KP' Q c [] ρ H):awp P KP c K ρ H :=
 h KP K (fun _ _ h=>h) (fun _ _ _ h=>h)
theorem zi9 (H:Heap) (r:Nat) (n:Int):ACalls Tryz.prog 75 [.ptr r 0,.int .i64 n] H (fun e H'=>match e with|.ret v=>False|.pan v=>v=zN n∧H'=H):=by
 refine ACalls.goO (R:=fun _ _=>False) (RP:=fun v H'=>v=zN n∧H'=H) ir75 ck75 (Al4 _) fun KP Q hQ hP=>?_
 simp(disch:=first|omega|assumption) only[ir75,go_sem]
 exact hP _ _ H (Low.refl _) ⟨rfl,rfl⟩
theorem zjn {H:Heap} {b4:Nat} {Q:Heap→Prop} (hq:∀ b x,H b=none→Q (H.upd b x)):ACallsD Tryz.prog 74 [.ptr b4 0] none H Q:=by
 refine ACallsD.of_fn df74 ckD74 (Al4 _) (za3 fun Q1 hQ1=>?_)
 simp(disch:=first|omega|assumption) only[df74,Option.getD_none,go_sem]
 refine hQ1 _ _ (Yd fun KP' Q2 hKP hQ2=>?_)
 simp(disch:=first|omega|assumption) only[df74,go_sem]
 refine goA_intro fun b hb=>?_
 simp(disch:=first|omega|assumption) only[go_sem]
 exact hQ2 _ _ _ (hq _ _ hb)
theorem zim {H:Heap} {b4:Nat} {c4:List AV} {n:Int} {Q:Heap→Prop} (h4:H b4=some (.cells c4)) (l4:c4.length=1)
  (hq:∀ b x,H b=none→Q ((H.upd b x).upd b4 (.cells [.int .i64 n]))):ACallsD Tryz.prog 74 [.ptr b4 0] (some (zN n)) H Q:=by
 refine ACallsD.of_fn df74 ckD74 (Al4 _) (za3 fun Q1 hQ1=>?_)
 simp(disch:=first|omega|assumption) only[df74,Option.getD_some,zN,go_sem]
 refine hQ1 _ _ (Yd fun KP' Q2 hKP hQ2=>?_)
 simp(disch:=first|omega|assumption) only[df74,go_sem]
 refine goA_intro fun b hb=>?_
 have n1:b4≠b:=fun e=>by subst e;rw[hb] at h4;cases h4
 simp(disch:=first|omega|assumption) only[h4,n1,l4,go_sem]
 have e4:splice c4 0 [.int .i64 n]=[.int .i64 n]:=by
  unfold splice;simp only[List.take_zero,Y2,Al2,Al3];rw[List.drop_eq_nil_of_le (by rw[l4];decide),List.append_nil]
 rw[e4]
 exact hQ2 _ _ _ (hq _ _ hb)
theorem zba:∀(n:Nat) (l:List Tok) (s:List UInt8) (e:Int),s.length<n→Za n l s=.error e→e=2
 | 0,_,_,_,h,_=>absurd h (Nat.not_lt_zero _)
 | n+1,l,s,e,h,hr=>by
  simp only[Za] at hr
  split at hr
  ·cases hr
  split at hr
  ·rename_i hne hg
   have h1:=zas s
   have h2:0<s.length:=List.length_pos_iff.2 hne
   exact zba n _ _ _ (by simp;omega) hr
  ·cases ho:zU s with
   | none=>rw[ho] at hr;cases hr;rfl
   | some x =>
    rw[ho] at hr
    have:=YU (show zU s=some (x.1,x.2) from ho)
    exact zba n _ _ _ (by omega) hr
theorem Z9 {s:List UInt8} {e:Int} (h:zX s=.error e):e≠0:=by
 unfold zX at h
 split at h
 ·cases h;decide
 split at h
 ·rw[zba _ _ _ _ (Nat.lt_succ_self _) h];decide
 ·cases h;decide
def ziY (Out:Int→Heap→Prop):AEnd→Heap→Prop:=fun e H'=>match e with|.ret v=>∃ n:Int,v=.int .i64 n∧Out n H'|.pan _=>False
theorem res_run {ρ:Env} {H:Heap} {b4:Nat} {e:Int} (r4:ρ 4=.ptr b4 0) (h4:H b4=some (.cells [.int .i64 e])):resvs ρ H sp31.res=some [.int .i64 e]:=by
 simp(disch:=first|omega|assumption) only[sp31,resvs,resv,r4,h4,go_sem]
theorem zf0 {s:List UInt8} {Hc:Heap} {clo:FuncId} {caps:List AV} (hl:s.length≤yp) (hcal:Program.callable Tryz.prog clo=true) (Out:Int→Heap→Prop)
  (h1:∀ n,zX s=.error n→Out n Hc)
  (h2:∀ L,zX s=.ok L→∀ r,Hc r=none→ACalls Tryz.prog clo (.ptr r 0::caps) (Hc.upd r (prc L [] 0)) (fun e H'=>match e with
   | .ret _=>∃ p t dp,p++t=L∧H' r=some (prc L p dp)∧Out (if t=[] then 0 else 2) H'
   | .pan v=>∃ n,v=zN n∧∀ H,Out n H)) :
  ACalls Tryz.prog 31 [.str s,.clo clo [] caps] Hc (ziY Out):=by
 refine ACalls.of_sp sp31 ckS31 (Al4 _) ?_
 unfold awpD
 refine Yd fun KP Q hKP hQ=>?_
 simp(disch:=first|omega|assumption) only[sp31,go_sem]
 refine goA_intro fun b4 hb4=>?_
 simp(disch:=first|omega|assumption) only[go_sem]
 refine hQ _ _ _ (Yd fun KP1 Q1 hKP1 hQ1=>?_)
 simp(disch:=first|omega|assumption) only[sp31,go_sem]
 refine goK_pure (Pure.low (ziI s hl)) ?_
 cases hR:zX s with
 | error n =>
  have hn:¬ (n=0):=Z9 hR
  simp(disch:=first|omega|assumption) only[readA,go_sem]
  refine hQ1 _ _ _ (Yd fun KP2 Q2 hKP2 hQ2=>?_)
  simp(disch:=first|omega|assumption) only[sp31,hn,go_sem]
  refine hQ2 _ _ _ ?_
  show finQ sp31.res (ziY Out) .ret _ _
  simp only[finQ]
  rw[res_run (b4:=b4) (e:=n) rfl (upd_same ..)]
  exact⟨Hc,(Low.refl _).upd hb4,n,rfl,h1 n hR⟩
 | ok L =>
  simp(disch:=first|omega|assumption) only[readA,go_sem]
  refine hQ1 _ _ _ (Yd fun KP2 Q2 hKP2 hQ2=>?_)
  simp(disch:=first|omega|assumption) only[sp31,go_sem]
  refine hQ2 _ _ _ (za3 fun Q3 hQ3=>?_)
  simp(disch:=first|omega|assumption) only[sp31,go_sem]
  refine hQ3 _ _ ⟨74,_,rfl,by decide +kernel,Yd fun KP4 Q4 hKP4 hQ4=>?_⟩
  have fin:∀(ρ1:Env) (H H2:Heap) (e:Int),ρ1 4=.ptr b4 0→H b4=some (.cells [.int .i64 e])→Low H2 H→Out e H2→finS sp31 (ziY Out) ρ1 H:=by
   intro ρ1 H H2 e r4 g4 hlow ho
   refine⟨_,res_run (b4:=b4) (e:=e) ?_ g4,H2,hlow,e,rfl,ho⟩
   rw[keep_get,if_pos (by decide)];exact r4
  have hpan:∀(n:Int) (H0 H':Heap) (c4:List AV),Low H0 H'→H0 b4=some (.cells c4)→c4.length=1→(∀ H,Out n H)→KP4 (zN n) H':=by
   intro n H0 H' c4 hlow g4 l4 ho
   exact hKP4 _ _ ⟨H0,hlow,zim g4 l4 fun b x hb=>fin _ _ Heap.emp n rfl (upd_same ..) (Low.of_sub (sub_emp _)) (ho _)⟩
  simp(disch:=first|omega|assumption) only[sp31,go_sem]
  refine goA_intro fun br hbr=>?_
  have hbr4:br≠b4:=fun e=>by subst e;rw[upd_same] at hbr;cases hbr
  have hbrH:Hc br=none:=by rw[upd_ne hbr4] at hbr;exact hbr
  simp(disch:=first|omega|assumption) only[hcal,go_sem]
  obtain⟨x4,hx4⟩:∃ x4:AObj,x4=.cells [.int .i64 0]:=⟨_,rfl⟩
  have hun:(Hc.upd b4 (.cells [.int .i64 0])).upd br (.cells [.sl .no 2 (cKs L),.int .i64 0,.int .i64 0])=Heap.union (Hc.upd br (prc L [] 0)) (Heap.one b4 x4):=by
   funext c
   by_cases e1:c=br
   ·subst e1;rw[upd_same];simp[Heap.union,Heap.upd,prc]
   ·rw[upd_ne e1]
    by_cases e2:c=b4
    ·subst e2;rw[upd_same];simp[Heap.union,Heap.upd,Heap.one,e1,hb4,hx4]
    ·rw[upd_ne e2];simp[Heap.union,Heap.upd,Heap.one,e1,e2]
  have hd:Heap.Disj (Hc.upd br (prc L [] 0)) (Heap.one b4 x4):=fun c=>by
   by_cases e:c=b4
   ·subst e;exact .inl (by rw[upd_ne (Ne.symm hbr4)];exact hb4)
   ·exact .inr (by simp[Heap.one,e])
  have hc:=ACalls.frame hd (h2 L hR br hbrH)
  rw[hun]
  refine goK_calls hc fun e H' ⟨A',hq,hd',hH'⟩=>?_
  subst hH'
  have hB4:Heap.one b4 x4 b4=some (.cells [.int .i64 0]):=by simp[Heap.one,hx4]
  have hA4:A' b4=none:=by
   rcases hd' b4 with h|h
   ·exact h
   ·rw[hB4] at h;cases h
  have g4:Heap.union A' (Heap.one b4 x4) b4=some (.cells [.int .i64 0]):=by simp[Heap.union,hA4,hB4]
  cases e with
  | pan v =>
   obtain⟨n,hv,ho⟩:=hq
   subst hv
   exact hpan n (Heap.one b4 x4) _ _ (Low.of_sub fun c x hc=>by
    rcases hd' c with h|h
    ·simp[Heap.union,h,hc]
    ·rw[hc] at h;cases h) hB4 rfl ho
  | ret v =>
   obtain⟨p,t,dp,hp,hr,ho⟩:=hq
   have gr:Heap.union A' (Heap.one b4 x4) br=some (prc L p dp):=by simp[Heap.union,hr]
   have lowA:∀ b x (Hx:Heap),(∀ c y,A' c=some y→Hx c=some y)→Hx b=none→Low A' ((Hx.upd b x).upd b4 (.cells [.int .i64 0]))∧Low A' ((Hx.upd b x).upd b4 (.cells [.int .i64 2])):=fun b x Hx hs hb=>by
    have sub:∀ z,∀ c y,A' c=some y→((Hx.upd b x).upd b4 z) c=some y:=fun z c y hcy=>by
     rw[upd_ne (fun e=>by rw[e,hA4] at hcy;cases hcy),upd_ne (fun e=>by rw[← e,hs _ _ hcy] at hb;cases hb)]
     exact hs _ _ hcy
    exact⟨Low.of_sub (sub _),Low.of_sub (sub _)⟩
   have subU:∀ c y,A' c=some y→Heap.union A' (Heap.one b4 x4) c=some y:=fun c y hc=>by simp[Heap.union,hc]
   show goR _ _ _ _ _ _ _ _ _
   simp(disch:=first|omega|assumption) only[go_sem]
   refine goK_ret (zgB hp gr) fun v5 H5 ⟨hv5,hH5⟩=>?_
   subst hv5;subst hH5
   cases t with
   | nil =>
    simp only[if_true] at ho
    simp(disch:=first|omega|assumption) only[g4,go_sem]
    refine hQ4 _ _ _ ⟨_,Low.refl _,zjn fun b y hb=>?_⟩
    have n4:b4≠b:=fun e=>by subst e;rw[upd_same] at hb;cases hb
    refine fin _ _ A' 0 rfl (by rw[upd_ne n4,upd_same]) ?_ ho
    refine Low.of_sub fun c z hcz=>?_
    have hc4:c≠b4:=fun e=>by rw[e,hA4] at hcz;cases hcz
    have hcb:c≠b:=fun e=>by rw[← e,upd_ne hc4,subU _ _ hcz] at hb;cases hb
    rw[upd_ne hcb,upd_ne hc4];exact subU _ _ hcz
   | cons a u =>
    rw[if_neg (by simp)] at ho
    simp(disch:=first|omega|assumption) only[go_sem]
    exact goK_both (zi9 _ br 2) (fun _ _ h=>h.elim) fun v H6 ⟨h6,h7⟩=>by
     subst h6;subst h7
     exact hKP4 _ _ ⟨_,Low.refl _,zim g4 rfl fun b y hb=>fin _ _ A' 2 rfl (upd_same ..) (lowA b y _ subU hb).2 ho⟩
def Zc {α:Type} (f:TS→PR α):Prop:=∀ t n,f t=.error n→n≠0
theorem zl {α β:Type} {x:PR α} {f:α→TS→PR β} {e:Int} (h:pb x f=.error e) (hx:∀ n,x=.error n→n≠0) (hf:∀ a t,x=.ok (a,t)→f a t=.error e→e≠0):e≠0:=by
 rcases x with n|⟨a,t⟩
 ·cases h;exact hx _ rfl
 ·exact hf a t rfl h
theorem YG (m:List UInt8):Zc (yA m):=fun t n h=>by
 unfold yA at h
 split at h
 ·cases h
 ·cases h;decide
theorem yj:Zc zL:=fun t n h=>by
 unfold zL at h
 split at h
 ·cases h
 ·cases h;decide
theorem zbW (ty:TyD):Zc (Yt ty):=fun t n h=>by
 unfold Yt at h
 split at h<;>cases h
theorem zax {α:Type} {m:List UInt8} {f:TS→PR α} (hf:Zc f) (hl:∀ t a t',f t=.ok (a,t')→t'.length<t.length):∀(n:Nat) (l:List α) (t:TS) (e:Int),t.length<n→zG m f n l t=.error e→e≠0
 | 0,_,_,_,h,_=>absurd h (Nat.not_lt_zero _)
 | n+1,l,t,e,hn,h=>by
  rw[zG] at h
  split at h
  ·cases h
  ·exact zl h (fun k hk=>hf _ _ hk) fun a t' ha h'=>zax hf hl n _ _ _ (by have:=hl _ _ _ ha;omega) h'
theorem zbn {α:Type} {m:List UInt8} {f:TS→PR α} (hf:Zc f) (hl:∀ t a t',f t=.ok (a,t')→t'.length<t.length):Zc (Yv m f):=fun t n h =>
 zl h (fun k hk=>hf _ _ hk) fun a t' ha h'=>zax hf hl _ _ _ _ (Nat.lt_succ_self _) h'
theorem zcR {α:Type} {m:List UInt8} {f:TS→PR α} (hf:Zc f) (hl:∀ t a t',f t=.ok (a,t')→t'.length<t.length):∀(n:Nat) (l:List α) (t:TS) (e:Int),t.length<n→ZX m f n l t=.error e→e≠0
 | 0,_,_,_,h,_=>absurd h (Nat.not_lt_zero _)
 | n+1,l,t,e,hn,h=>by
  rw[ZX] at h
  split at h
  ·rename_i hp
   have hlt:=zdx hp
   exact zl h (fun k hk=>hf _ _ hk) fun a t' ha h'=>zcR hf hl n _ _ _ (by have:=hl _ _ _ ha;omega) h'
  ·cases h
theorem zdz:∀ k,Zc (ZS k)
 | 0=>fun t n h=>by
  rw[Zm,zbx.eq_def] at h
  split at h
  ·cases h;decide
  ·exact zl h (fun k hk=>yj _ _ hk) fun s t1 _ h'=>zbW _ _ _ h'
 | k+1=>fun t n h=>by
  rw[Zm,zbx.eq_def] at h
  split at h
  ·exact zl h (fun e he=>zdz k _ _ he) fun ty t1 _ h'=>zl h' (fun e he=>YG _ _ _ he) fun _ t2 _ h''=>zbW _ _ _ h''
  ·exact zl h (fun k hk=>yj _ _ hk) fun s t1 _ h'=>zbW _ _ _ h'
theorem zbN {f:TS→PR Val} (hf:Zc f):Zc (zP f):=fun t n h =>
 zl h (fun e he=>yj _ _ he) fun s t1 _ h'=>zl h' (fun e he=>YG _ _ _ he) fun _ t2 _ h2=>zl h2 (fun e he=>hf _ _ he) fun x t3 _ h3=>by cases h3
theorem zfh {fixed:Bool} {sub:Option (TS→PR Val)} (hs:∀ f,sub=some f→Zc f∧GP bV wfV 1 f):Zc (ZR fixed sub):=fun t n h=>by
 rw[ZR.eq_def] at h
 split at h
 ·cases h
 split at h
 ·cases h
 split at h
 ·cases h
 split at h
 ·cases sub with
  | none=>cases h;decide
  | some f =>
   obtain⟨h1,h2⟩:=hs f rfl
   exact zl h (fun e he=>zax h1 (h2.lt (by decide)) _ _ _ _ (Nat.lt_succ_self _) he) fun l t' _ h'=>by cases h'
 split at h
 ·cases sub with
  | none=>cases h;decide
  | some f =>
   obtain⟨h1,h2⟩:=hs f rfl
   exact zl h (fun e he=>zax (zbN h1) ((z8 h2).lt (by decide)) _ _ _ _ (Nat.lt_succ_self _) he) fun l t' _ h'=>by cases h'
 split at h
 ·cases h;decide
 ·exact zl h (fun e he=>YG _ _ _ he) fun _ t1 _ h1=>zl h1 (fun e he=>yj _ _ he) fun s t2 _ h2=>by cases h2
theorem zbD (fixed:Bool):∀ k,Zc (yc fixed k)
 | 0=>fun t n h=>zfh (sub:=none) (fun f hf=>by cases hf) t n (by rw[zZ] at h;exact h)
 | k+1=>fun t n h=>zfh (sub:=some (yc fixed k)) (fun f hf=>by cases hf;exact⟨zbD fixed k,yb fixed k⟩) t n (by rw[zZ] at h;exact h)
theorem zd7 (fixed:Bool) (k:Nat):Zc (ZI fixed k):=fun t n h=>by
 unfold ZI at h
 split at h
 ·exact zbn (zbN (zbD fixed k)) ((z8 (yb fixed k)).lt (by decide)) _ _ h
 ·cases h
theorem zhC (fixed:Bool) (k:Nat):Zc (zc6 fixed k):=fun t n h =>
 zl h (fun e he=>yj _ _ he) fun s t1 _ h1=>zl h1 (fun e he=>zd7 _ _ _ _ he) fun a t2 _ h2=>by cases h2
theorem YI (fixed:Bool) (k:Nat):Zc (Zd fixed k):=fun t n h =>
 zcR (zhC fixed k) ((zbY fixed k).lt (by decide)) _ _ _ _ (Nat.lt_succ_self _) h
theorem zev {sels:TS→PR (List SelD)} (hs:Zc sels) (k:Nat):Zc (yz sels k):=fun t n h=>by
 unfold yz at h
 split at h
 ·exact zl h (fun e he=>yj _ _ he) fun s t1 _ h1=>zl h1 (fun e he=>YI _ _ _ _ he) fun a t2 _ h2=>by cases h2
 ·refine zl h (fun e he=>?_) fun o t1 _ h1=>zl h1 (fun e he=>YI _ _ _ _ he) fun a t2 _ h2=>zl h2 (fun e he=>hs _ _ he) fun l t3 _ h3=>by cases h3
  split at he
  ·exact yj _ _ he
  ·cases he
theorem zhm {sels:TS→PR (List SelD)} (hs:Zc sels) (k:Nat):Zc (YH sels k):=fun t n h=>by
 unfold YH at h
 split at h
 ·exact zev hs k _ _ h
 ·refine zl h (fun e he=>yj _ _ he) fun s t1 _ h1=>zl h1 (fun e he=>?_) fun an t2 _ h2=>zl h2 (fun e he=>zd7 _ _ _ _ he) fun a t3 _ h3=>zl h3 (fun e he=>YI _ _ _ _ he) fun d t4 _ h4=>zl h4 (fun e he=>?_) fun l t5 _ h5=>by cases h5
  ·split at he
   ·exact zl he (fun e he=>yj _ _ he) fun s t2 _ h2=>by cases h2
   ·cases he
  ·split at he
   ·exact hs _ _ he
   ·cases he
theorem zaO:∀ k,Zc (zE k)
 | 0=>fun t n h=>by
  rw[zE] at h
  split at h<;>(cases h;decide)
 | k+1=>fun t n h=>by
  rw[zE] at h
  split at h
  ·exact zbn (zhm (zaO k) k) ((zaS (yN k)).lt (by decide)) _ _ h
  ·cases h;decide
theorem zhp:Zc Ye:=fun t n h =>
 zl h (fun e he=>YG _ _ _ he) fun _ t1 _ h1=>zl h1 (fun e he=>yj _ _ he) fun s t2 _ h2=>zl h2 (fun e he=>YG _ _ _ he) fun _ t3 _ h3=>zl h3 (fun e he=>zdz 4 _ _ he) fun ty t4 _ h4=>by
  split at h4
  ·exact zl h4 (fun e he=>zbD true 16 _ _ he) fun v t5 _ h5=>by cases h5
  ·cases h4
theorem zgH (kind:Int):Zc (opP kind):=fun t n h=>by
 refine zl h (fun e he=>?_) fun s t1 _ h1=>zl h1 (fun e he=>?_) fun vs t2 _ h2=>zl h2 (fun e he=>YI _ _ _ _ he) fun d t3 _ h3=>zl h3 (fun e he=>zaO 16 _ _ he) fun l t4 _ h4=>by cases h4
 ·split at he
  ·exact yj _ _ he
  ·cases he
 ·split at he
  ·exact zbn zhp (Z0.lt (by decide)) _ _ he
  ·cases he
theorem zgZ:Zc zaZ:=fun t n h=>by
 refine zl h (fun e he=>?_) fun s t1 _ h1=>zl h1 (fun e he=>?_) fun _ t2 _ h2=>zl h2 (fun e he=>yj _ _ he) fun o t3 _ h3=>zl h3 (fun e he=>YI _ _ _ _ he) fun d t4 _ h4=>zl h4 (fun e he=>zaO 16 _ _ he) fun l t5 _ h5=>by cases h5
 ·split at he
  ·cases he;decide
  ·exact yj _ _ he
 ·split at he
  ·cases he
  ·cases he;decide
theorem ze5 (d:DocD):Zc (Zl d):=fun t n h=>by
 unfold Zl at h
 split at h
 ·exact zl h (fun e he=>zaO 16 _ _ he) fun l t1 _ h1=>by cases h1
 split at h
 ·exact zl h (fun e he=>zgH _ _ _ he) fun l t1 _ h1=>by cases h1
 split at h
 ·exact zl h (fun e he=>zgH _ _ _ he) fun l t1 _ h1=>by cases h1
 split at h
 ·exact zl h (fun e he=>zgZ _ _ he) fun l t1 _ h1=>by cases h1
 ·cases h;decide
theorem zd8 {d d' : DocD} {t t' : TS} (h : Zl d t = .ok (d', t')) : t'.length < t.length := by
  unfold Zl at h
  split at h
  · obtain ⟨l, t1, h1, h2⟩ := zn h
    cases h2; exact (yN 16).lt (by decide) _ _ _ h1
  split at h
  · rename_i hq
    obtain ⟨l, t1, h1, h2⟩ := zn h
    have : t.tail.length < t.length := by conv => rhs; rw [y9 (YB hq)]
                                          simp
    have h3 := (zbz 0).lt (by decide) _ _ _ h1
    cases h2; omega
  split at h
  · rename_i hq
    obtain ⟨l, t1, h1, h2⟩ := zn h
    have : t.tail.length < t.length := by conv => rhs; rw [y9 (YB hq)]
                                          simp
    have h3 := (zbz 1).lt (by decide) _ _ _ h1
    cases h2; omega
  split at h
  · rename_i hq
    obtain ⟨l, t1, h1, h2⟩ := zn h
    have : t.tail.length < t.length := by conv => rhs; rw [y9 (YB hq)]
                                          simp
    have h3 := zcT.lt (by decide) _ _ _ h1
    cases h2; omega
  · cases h
theorem zdX:∀(n:Nat) (d:DocD) (t:TS) (e:Int),t.length<n→zaB n d t=.error e→e≠0
 | 0,_,_,_,h,_=>absurd h (Nat.not_lt_zero _)
 | n+1,d,t,e,hn,h=>by
  rw[zaB] at h
  split at h
  ·cases h
  ·exact zl h (fun k hk=>ze5 _ _ _ hk) fun d' t' ha h'=>zdX n _ _ _ (by have:=zd8 ha;omega) h'
theorem zhv:Zc zeI:=fun t n h =>
 zl h (fun e he=>ze5 _ _ _ he) fun d t1 ha h1=>zdX _ _ _ _ (by have:=zd8 ha;omega) h1
theorem zgm (p:List UInt8→Bool):∀ l:List (List UInt8),wL (l.dropWhile p)≤wL l
 | []=>Al4 _
 | x::r=>by
  rw[List.dropWhile_cons]
  split
  ·have:=zgm p r;rw[yw];omega
  ·exact Al4 _
theorem zgd (l:List (List UInt8)):wL l.reverse=wL l:=by
 induction l with
 | nil=>rfl
 | cons x r ih=>rw[List.reverse_cons,zae,ih,yw,yw];simp[wL];omega
theorem zen (raw:List UInt8):(zy raw).length≤raw.length+1:=by
 have h1:=Z4 raw []
 have h2:wL (ZL (zg raw))≤wL (zg raw):=by
  cases hx:zg raw with
  | nil=>exact Al4 _
  | cons x r =>
   simp only[ZL]
   rw[yw,yw]
   have:=zbB (indM (x::r)).toNat r
   omega
 unfold zy yG
 have h3:=YV ((((ZL (zg raw)).dropWhile zr).reverse.dropWhile zr).reverse)
 rw[zgd] at h3
 have h4:=zgm zr ((ZL (zg raw)).dropWhile zr).reverse
 rw[zgd] at h4
 have h5:=zgm zr (ZL (zg raw))
 have h6:wL (zg raw)≤raw.length+1:=by simpa[wL,zg] using h1
 omega
theorem ziQ {s t:List UInt8} {x:Tok} (h:zU s=some (x,t)):x.s.length+t.length≤s.length+1:=by
 cases s with
 | nil=>cases h
 | cons c r =>
  rw[za6] at h
  split at h
  ·cases hr:yd (r.length+1) [] (r.drop 2) with
   | none=>rw[hr] at h;cases h
   | some y =>
    rw[hr] at h
    simp only[zK,Al1,Al8] at h
    obtain⟨rfl,rfl⟩:=h
    have h1:=(zci _ _ _ _ _ (show yd _ _ _=some (y.1,y.2) from hr)).1
    have h2:=zen y.1
    simp at h1 ⊢
    omega
  split at h
  ·cases hr:yt zJ r with
   | none=>rw[hr] at h;cases h
   | some y =>
    rw[hr] at h
    simp only[zK,Al1,Al8] at h
    obtain⟨rfl,rfl⟩:=h
    have h1:=ziG (show yt zJ r=some (y.1,y.2) from hr)
    simp only[Al2]
    omega
  split at h
  ·rename_i hp
   have hl:=z7 _ _ hp
   have hd3:yU.length=3:=rfl
   rw[hd3] at hl
   cases h;simp[hd3] at hl ⊢;omega
  split at h
  ·cases h;simp;omega
  split at h
  ·cases h;simp;omega
  split at h
  ·cases h
  split at h
  ·cases h
  ·cases h;simp;omega
theorem zc5:∀(n:Nat) (l:List Tok) (s:List UInt8) (l':List Tok),Za n l s=.ok l'→wT l'≤wT l+6*s.length
 | 0,_,_,_,h=>by cases h
 | n+1,l,s,l',h=>by
  simp only[Za] at h
  split at h
  ·cases h;omega
  split at h
  ·have:=zc5 n _ _ _ h
   simp at this;omega
  ·cases ho:zU s with
   | none=>rw[ho] at h;cases h
   | some x =>
    rw[ho] at h
    have h1:=YU (show zU s=some (x.1,x.2) from ho)
    have h2:=ziQ (show zU s=some (x.1,x.2) from ho)
    have h3:=zc5 n _ _ _ h
    have h4:wT (l++[x.1])=wT l+wK x.1:=by simp[wT]
    rw[h4,wK] at h3
    omega
theorem zaL {s:List UInt8} {L:List Tok} (h:zX s=.ok L):wT L≤zp:=by
 obtain⟨h1,_,h3⟩:=zd5 h
 have h4:=zc5 _ _ _ _ h3
 have e:wT ([]:List Tok)=0:=rfl
 rw[e] at h4
 simp only[zp];omega
def zdp (s:List UInt8):DocD×Int:=match zX s with
 | .error n=>(⟨[],[]⟩,n)
 | .ok L=>match zeI L with
  | .error n=>(⟨[],[]⟩,n)
  | .ok (d,_)=>(d,0)
def ZP (fixed:Bool) (s:List UInt8):Val×Int:=match zX s with
 | .error n=>(zV,n)
 | .ok L=>match yc fixed 16 L with
  | .error n=>(zV,n)
  | .ok (v,t)=>if t=[] then (v,0) else (zV,2)
def tyR (s:List UInt8):TyD×Int:=match zX s with
 | .error n=>(⟨[],0,0⟩,n)
 | .ok L=>match ZS 4 L with
  | .error n=>(⟨[],0,0⟩,n)
  | .ok (v,t)=>if t=[] then (v,0) else (⟨[],0,0⟩,2)
theorem zic {s:List UInt8} {L:List Tok} {fixed:Bool} {n:Int} (h:zX s=.ok L) (he:yc fixed 16 L=.error n):n≠0:=zbD fixed 16 _ _ he
theorem zht {L:List Tok} {n:Int} (he:ZS 4 L=.error n):n≠0:=zdz 4 _ _ he
theorem zhP {s:List UInt8} {L:List Tok} {n:Int} (h:zX s=.ok L) (he:zeI L=.error n):n≠0:=zhv _ _ he
def zhk (fixed:Bool) (s:List UInt8) (b:Nat) (n:Int) (H:Heap):Prop:=(n≠0∧ZP fixed s=(zV,n))∨(n=0∧∃ v,ZP fixed s=(v,0)∧H b=some (.cells (cV v)))
theorem zhS {s:List UInt8} {L:List Tok} (fixed:Bool) (hR:zX s=.ok L) {Hc:Heap} {b6 r:Nat} (h6:Hc b6=some (.cells zB)) (hr:Hc r=none) :
  ACalls Tryz.prog 32 [.ptr r 0,.view [.bool fixed],.ptr b6 0] (Hc.upd r (prc L [] 0)) (fun e H'=>match e with
   | .ret _=>∃ p t dp,p++t=L∧H' r=some (prc L p dp)∧zhk fixed s b6 (if t=[] then 0 else 2) H'
   | .pan v=>∃ n,v=zN n∧∀ H,zhk fixed s b6 n H):=by
 refine ACalls.goO (R:=fun _ H'=>∃ p t dp,p++t=L∧H' r=some (prc L p dp)∧zhk fixed s b6 (if t=[] then 0 else 2) H') (RP:=fun v _=>∃ n,v=zN n∧∀ H,zhk fixed s b6 n H) ir32 ck32 (Al4 _) fun KP Q hQ hP=>?_
 have n6:b6≠r:=fun e=>by subst e;rw[hr] at h6;cases h6
 simp(disch:=first|omega|assumption) only[ir32,go_sem]
 refine goK_both (YO fixed 16 (Al4 _) _ r L [] L rfl (zaL hR) (upd_same ..)) (fun v H1 ⟨x,t,e,hv,ha⟩=>?_) fun v H1 ⟨n,e,hv⟩=>hP v H1 H1 (Low.refl _) ⟨n,hv,fun H=>.inl ⟨zic hR e,by unfold ZP;rw[hR];simp only[e]⟩⟩
 subst hv
 obtain⟨p,hp,hr1⟩:=ha.at
 have g6:H1 b6=some (.cells zB):=by rw[ha.other n6,upd_ne n6,h6]
 simp only[zB] at g6
 simp(disch:=first|omega|assumption) only[zi,zd,zb,zj,ze,za,zq,g6,go_sem]
 refine hQ _ _ _ _ [] nofun rfl (Low.refl _) ⟨p,t,16-16,hp,by rw[upd_ne (Ne.symm n6)];exact hr1,?_⟩
 by_cases ht:t=[]
 ·rw[if_pos ht]
  exact .inr ⟨rfl,x,by unfold ZP;rw[hR];simp only[e];rw[if_pos ht],upd_same ..⟩
 ·rw[if_neg ht]
  exact .inl ⟨by decide,by unfold ZP;rw[hR];simp only[e];rw[if_neg ht]⟩
theorem zej {b4 b6:Nat} {x y:AObj} (h:b6≠b4):(Heap.emp.upd b4 x).upd b6 y=Heap.union (Heap.one b6 y) (Heap.one b4 x):=by
 funext c
 by_cases e1:c=b6
 ·subst e1;simp[Heap.union,Heap.upd,Heap.one]
 ·by_cases e2:c=b4
  ·subst e2;simp[Heap.union,Heap.upd,Heap.one,e1]
  ·simp[Heap.union,Heap.upd,Heap.one,e1,e2,Heap.emp]
theorem zdw {b4 b6:Nat} {x y:AObj} (h:b6≠b4):Heap.Disj (Heap.one b6 y) (Heap.one b4 x):=fun c=>by
 by_cases e:c=b4
 ·subst e;exact .inl (by simp[Heap.one,Ne.symm h])
 ·exact .inr (by simp[Heap.one,e])
theorem zgJ {A:Heap} {b4:Nat} {x:AObj} (h:Heap.Disj A (Heap.one b4 x)):Heap.union A (Heap.one b4 x) b4=some x:=by
 have hB:Heap.one b4 x b4=some x:=by simp[Heap.one]
 rcases h b4 with h|h
 ·simp[Heap.union,h,hB]
 ·rw[hB] at h;cases h
theorem ziZ {A B:Heap} {b:Nat} {x:AObj} (h:A b=some x):Heap.union A B b=some x:=by simp[Heap.union,h]
theorem zea (s:List UInt8) (fixed:Bool) (hl:s.length≤yp):Pure Tryz.prog 11 [.str s,.bool fixed] (.tup [.agg (cV (ZP fixed s).1),.int .i64 (ZP fixed s).2]):=by
 refine Pure.go ir11 ck11 (Al4 _) fun KP Q hQ=>?_
 simp(disch:=first|omega|assumption) only[ir11,go_sem]
 refine goA_intro fun b4 hb4=>?_
 simp(disch:=first|omega|assumption) only[go_sem]
 refine goA_intro fun b6 hb6=>?_
 have h64:b6≠b4:=fun e=>by subst e;rw[upd_same] at hb6;cases hb6
 have h6c:(Heap.one b6 (.cells zB)) b6=some (.cells zB):=by simp[Heap.one]
 have hc:=ACalls.frame (zdw (x:=.cells zB) h64) (zf0 (s:=s) (Hc:=Heap.one b6 (.cells zB)) (clo:=32) (caps:=[.view [.bool fixed],.ptr b6 0]) hl (by decide +kernel) (zhk fixed s b6)
  (fun n h=>.inl ⟨Z9 h,by unfold ZP;rw[h]⟩) (fun L hR r hr=>zhS fixed hR h6c hr))
 rw[← zej h64] at hc
 simp(disch:=first|omega|assumption) only[go_sem]
 refine goK_calls hc fun e H' ⟨A',hq,hd',hH'⟩=>?_
 subst hH'
 cases e with
 | pan v=>exact hq.elim
 | ret v =>
  obtain⟨n,hv,ho⟩:=hq
  subst hv
  have g4:=zgJ hd'
  simp only[zB] at g4
  show goR _ _ _ _ _ _ _ _ _
  rcases ho with ⟨hn,he⟩|⟨hn,x,he,h6⟩
  ·rw[he] at hQ
   simp(disch:=first|omega|assumption) only[hn,g4,go_sem]
   exact hQ _ _ _ [.agg [.int .i64 0,.int .i64 0,.str [],.sl .nil 5 [],.sl .nil 6 []],.int .i64 n] nofun (by simp(disch:=first|omega|assumption) only[ir11,resvs,resv,go_sem]) (by simp[tupOf,AV.strip,AV.strip1,zV,cV,cVs,cMs])
  ·subst hn
   rw[he] at hQ
   have g6:=ziZ (B:=Heap.one b4 (.cells zB)) h6
   simp(disch:=first|omega|assumption) only[zi,zd,zb,zj,ze,za,zq,g4,g6,go_sem]
   exact hQ _ _ _ [.agg (cV x),.int .i64 0] nofun (by simp(disch:=first|omega|assumption) only[zi,zd,zb,zj,ze,za,zq,ir11,resvs,resv,go_sem]) (by simp[tupOf,AV.strip,AV.strip1,yk])
def TyO (s:List UInt8) (b:Nat) (n:Int) (H:Heap):Prop:=(n≠0∧tyR s=(⟨[],0,0⟩,n))∨(n=0∧∃ v,tyR s=(v,0)∧H b=some (.cells (cTy v)))
theorem ziX {s:List UInt8} {L:List Tok} (hR:zX s=.ok L) {Hc:Heap} {b6 r:Nat} (h6:Hc b6=some (.cells zT)) (hr:Hc r=none) :
  ACalls Tryz.prog 37 [.ptr r 0,.ptr b6 0] (Hc.upd r (prc L [] 0)) (fun e H'=>match e with
   | .ret _=>∃ p t dp,p++t=L∧H' r=some (prc L p dp)∧TyO s b6 (if t=[] then 0 else 2) H'
   | .pan v=>∃ n,v=zN n∧∀ H,TyO s b6 n H):=by
 refine ACalls.goO (R:=fun _ H'=>∃ p t dp,p++t=L∧H' r=some (prc L p dp)∧TyO s b6 (if t=[] then 0 else 2) H') (RP:=fun v _=>∃ n,v=zN n∧∀ H,TyO s b6 n H) ir37 ck37 (Al4 _) fun KP Q hQ hP=>?_
 have n6:b6≠r:=fun e=>by subst e;rw[hr] at h6;cases h6
 simp(disch:=first|omega|assumption) only[ir37,go_sem]
 refine goK_both (zha (dp:=0) (p:=[]) (t:=L) rfl (zaL hR) (upd_same ..)) (fun v H1 ⟨x,t,e,hv,ha⟩=>?_) fun v H1 ⟨n,e,hv⟩=>hP v H1 H1 (Low.refl _) ⟨n,hv,fun H=>.inl ⟨zht e,by unfold tyR;rw[hR];simp only[e]⟩⟩
 subst hv
 obtain⟨p,hp,hr1⟩:=ha.at
 have g6:H1 b6=some (.cells zT):=by rw[ha.other n6,upd_ne n6,h6]
 simp only[zT] at g6
 simp(disch:=first|omega|assumption) only[g6,cTy,go_sem]
 refine hQ _ _ _ _ [] nofun rfl (Low.refl _) ⟨p,t,0,hp,by rw[upd_ne (Ne.symm n6)];exact hr1,?_⟩
 by_cases ht:t=[]
 ·rw[if_pos ht]
  exact .inr ⟨rfl,x,by unfold tyR;rw[hR];simp only[e];rw[if_pos ht],upd_same ..⟩
 ·rw[if_neg ht]
  exact .inl ⟨by decide,by unfold tyR;rw[hR];simp only[e];rw[if_neg ht]⟩
theorem zes (s:List UInt8) (hl:s.length≤yp):Pure Tryz.prog 13 [.str s] (.tup [.agg (cTy (tyR s).1),.int .i64 (tyR s).2]):=by
 refine Pure.go ir13 ck13 (Al4 _) fun KP Q hQ=>?_
 simp(disch:=first|omega|assumption) only[ir13,go_sem]
 refine goA_intro fun b4 hb4=>?_
 simp(disch:=first|omega|assumption) only[go_sem]
 refine goA_intro fun b6 hb6=>?_
 have h64:b6≠b4:=fun e=>by subst e;rw[upd_same] at hb6;cases hb6
 have h6c:(Heap.one b6 (.cells zT)) b6=some (.cells zT):=by simp[Heap.one]
 have hc:=ACalls.frame (zdw (x:=.cells zT) h64) (zf0 (s:=s) (Hc:=Heap.one b6 (.cells zT)) (clo:=37) (caps:=[.ptr b6 0]) hl (by decide +kernel) (TyO s b6)
  (fun n h=>.inl ⟨Z9 h,by unfold tyR;rw[h]⟩) (fun L hR r hr=>ziX hR h6c hr))
 rw[← zej h64] at hc
 simp(disch:=first|omega|assumption) only[go_sem]
 refine goK_calls hc fun e H' ⟨A',hq,hd',hH'⟩=>?_
 subst hH'
 cases e with
 | pan v=>exact hq.elim
 | ret v =>
  obtain⟨n,hv,ho⟩:=hq
  subst hv
  have g4:=zgJ hd'
  simp only[zT] at g4
  show goR _ _ _ _ _ _ _ _ _
  rcases ho with ⟨hn,he⟩|⟨hn,x,he,h6⟩
  ·rw[he] at hQ
   simp(disch:=first|omega|assumption) only[hn,g4,go_sem]
   exact hQ _ _ _ [.agg [.str [],.int .i64 0,.int .i64 0],.int .i64 n] nofun (by simp(disch:=first|omega|assumption) only[ir13,resvs,resv,go_sem]) (by simp[tupOf,AV.strip,AV.strip1,cTy])
  ·subst hn
   rw[he] at hQ
   have g6:=ziZ (B:=Heap.one b4 (.cells zT)) h6
   simp only[cTy,zT] at g6
   simp(disch:=first|omega|assumption) only[g4,g6,go_sem]
   exact hQ _ _ _ [.agg [.str x.nm,.int .i64 x.lists,.int .i64 x.musts],.int .i64 0] nofun (by simp(disch:=first|omega|assumption) only[ir13,resvs,resv,go_sem]) (by simp[tupOf,AV.strip,AV.strip1,cTy])
abbrev zeE:List AV:=[.sl .nil 5 [],.sl .nil 4 []]
def zgu (s:List UInt8) (b:Nat) (n:Int) (H:Heap):Prop:=(n≠0∧zdp s=(⟨[],[]⟩,n))∨(n=0∧∃ d o1 o2,zdp s=(d,0)∧H b=some (.cells [.sl o1 5 (cOs d.ops),.sl o2 4 (cFs d.frags)]))
theorem zh5 {s:List UInt8} {L:List Tok} (hR:zX s=.ok L) {Hc:Heap} {b6 r:Nat} (h6:Hc b6=some (.cells zeE)) (hr:Hc r=none) :
  ACalls Tryz.prog 72 [.ptr r 0,.ptr b6 0] (Hc.upd r (prc L [] 0)) (fun e H'=>match e with
   | .ret _=>∃ p t dp,p++t=L∧H' r=some (prc L p dp)∧zgu s b6 (if t=[] then 0 else 2) H'
   | .pan v=>∃ n,v=zN n∧∀ H,zgu s b6 n H):=by
 refine ACalls.goO (R:=fun _ H'=>∃ p t dp,p++t=L∧H' r=some (prc L p dp)∧zgu s b6 (if t=[] then 0 else 2) H') (RP:=fun v _=>∃ n,v=zN n∧∀ H,zgu s b6 n H) ir72 ck72 (Al4 _) fun KP Q hQ hP=>?_
 have n6:b6≠r:=fun e=>by subst e;rw[hr] at h6;cases h6
 have hw:=zaL hR
 have pan:∀(v:AV) (H1:Heap) (n:Int),v=zN n→zeI L=.error n→KP v H1:=fun v H1 n h1 h2=>hP v H1 H1 (Low.refl _) ⟨n,h1,fun H=>.inl ⟨zhP hR h2,by unfold zdp;rw[hR];simp only[h2]⟩⟩
 have D0:DI L r b6 (Hc.upd r (prc L [] 0)) L ⟨[],[]⟩ .nil .nil:=⟨⟨[],rfl,upd_same ..⟩,by rw[upd_ne n6];exact h6,rfl,rfl,nofun,n6⟩
 simp(disch:=first|omega|assumption) only[ir72,go_sem]
 refine goK_calls (zit D0 hw (Nat.zero_le _)) fun e H1 hq=>?_
 cases e with
 | pan v =>
  obtain⟨n,hv,he⟩:=hq
  exact pan v H1 n hv (by unfold zeI;rw[he];rfl)
 | ret v =>
  obtain⟨d1,t1,o1,o2,e1,hv,D1,hl1,hlt1⟩:=hq
  subst hv
  obtain⟨R,hRR⟩:∃ R,zaB (L.length+1-0) d1 t1=R:=⟨_,rfl⟩
  have hx:zeI L=zaB (t1.length+1) d1 t1:=by unfold zeI;rw[e1];rfl
  obtain⟨R,hRR⟩:∃ R,zaB (t1.length+1) d1 t1=R:=⟨_,rfl⟩
  rw[hRR] at hx
  show goR _ _ _ _ _ _ _ _ _
  simp(disch:=first|omega|assumption) only[go_sem]
  refine goL_st (fun x:DocD×TS×Own×Own=>[]) (fun x H'=>DI L r b6 H' x.2.1 x.1 x.2.2.1 x.2.2.2∧(∃ m,x.2.1.length<m∧zaB m x.1 x.2.1=R)∧x.1.ops.length+x.1.frags.length+x.2.1.length≤L.length) (fun x=>x.2.1.length) (d1,t1,o1,o2) (by simp(disch:=first|omega|assumption) only[go_sem]) ⟨D1,⟨_,Nat.lt_succ_self _,hRR⟩,by simpa using hl1⟩ ?_
  rintro⟨d,t,p1,p2⟩ H2 J ⟨D2,⟨m,hm,hR2⟩,hlen⟩ hJ
  simp only at D2 hm hR2 hlen
  obtain⟨m,rfl⟩:∃ j,m=j+1:=⟨m-1,by omega⟩
  obtain⟨q,hq,hr2⟩:=D2.rd
  rw[zaB] at hR2
  simp(disch:=first|omega|assumption) only[go_sem]
  refine goK_ret (zgB hq hr2) fun v3 H3 ⟨hv3,hH3⟩=>?_
  subst hv3;subst hH3
  by_cases ht:t=[]
  ·rw[if_pos ht] at hR2
   have hd:decide (t≠[])=false:=by simp[ht]
   rw[hd]
   simp(disch:=first|omega|assumption) only[go_sem]
   refine hQ _ _ _ _ [] nofun rfl (Low.refl _) ⟨q,t,16-16,hq,hr2,?_⟩
   rw[if_pos ht]
   exact .inr ⟨rfl,d,p1,p2,by unfold zdp;rw[hR];simp only[hx,← hR2],D2.box⟩
  ·rw[if_neg ht] at hR2
   have hd:decide (t≠[])=true:=by simp[ht]
   rw[hd]
   simp(disch:=first|omega|assumption) only[go_sem]
   refine goK_calls (zit D2 hw (by omega)) fun e H4 hq4=>?_
   cases e with
   | pan v =>
    obtain⟨n,hv,he⟩:=hq4
    exact pan v H4 n hv (by rw[hx,← hR2,he];rfl)
   | ret v =>
    obtain⟨d4,t4,o3,o4,e4,hv,D4,hl4,hlt4⟩:=hq4
    subst hv
    rw[e4,zf] at hR2
    show goR _ _ _ _ _ _ _ _ _
    simp(disch:=first|omega|assumption) only[go_sem]
    exact goJ (hJ (d4,t4,o3,o4) _ (by simp only;omega) ⟨D4,⟨m,by simp only;omega,hR2⟩,by simp only;omega⟩) (by simp(disch:=first|omega|assumption) only[go_sem])
theorem zcf (s:List UInt8) (hl:s.length≤yp):Pure Tryz.prog 30 [.str s] (.tup [.agg (zgN (zdp s).1),.int .i64 (zdp s).2]):=by
 refine Pure.go ir30 ck30 (Al4 _) fun KP Q hQ=>?_
 simp(disch:=first|omega|assumption) only[ir30,go_sem]
 refine goA_intro fun b4 hb4=>?_
 simp(disch:=first|omega|assumption) only[go_sem]
 refine goA_intro fun b6 hb6=>?_
 have h64:b6≠b4:=fun e=>by subst e;rw[upd_same] at hb6;cases hb6
 have h6c:(Heap.one b6 (.cells zeE)) b6=some (.cells zeE):=by simp[Heap.one]
 have hc:=ACalls.frame (zdw (x:=.cells zeE) h64) (zf0 (s:=s) (Hc:=Heap.one b6 (.cells zeE)) (clo:=72) (caps:=[.ptr b6 0]) hl (by decide +kernel) (zgu s b6)
  (fun n h=>.inl ⟨Z9 h,by unfold zdp;rw[h]⟩) (fun L hR r hr=>zh5 hR h6c hr))
 rw[← zej h64] at hc
 simp(disch:=first|omega|assumption) only[go_sem]
 refine goK_calls hc fun e H' ⟨A',hq,hd',hH'⟩=>?_
 subst hH'
 cases e with
 | pan v=>exact hq.elim
 | ret v =>
  obtain⟨n,hv,ho⟩:=hq
  subst hv
  have g4:=zgJ hd'
  simp only[zeE] at g4
  show goR _ _ _ _ _ _ _ _ _
  rcases ho with ⟨hn,he⟩|⟨hn,x,o1,o2,he,h6⟩
  ·rw[he] at hQ
   simp(disch:=first|omega|assumption) only[hn,g4,go_sem]
   exact hQ _ _ _ [.agg [.sl .nil 5 [],.sl .nil 4 []],.int .i64 n] nofun (by simp(disch:=first|omega|assumption) only[ir30,resvs,resv,go_sem]) (by simp[tupOf,AV.strip,AV.strip1,zgN,cOs,cFs])
  ·subst hn
   rw[he] at hQ
   have g6:=ziZ (B:=Heap.one b4 (.cells zeE)) h6
   simp(disch:=first|omega|assumption) only[g4,g6,go_sem]
   exact hQ _ _ _ [.agg [.sl o1 5 (cOs x.ops),.sl o2 4 (cFs x.frags)],.int .i64 0] nofun (by simp(disch:=first|omega|assumption) only[ir30,resvs,resv,go_sem]) (by simp[tupOf,AV.strip,AV.strip1,zgN])
section
variable {L:TS} {r bd b:Nat} {H H':Heap} {s s':St} {d:DocD} {o1 o2 o':Own}
end
end Go.Proofs.YtaielcdfcgpbiaaGreatDoor

namespace Go.Proofs.YtaielcdfcgpbiaaGreatDoor
open Go.Ab
def zjf:List UInt8:=[123,97,32,46,46,46,111,110,32,66,123,99,125,125]
def zjk:List UInt8:=[113,117,101,114,121,40,36,120,58,73,110,116,61,36,121,41,123,97,125]
def awD:DocD:=⟨[⟨0,[],[],[],[.mk 0 [] [97] [] [] [] [],.mk 2 [] [] [] [] [66] [.mk 0 [] [99] [] [] [] []]]⟩],[]⟩
theorem aw1:zdp zjf=(awD,0):=by kernel_rfl
theorem aw2:zdp zjk=(⟨[],[]⟩,2):=by kernel_rfl
theorem zfo:Pure Tryz.prog 10 [] (.bool true):=by
 refine Pure.go ir10 ck10 (Al4 _) fun KP Q hQ=>?_
 have h1:=zcf zjf (by decide)
 have h2:=zcf zjk (by decide)
 rw[aw1] at h1
 rw[aw2] at h2
 have ed:zgN awD=[.sl .no 5 [[.int .i64 0,.str [],.sl .no 10 [],.sl .no 2 [],.sl .no 7 [[.int .i64 0,.str [],.str [97],.sl .no 6 [],.sl .no 2 [],.str [],.sl .no 7 []],[.int .i64 2,.str [],.str [],.sl .no 6 [],.sl .no 2 [],.str [66],.sl .no 7 [[.int .i64 0,.str [],.str [99],.sl .no 6 [],.sl .no 2 [],.str [],.sl .no 7 []]]]]]],.sl .no 4 []]:=rfl
 have ez:zgN ⟨[],[]⟩=[.sl .no 5 [],.sl .no 4 []]:=rfl
 simp(disch:=first|omega|assumption) only[ir10,go_sem]
 refine goK_pure (h1:Pure Tryz.prog 30 [.str _] _) ?_
 simp(disch:=first|omega|assumption) only[ed,go_sem]
 refine goA_intro fun b1 hb1=>?_
 simp(disch:=first|omega|assumption) only[go_sem]
 refine goK_pure (h2:Pure Tryz.prog 30 [.str _] _) ?_
 simp(disch:=first|omega|assumption) only[ez,go_sem]
 refine goA_intro fun b2 hb2=>?_
 have h21:b2≠b1:=fun e=>by subst e;rw[upd_same] at hb2;cases hb2
 simp(disch:=first|omega|assumption) only[Ne.symm h21,h21,Al2,Al3,List.getD_cons_zero,List.getD_cons_succ,go_sem]
 exact hQ _ _ _ _ nofun rfl (by simp[tupOf,envOf,AV.strip,AV.strip1])
structure TokQ (s:List UInt8) (L:TS) (e:Int):Prop where
 tok:readA (zX s)=.tup [.sl .no 2 (cKs L),.int .i64 e]
 w:wT L≤zp
 num:∀ x∈L,zcQ x
 or:(e=0∧zX s=.ok L)∨(e≠0∧zX s=.error e)
theorem zjO (s:List UInt8):∃ L e,TokQ s L e:=by
 cases h:zX s with
 | error n=>exact⟨[],n,by rw[h];rfl,by simp[wT],(fun x hx=>nomatch hx),.inr ⟨Z9 h,h⟩⟩
 | ok L=>exact⟨L,0,by rw[h];rfl,zaL h,fun x hx=>zfO (ZW.1 (zdT h) x hx),.inl ⟨rfl,h⟩⟩
def whS (L:TS) (s:St):St:=if s.i<L.length then yM 2 s else s
theorem ze7 {L:TS} {H:Heap} {r:Nat} {s:St} (hr:H r=some (poc L s)):ACalls Tryz.prog 36 [.ptr r 0] H (PQ H r L (.tup []) (whS L s)):=by
 refine ACalls.go ir36 ck36 (Al4 _) fun KP Q hQ=>?_
 have hr':=hr
 simp only[poc] at hr'
 have hcl:=YX L
 by_cases h:s.i<L.length
 ·have h':((s.i:Int)<(L.length:Int))=True:=eq_true (by omega)
  simp(disch:=first|omega|assumption) only[ir36,hr',hcl,h',go_sem]
  refine goK_ret (zcM hr 2) fun v H1 ⟨hv,hH⟩=>?_
  subst hv;subst hH
  simp(disch:=first|omega|assumption) only[go_sem]
  exact hQ _ _ _ _ [] nofun rfl (Low.refl _) ⟨rfl,by simp[whS,h]⟩
 ·have h':¬ ((s.i:Int)<(L.length:Int)):=by omega
  simp(disch:=first|omega|assumption) only[ir36,hr',hcl,h',go_sem]
  exact hQ _ _ _ H [] nofun rfl (Low.refl _) ⟨rfl,by simp only[whS,h,if_false];exact(zgD hr).symm⟩
def WhQ {α:Type} (L:TS) (x:PR α) (R:α×St):Prop:=match x with
 | .error n=>n≠0∧(whS L R.2).e=n
 | .ok (a,t)=>R.1=a∧(t=[]→(whS L R.2).e=0)∧(t≠[]→(whS L R.2).e=2)
theorem zgW {α:Type} {L:TS} {x:PR α} {D:Int} {R:α×St} (h:Yp L x D R):WhQ L x R:=by
 cases x with
 | error n =>
  obtain⟨h1,h2⟩:=h
  refine⟨h1,?_⟩
  unfold whS
  split
  ·rw[yL (by rw[h2];exact h1)];exact h2
  ·exact h2
 | ok y =>
  obtain⟨a,t⟩:=y
  obtain⟨i,h1,h2⟩:=h
  subst h2
  refine⟨rfl,fun ht=>?_,fun ht=>?_⟩
  ·have:¬ (i<L.length):=fun hi=>by rw[h1] at ht;have:=congrArg List.length ht;simp at this;omega
   simp[whS,this]
  ·have:i<L.length:=Nat.lt_of_not_le fun hi=>ht (by rw[h1];exact List.drop_eq_nil_of_le hi)
   simp[whS,this,yM]
theorem zjd (s:List UInt8) (fixed:Bool) (hs:s.length≤yp):Pure Tryz.prog 12 [.str s,.bool fixed] (.tup [.agg (cV (ZP fixed s).1),.int .i64 (ZP fixed s).2]):=by
 refine Pure.go ir12 ck12 (Al4 _) fun KP Q hQ=>?_
 obtain⟨L,e,hq⟩:=zjO s
 have hl:=hq.w
 have ht:=zfq s hs
 rw[hq.tok] at ht
 obtain⟨R,hR⟩:∃ R,yX L fixed 16 ⟨0,0,e⟩=R:=⟨_,rfl⟩
 have hfin:((whS L R.2).e=0→ZP fixed s=(R.1,0))∧((whS L R.2).e≠0→ZP fixed s=(zV,(whS L R.2).e)):=by
  rcases hq.or with ⟨he,hok⟩|⟨he,hok⟩
  ·subst he
   have h1:=(zb1 hq.num fixed 16 (Al4 _)).rel 0
   have h1:Yp L (yc fixed 16 L) (16-((16:Nat):Int)) R:=by rw[← hR];exact h1
   have h2:=zgW h1
   cases hx:yc fixed 16 L with
   | error n =>
    rw[hx] at h2
    refine⟨fun h0=>absurd h0 (by rw[h2.2];exact h2.1),fun _=>?_⟩
    unfold ZP;rw[hok];simp only[hx];rw[h2.2]
   | ok y =>
    obtain⟨a,t⟩:=y
    rw[hx] at h2
    by_cases ht:t=[]
    ·refine⟨fun _=>?_,fun h0=>absurd (h2.2.1 ht) h0⟩
     unfold ZP;rw[hok];simp only[hx];rw[if_pos ht,h2.1]
    ·have h3:=h2.2.2 ht
     refine⟨fun h0=>by rw[h3] at h0;exact absurd h0 (by decide),fun _=>?_⟩
     unfold ZP;rw[hok];simp only[hx];rw[if_neg ht,h3]
  ·have h1:R.2.e=e:=by rw[← hR];exact zfZ he
   have h2:(whS L R.2).e=e:=by
    unfold whS;split
    ·rw[yL (by rw[h1];exact he)];exact h1
    ·exact h1
   exact⟨fun h0=>absurd h0 (by rw[h2];exact he),fun _=>by rw[h2];unfold ZP;rw[hok]⟩
 simp(disch:=first|omega|assumption) only[ir12,go_sem]
 refine goA_intro fun b4 hb4=>?_
 simp(disch:=first|omega|assumption) only[go_sem]
 refine goK_pure (Pure.low ht) ?_
 simp(disch:=first|omega|assumption) only[go_sem]
 refine goA_intro fun br hbr=>?_
 have hr4:br≠b4:=fun e=>by subst e;rw[upd_same] at hbr;cases hbr
 simp(disch:=first|omega|assumption) only[go_sem]
 have hgr:((Heap.emp.upd b4 (.cells zB5)).upd br (poc L ⟨0,0,e⟩)) br=some (poc L ⟨0,0,e⟩):=upd_same ..
 refine goK_ret (ze6 hl hq.num fixed 16 (Al4 _) hgr (fun _=>rfl)) fun v H1 ⟨hv,h1⟩=>?_
 subst hv
 rw[hR] at h1 ⊢
 have g1:H1 br=some (poc L R.2):=by rw[h1,upd_same]
 have g4:=oth h1 hr4 ((upd_ne (Ne.symm hr4)).trans (upd_same ..))
 clear h1
 try simp(disch:=first|omega|assumption) only[zi,zd,zb,zj,ze,za,zq,go_sem]
 refine goA_intro fun b9 hb9=>?_
 have h9r:b9≠br:=fun e=>by subst e;rw[g1] at hb9;cases hb9
 have h94:b9≠b4:=fun e=>by subst e;rw[g4] at hb9;cases hb9
 simp(disch:=first|omega|assumption) only[zi,zd,zb,zj,ze,za,zq,go_sem]
 have g2:(H1.upd b9 (.cells (cV R.1))) br=some (poc L R.2):=by rw[upd_ne (Ne.symm h9r),g1]
 refine goK_ret (ze7 g2) fun v H2 ⟨hv,h2⟩=>?_
 subst hv
 have g3:H2 br=some (poc L (whS L R.2)):=by rw[h2,upd_same]
 have g34:=oth h2 hr4 ((upd_ne (Ne.symm h94)).trans g4)
 have g39:=oth h2 (Ne.symm h9r) (upd_same ..)
 simp only[poc] at g3
 try simp only[zB5] at g34
 by_cases he:(whS L R.2).e=0
 ·rw[hfin.1 he] at hQ
  simp(disch:=first|omega|assumption) only[zi,zd,zb,zj,ze,za,zq,g3,he,g34,g39,h94,hr4,h9r,go_sem]
  exact hQ _ _ _ [.agg (cV R.1),.int .i64 0] nofun (by simp(disch:=first|omega|assumption) only[zi,zd,zb,zj,ze,za,zq,ir12,resvs,resv,go_sem]) (by simp[tupOf,AV.strip,AV.strip1,yk])
 ·rw[hfin.2 he] at hQ
  simp(disch:=first|omega|assumption) only[zi,zd,zb,zj,ze,za,zq,g3,he,g34,g39,h94,hr4,h9r,go_sem]
  exact hQ _ _ _ [.agg [.int .i64 0,.int .i64 0,.str [],.sl .nil 5 [],.sl .nil 6 []],.int .i64 (whS L R.2).e] nofun (by simp(disch:=first|omega|assumption) only[zi,zd,zb,zj,ze,za,zq,ir12,resvs,resv,go_sem]) (by simp[tupOf,AV.strip,AV.strip1,zV,cV,cVs,cMs])
theorem zjT (s:List UInt8) (hs:s.length≤yp):Pure Tryz.prog 14 [.str s] (.tup [.agg (cTy (tyR s).1),.int .i64 (tyR s).2]):=by
 refine Pure.go ir14 ck14 (Al4 _) fun KP Q hQ=>?_
 obtain⟨L,e,hq⟩:=zjO s
 have hl:=hq.w
 have ht:=zfq s hs
 rw[hq.tok] at ht
 obtain⟨R,hR⟩:∃ R,ZY L 4 ⟨0,0,e⟩=R:=⟨_,rfl⟩
 have hfin:((whS L R.2).e=0→tyR s=(R.1,0))∧((whS L R.2).e≠0→tyR s=(⟨[],0,0⟩,(whS L R.2).e)):=by
  rcases hq.or with ⟨he,hok⟩|⟨he,hok⟩
  ·subst he
   have h1:=(zhf (L:=L) 0 4 (Al4 _)).rel 0
   have h1:Yp L (ZS 4 L) 0 R:=by rw[← hR];exact h1
   have h2:=zgW h1
   cases hx:ZS 4 L with
   | error n =>
    rw[hx] at h2
    refine⟨fun h0=>absurd h0 (by rw[h2.2];exact h2.1),fun _=>?_⟩
    unfold tyR;rw[hok];simp only[hx];rw[h2.2]
   | ok y =>
    obtain⟨a,t⟩:=y
    rw[hx] at h2
    by_cases ht:t=[]
    ·refine⟨fun _=>?_,fun h0=>absurd (h2.2.1 ht) h0⟩
     unfold tyR;rw[hok];simp only[hx];rw[if_pos ht,h2.1]
    ·have h3:=h2.2.2 ht
     refine⟨fun h0=>by rw[h3] at h0;exact absurd h0 (by decide),fun _=>?_⟩
     unfold tyR;rw[hok];simp only[hx];rw[if_neg ht,h3]
  ·have h1:R.2.e=e:=by rw[← hR];exact zb2 4 _ he
   have h2:(whS L R.2).e=e:=by
    unfold whS;split
    ·rw[yL (by rw[h1];exact he)];exact h1
    ·exact h1
   exact⟨fun h0=>absurd h0 (by rw[h2];exact he),fun _=>by rw[h2];unfold tyR;rw[hok]⟩
 simp(disch:=first|omega|assumption) only[ir14,go_sem]
 refine goA_intro fun b4 hb4=>?_
 simp(disch:=first|omega|assumption) only[go_sem]
 refine goK_pure (Pure.low ht) ?_
 simp(disch:=first|omega|assumption) only[go_sem]
 refine goA_intro fun br hbr=>?_
 have hr4:br≠b4:=fun e=>by subst e;rw[upd_same] at hbr;cases hbr
 simp(disch:=first|omega|assumption) only[go_sem]
 have hgr:((Heap.emp.upd b4 (.cells zT)).upd br (poc L ⟨0,0,e⟩)) br=some (poc L ⟨0,0,e⟩):=upd_same ..
 refine goK_ret (zio hl 4 (Al4 _) hgr) fun v H1 ⟨hv,h1⟩=>?_
 subst hv
 rw[hR] at h1 ⊢
 have g1:H1 br=some (poc L R.2):=by rw[h1,upd_same]
 have g4:=oth h1 hr4 ((upd_ne (Ne.symm hr4)).trans (upd_same ..))
 clear h1
 try simp(disch:=first|omega|assumption) only[cTy,go_sem]
 refine goA_intro fun b9 hb9=>?_
 have h9r:b9≠br:=fun e=>by subst e;rw[g1] at hb9;cases hb9
 have h94:b9≠b4:=fun e=>by subst e;rw[g4] at hb9;cases hb9
 simp(disch:=first|omega|assumption) only[go_sem]
 have g2:(H1.upd b9 (.cells [.str R.1.nm,.int .i64 R.1.lists,.int .i64 R.1.musts])) br=some (poc L R.2):=by rw[upd_ne (Ne.symm h9r),g1]
 refine goK_ret (ze7 g2) fun v H2 ⟨hv,h2⟩=>?_
 subst hv
 have g3:H2 br=some (poc L (whS L R.2)):=by rw[h2,upd_same]
 have g34:=oth h2 hr4 ((upd_ne (Ne.symm h94)).trans g4)
 have g39:=oth h2 (Ne.symm h9r) (upd_same ..)
 simp only[poc] at g3
 try simp only[zT] at g34
 by_cases he:(whS L R.2).e=0
 ·rw[hfin.1 he] at hQ
  simp(disch:=first|omega|assumption) only[g3,he,g34,g39,h94,hr4,h9r,go_sem]
  exact hQ _ _ _ [.agg (cTy R.1),.int .i64 0] nofun (by simp(disch:=first|omega|assumption) only[ir14,resvs,resv,cTy,go_sem]) (by simp[tupOf,AV.strip,AV.strip1,cTy])
 ·rw[hfin.2 he] at hQ
  simp(disch:=first|omega|assumption) only[g3,he,g34,g39,h94,hr4,h9r,go_sem]
  exact hQ _ _ _ [.agg [.str [],.int .i64 0,.int .i64 0],.int .i64 (whS L R.2).e] nofun (by simp(disch:=first|omega|assumption) only[ir14,resvs,resv,go_sem]) (by simp[tupOf,AV.strip,AV.strip1,cTy])
theorem zh8 (fixed:Bool) (s:List UInt8):bV (ZP fixed s).1≤zp:=by
 unfold ZP
 cases h:zX s with
 | error n=>simp[zV,bV,bVs,bMs,zp]
 | ok L =>
  cases h2:yc fixed 16 L with
  | error n=>simp[h2,zV,bV,bVs,bMs,zp]
  | ok y =>
   obtain⟨v,t⟩:=y
   simp only[h2]
   have hf:=(yb fixed 16 _ _ _ h2).w
   have hw:=zaL h
   split
   ·simp only;omega
   ·simp[zV,bV,bVs,bMs,zp]
theorem zc3 (s:List UInt8) (fixed:Bool) (hs:s.length≤yp):Pure Tryz.prog 3 [.str s,.bool fixed] (.bool true):=by
 refine Pure.go ir3 ck3 (Al4 _) fun KP Q hQ=>?_
 by_cases h1:(3000:Int)<(s.length:Int)
 ·simp(disch:=first|omega|assumption) only[ir3,h1,go_sem]
  refine goK_pure zfo ?_
  simp(disch:=first|omega|assumption) only[go_sem]
  exact hQ _ _ _ _ nofun rfl (by simp[tupOf,envOf,AV.strip,AV.strip1])
 have hb:=zh8 fixed s
 have hsm:=zjr (ZP fixed s).1 (by simp only[zp] at hb;simp only[Lim];omega) (ZP fixed s).1
 rw[ZZ rfl] at hsm
 simp(disch:=first|omega|assumption) only[ir3,h1,go_sem]
 refine goK_pure (zea s fixed hs) ?_
 obtain⟨V,hV⟩:∃ V,ZP fixed s=V:=⟨_,rfl⟩
 rw[hV] at hsm ⊢
 simp(disch:=first|omega|assumption) only[zi,zd,zb,zj,ze,za,zq,go_sem]
 refine goA_intro fun b5 hb5=>?_
 simp(disch:=first|omega|assumption) only[zi,zd,zb,zj,ze,za,zq,go_sem]
 have hv6:=zjd s fixed hs
 rw[hV] at hv6
 refine goK_pure hv6 ?_
 simp(disch:=first|omega|assumption) only[zi,zd,zb,zj,ze,za,zq,go_sem]
 refine goA_intro fun b7 hb7=>?_
 have h75:b7≠b5:=fun e=>by subst e;rw[upd_same] at hb7;cases hb7
 have hp:=zes s hs
 have hp6:=zjT s hs
 generalize tyR s=T at *
 simp(disch:=first|omega|assumption) only[zi,zd,zb,zj,ze,za,zq,go_sem]
 refine goK_pure hp ?_
 simp(disch:=first|omega|assumption) only[cTy,go_sem]
 refine goA_intro fun b9 hb9=>?_
 have h95:b9≠b5:=fun e=>by subst e;rw[upd_ne (Ne.symm h75),upd_same] at hb9;cases hb9
 have h97:b9≠b7:=fun e=>by subst e;rw[upd_same] at hb9;cases hb9
 simp(disch:=first|omega|assumption) only[go_sem]
 refine goK_pure hp6 ?_
 simp(disch:=first|omega|assumption) only[cTy,go_sem]
 refine goA_intro fun b11 hb11=>?_
 have hB5:b11≠b5:=fun e=>by subst e;rw[upd_ne (Ne.symm h95),upd_ne (Ne.symm h75),upd_same] at hb11;cases hb11
 have hB7:b11≠b7:=fun e=>by subst e;rw[upd_ne (Ne.symm h97),upd_same] at hb11;cases hb11
 have hB9:b11≠b9:=fun e=>by subst e;rw[upd_same] at hb11;cases hb11
 simp(disch:=first|omega|assumption) only[zi,zd,zb,zj,ze,za,zq,h75,h95,h97,hB5,hB7,hB9,Ne.symm h75,Ne.symm h95,Ne.symm h97,Ne.symm hB5,Ne.symm hB7,Ne.symm hB9,go_sem]
 refine goK_pure hsm ?_
 simp(disch:=first|omega|assumption) only[h75,h95,h97,hB5,hB7,hB9,Ne.symm h75,Ne.symm h95,Ne.symm h97,Ne.symm hB5,Ne.symm hB7,Ne.symm hB9,fitsAll,K1.fits,keqs,AV.keq1,Bool.and_true,go_sem]
 refine goK_pure zfo ?_
 simp(disch:=first|omega|assumption) only[go_sem]
 exact hQ _ _ _ _ nofun rfl (by simp[tupOf,envOf,AV.strip,AV.strip1])
end Go.Proofs.YtaielcdfcgpbiaaGreatDoor
