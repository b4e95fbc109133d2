/- Texts joined: Tw5 IrD Rp7 Pe Rp8 Rp9 IrB DocS Vf Pl Lp Lp5 Lp6 Lp7 Lp8. -/
import Derived.Test.YticbbfbpeimkbaaGreatDoorRows
import Derived.Test.YticbbfbpeimkbaaGreatDoorM1
import Derived.Test.YticbbfbpeimkbaaGreatDoorM2
import Derived.Test.YticbbfbpeimkbaaGreatDoorM3
import Derived.Test.YticbbfbpeimkbaaGreatDoorM4
import Derived.Test.YticbbfbpeimkbaaGreatDoorM5
set_option maxRecDepth 100000
set_option linter.unusedSimpArgs false
set_option linter.unusedVariables false
namespace Go.Proofs.YticbbfbpeimkbaaGreatDoor
open Go.Ab Go.Lib
theorem plainC (c:UInt8):Pure Tryz.prog 221 [.int .u8 (c.toNat:Int)] (.bool (lineB c)):=by
 refine Pure.go ir221 ck221 (Nat.le_refl _) fun KP Q hQ=>?_
 by_cases h10:c=10
 ·subst h10
  have hc:((10:UInt8).toNat:Int)=10:=rfl
  simp (disch:=first|omega|assumption) only [ir221,hc,go_sem,↓reduceIte]
  exact hQ _ _ _ _ nofun rfl (by simp [tupOf,envOf,AV.strip,AV.strip1,lineB])
 have g10:¬ ((c.toNat:Int)=10):=fun e=>h10 (UInt8.toNat_inj.1 (by show c.toNat=10;omega))
 by_cases h13:c=13
 ·subst h13
  have hc:((13:UInt8).toNat:Int)=13:=rfl
  simp (disch:=first|omega|assumption) only [ir221,hc,go_sem,↓reduceIte]
  exact hQ _ _ _ _ nofun rfl (by simp [tupOf,envOf,AV.strip,AV.strip1,lineB])
 have g13:¬ ((c.toNat:Int)=13):=fun e=>h13 (UInt8.toNat_inj.1 (by show c.toNat=13;omega))
 simp (disch:=first|omega|assumption) only [ir221,g10,g13,go_sem,↓reduceIte]
 exact hQ _ _ _ _ nofun rfl (by simp [tupOf,envOf,AV.strip,AV.strip1,lineB,h10,h13])
theorem oneT_cons (c:UInt8) (r:List UInt8):oneT (c :: r)=if threeT.isPrefixOf (c :: r) then (rawM (r.length+1) [] (r.drop 2)).map fun x=>(⟨5,blockM x.1⟩,x.2)
  else if c=34 then (quoM lineB r).map fun x=>(⟨5,x.1⟩,x.2)
  else if dotsT.isPrefixOf (c :: r) then some (⟨1,dotsT⟩,r.drop 2)
  else if 0≤Lib.indexByte marksT c then some (⟨1,[c]⟩,r)
  else if isL c then some (⟨2,(c :: r).take (wordN (c :: r))⟩,(c :: r).drop (wordN (c :: r)))
  else if (numN (c :: r)).1=0 then none
  else if ((c :: r).drop (numN (c :: r)).1).head?.any fun d=>isL d || isD d || decide (d=46) then none
  else some (⟨(numN (c :: r)).2,(c :: r).take (numN (c :: r)).1⟩,(c :: r).drop (numN (c :: r)).1):=rfl
def oneA (s:List UInt8):AV:=match oneT s with
 | some (x,t)=>.tup [tokA x,.int .i64 ((s.length-t.length:Nat):Int)]
 | none=>.tup [tokA ⟨if s.head?=some 34 then 5 else 0,[]⟩,.int .i64 0]
theorem oneA_some {s t:List UInt8} {x:Tok} (h:oneT s=some (x,t)):oneA s=.tup [tokA x,.int .i64 ((s.length-t.length:Nat):Int)]:=by unfold oneA;rw [h]
theorem oneA_none {s:List UInt8} (h:oneT s=none):oneA s=.tup [tokA ⟨if s.head?=some 34 then 5 else 0,[]⟩,.int .i64 0]:=by unfold oneA;rw [h]
theorem oneC (c:UInt8) (r:List UInt8) (hs:(c :: r).length≤LimQ):Pure Tryz.prog 124 [.str (c :: r)] (oneA (c :: r)):=by
 have hcl:(c :: r).length=r.length+1:=rfl
 have hg0:(c :: r).getD 0 0=c:=rfl
 have ht1:(c :: r).take 1=[c]:=rfl
 have ed:(c :: r).drop 3=r.drop 2:=rfl
 have hhd:(c :: r).head?=some c:=rfl
 have hquo:=fun h34:c=34=>(by rw [h34];exact quotedC 221 (by decide +kernel) lineB plainC 34 r (by simpa [h34] using hs):Pure Tryz.prog 220 [.str (c :: r),.clo 221 [] []] (quoA lineB r))
 have ot:=oneT_cons c r
 have hpl3:threeT.isPrefixOf (c :: r)=true→c=34:=fun p1=>by
  simp only [threeT,List.isPrefixOf,Bool.and_eq_true,beq_iff_eq] at p1
  exact p1.1.symm
 generalize hsc:c :: r=s at *
 refine Pure.go ir124 ck124 (Nat.le_refl _) fun KP Q hQ=>?_
 have hsq:=hs
 simp only [LimQ] at hs
 have hsl:s.length≤Lim:=by simp only [Lim];omega
 have hl:((0:Int)<(s.length:Int))=True:=eq_true (by omega)
 have hl1:((1:Int)≤(s.length:Int))=True:=eq_true (by omega)
 simp (disch:=first|omega|assumption) only [ir124,go_sem,↓reduceIte]
 refine goA_intro fun b0 hb0=>?_
 simp (disch:=first|omega|assumption) only [hl,hg0,go_sem,↓reduceIte]
 refine goK_pure (prefixC s [34,34,34]) ?_
 by_cases p1:threeT.isPrefixOf s=true
 ·have p1':([34,34,34]:List UInt8).isPrefixOf s=true:=p1
  have hl3:=pre_len _ _ p1
  simp only [threeT,List.length_cons,List.length_nil] at hl3
  have h34:c=34:=hpl3 p1
  simp (disch:=first|omega|assumption) only [p1',go_sem,↓reduceIte]
  refine goK_pure (blockedC s hl3 hsq) ?_
  have ef:rawM (s.length-2) [] (r.drop 2)=rawM (r.length+1) [] (r.drop 2):=rawM_fuel _ _ _ _ (by rw [List.length_drop];omega) (by rw [List.length_drop];omega)
  rw [ed,ef]
  have e1:oneT s=(rawM (r.length+1) [] (r.drop 2)).map fun x=>(⟨5,blockM x.1⟩,x.2):=by
   rw [ot,if_pos p1]
  cases hx:rawM (r.length+1) [] (r.drop 2) with
  | none =>
   rw [hx] at e1
   have e:=oneA_none e1
   rw [if_pos (by rw [hhd,h34])] at e
   simp (disch:=first|omega|assumption) only [blkA,go_sem,↓reduceIte]
   exact hQ _ _ _ [.agg [.int .i64 5,.str []],.int .i64 0] nofun (by simp (disch:=first|omega|assumption) only [ir124,resvs,resv,go_sem,↓reduceIte]) (by simp [tupOf,AV.strip,AV.strip1,e,tokA])
  | some x =>
   obtain ⟨raw,t⟩:=x
   rw [hx] at e1
   have e:=oneA_some e1
   simp (disch:=first|omega|assumption) only [blkA,go_sem,↓reduceIte]
   exact hQ _ _ _ [.agg [.int .i64 5,.str (blockM raw)],.int .i64 (((s.length-t.length:Nat)):Int)] nofun (by simp (disch:=first|omega|assumption) only [ir124,resvs,resv,go_sem,↓reduceIte]) (by simp [tupOf,AV.strip,AV.strip1,e,tokA])
 have p1':([34,34,34]:List UInt8).isPrefixOf s=false:=Bool.eq_false_iff.2 p1
 by_cases c34:c=34
 ·have hc:(c.toNat:Int)=34:=by rw [c34];rfl
  simp (disch:=first|omega|assumption) only [p1',hc,go_sem,↓reduceIte]
  refine goK_pure (hquo c34) ?_
  have e1:oneT s=(quoM lineB r).map fun x=>(⟨5,x.1⟩,x.2):=by
   rw [ot,if_neg p1,if_pos c34]
  cases hx:quoM lineB r with
  | none =>
   rw [hx] at e1
   have e:=oneA_none e1
   rw [if_pos (by rw [hhd,c34])] at e
   simp (disch:=first|omega|assumption) only [quoA,hx,go_sem,↓reduceIte]
   exact hQ _ _ _ [.agg [.int .i64 5,.str []],.int .i64 0] nofun (by simp (disch:=first|omega|assumption) only [ir124,resvs,resv,go_sem,↓reduceIte]) (by simp [tupOf,AV.strip,AV.strip1,e,tokA])
  | some x =>
   obtain ⟨b,t⟩:=x
   rw [hx] at e1
   have e:=oneA_some e1
   rw [hcl] at e
   simp (disch:=first|omega|assumption) only [quoA,hx,go_sem,↓reduceIte]
   exact hQ _ _ _ [.agg [.int .i64 5,.str b],.int .i64 (((r.length+1-t.length:Nat)):Int)] nofun (by simp (disch:=first|omega|assumption) only [ir124,resvs,resv,go_sem,↓reduceIte]) (by simp [tupOf,AV.strip,AV.strip1,e,tokA])
 have g34:¬ ((c.toNat:Int)=34):=fun e=>c34 (UInt8.toNat_inj.1 (by show c.toNat=34;omega))
 have hno:¬ (s.head?=some 34):=by rw [hhd];simpa using c34
 simp (disch:=first|omega|assumption) only [p1',g34,go_sem,↓reduceIte]
 refine goK_pure (prefixC s [46,46,46]) ?_
 by_cases p2:dotsT.isPrefixOf s=true
 ·have p2':([46,46,46]:List UInt8).isPrefixOf s=true:=p2
  have hl3:=pre_len _ _ p2
  have hd3:dotsT.length=3:=rfl
  rw [hd3] at hl3
  have e1:oneT s=some (⟨1,dotsT⟩,r.drop 2):=by
   rw [ot,if_neg p1,if_neg c34,if_pos p2]
  have e:=oneA_some e1
  have e2:s.length-(r.drop 2).length=3:=by rw [List.length_drop];omega
  rw [e2] at e
  have e3:dotsT=[46,46,46]:=rfl
  simp (disch:=first|omega|assumption) only [p2',go_sem,↓reduceIte]
  exact hQ _ _ _ [.agg [.int .i64 1,.str [46,46,46]],.int .i64 3] nofun (by simp (disch:=first|omega|assumption) only [ir124,resvs,resv,go_sem,↓reduceIte]) (by simp [tupOf,AV.strip,AV.strip1,e,tokA,e3])
 have p2':([46,46,46]:List UInt8).isPrefixOf s=false:=Bool.eq_false_iff.2 p2
 simp (disch:=first|omega|assumption) only [p2',go_sem,↓reduceIte]
 refine goK_pure (idxByteC marksT c) ?_
 by_cases hm:0≤Lib.indexByte marksT c
 ·have e1:oneT s=some (⟨1,[c]⟩,r):=by
   rw [ot,if_neg p1,if_neg c34,if_neg p2,if_pos hm]
  have e:=oneA_some e1
  have e2:s.length-r.length=1:=by omega
  rw [e2] at e
  have e3:=ht1
  simp (disch:=first|omega|assumption) only [hm,hl1,e3,go_sem,↓reduceIte]
  exact hQ _ _ _ [.agg [.int .i64 1,.str [c]],.int .i64 1] nofun (by simp (disch:=first|omega|assumption) only [ir124,resvs,resv,go_sem,↓reduceIte]) (by simp [tupOf,AV.strip,AV.strip1,e,tokA])
 simp (disch:=first|omega|assumption) only [hm,go_sem,↓reduceIte]
 refine goK_pure (letterC c) ?_
 by_cases hL:isL c=true
 ·have e1:oneT s=some (⟨2,s.take (wordN s)⟩,s.drop (wordN s)):=by
   rw [ot,if_neg p1,if_neg c34,if_neg p2,if_neg hm,if_pos hL]
  have e:=oneA_some e1
  have hwl:=wordN_le s
  have e2:s.length-(s.drop (wordN s)).length=wordN s:=by rw [List.length_drop];omega
  rw [e2] at e
  have h2:((wordN s:Int)≤(s.length:Int))=True:=eq_true (by omega)
  simp (disch:=first|omega|assumption) only [hL,go_sem,↓reduceIte]
  refine goK_pure (wordTC s hsl (by rw [hg0];exact hL)) ?_
  simp (disch:=first|omega|assumption) only [h2,go_sem,↓reduceIte]
  exact hQ _ _ _ [.agg [.int .i64 2,.str (s.take (wordN s))],.int .i64 (wordN s:Int)] nofun (by simp (disch:=first|omega|assumption) only [ir124,resvs,resv,go_sem,↓reduceIte]) (by simp [tupOf,AV.strip,AV.strip1,e,tokA])
 have hL':isL c=false:=by simpa using hL
 simp (disch:=first|omega|assumption) only [hL',go_sem,↓reduceIte]
 refine goK_pure (numberC s hsl) ?_
 have hnl:=numN_le1 s
 have hn2:(numN s).1=0→(numN s).2=0:=fun h=>by
  unfold numN at h ⊢
  split at h
  ·rename_i h0;rw [if_pos h0]
  ·rename_i h0;simp only at h;omega
 have e0:oneT s=if (numN s).1=0 then none
   else if (s.drop (numN s).1).head?.any fun d=>isL d || isD d || decide (d=46) then none
   else some (⟨(numN s).2,s.take (numN s).1⟩,s.drop (numN s).1):=by
  rw [ot,if_neg p1,if_neg c34,if_neg p2,if_neg hm,if_neg hL]
 generalize hnn:(numN s).1=n at *
 generalize hkk:(numN s).2=k at *
 have hnle:((n:Int)≤(s.length:Int))=True:=eq_true (by omega)
 have fin:(n≠0→oneT s=some (⟨k,s.take n⟩,s.drop n))→oneA s=.tup [tokA ⟨k,s.take n⟩,.int .i64 (n:Int)]:=fun h=>by
  by_cases hz:n=0
  ·rw [if_pos hz] at e0
   rw [oneA_none e0,if_neg hno,hz,hn2 hz];rfl
  ·rw [oneA_some (h hz)]
   have e2:s.length-(s.drop n).length=n:=by rw [List.length_drop];omega
   rw [e2]
 have bad:(s.drop n).head?.any (fun d=>isL d || isD d || decide (d=46))=true→oneA s=.tup [tokA ⟨0,[]⟩,.int .i64 0]:=fun h=>by
  have:oneT s=none:=by
   rw [e0]
   split
   ·rfl
   ·first|rfl|exact if_pos h
  rw [oneA_none this,if_neg hno]
 rcases drop_cases s n with ⟨h1,h2⟩|⟨h1,h2⟩
 ·have hlt:¬ ((n:Int)<(s.length:Int)):=by omega
  have e:=fin fun hz=>by rw [e0,if_neg hz,h1];rfl
  simp (disch:=first|omega|assumption) only [hlt,hnle,go_sem,↓reduceIte]
  exact hQ _ _ _ [.agg [.int .i64 k,.str (s.take n)],.int .i64 (n:Int)] nofun (by simp (disch:=first|omega|assumption) only [ir124,resvs,resv,go_sem,↓reduceIte]) (by simp [tupOf,AV.strip,AV.strip1,e,tokA])
 ·have hlt:((n:Int)<(s.length:Int))=True:=eq_true (by omega)
  generalize hdd:s.getD n 0=d at *
  have ha:(s.drop n).head?.any (fun d=>isL d || isD d || decide (d=46))=(isL d || isD d || decide (d=46)):=by rw [h2];rfl
  rw [ha] at bad
  simp (disch:=first|omega|assumption) only [hlt,hdd,go_sem,↓reduceIte]
  refine goK_pure (letterC d) ?_
  cases hld:isL d with
  | true =>
   have e:=bad (by rw [hld];rfl)
   simp (disch:=first|omega|assumption) only [hld,go_sem,↓reduceIte]
   exact hQ _ _ _ [.agg [.int .i64 0,.str []],.int .i64 0] nofun (by simp (disch:=first|omega|assumption) only [ir124,resvs,resv,go_sem,↓reduceIte]) (by simp [tupOf,AV.strip,AV.strip1,e,tokA])
  | false =>
   simp (disch:=first|omega|assumption) only [hld,hlt,hdd,go_sem,↓reduceIte]
   refine goK_pure (digitC d) ?_
   cases hdg:isD d with
   | true =>
    have e:=bad (by rw [hdg];simp)
    simp (disch:=first|omega|assumption) only [hdg,go_sem,↓reduceIte]
    exact hQ _ _ _ [.agg [.int .i64 0,.str []],.int .i64 0] nofun (by simp (disch:=first|omega|assumption) only [ir124,resvs,resv,go_sem,↓reduceIte]) (by simp [tupOf,AV.strip,AV.strip1,e,tokA])
   | false =>
    by_cases h46:d=46
    ·have e:=bad (by rw [h46];simp)
     have g46:(d.toNat:Int)=46:=by rw [h46];rfl
     simp (disch:=first|omega|assumption) only [hdg,hlt,hdd,g46,go_sem,↓reduceIte]
     exact hQ _ _ _ [.agg [.int .i64 0,.str []],.int .i64 0] nofun (by simp (disch:=first|omega|assumption) only [ir124,resvs,resv,go_sem,↓reduceIte]) (by simp [tupOf,AV.strip,AV.strip1,e,tokA])
    ·have g46:¬ ((d.toNat:Int)=46):=fun e=>h46 (UInt8.toNat_inj.1 (by show d.toNat=46;omega))
     have e:=fin fun hz=>by rw [e0,if_neg hz,ha,hld,hdg];simp [h46]
     simp (disch:=first|omega|assumption) only [hdg,hlt,hdd,g46,hnle,go_sem,↓reduceIte]
     exact hQ _ _ _ [.agg [.int .i64 k,.str (s.take n)],.int .i64 (n:Int)] nofun (by simp (disch:=first|omega|assumption) only [ir124,resvs,resv,go_sem,↓reduceIte]) (by simp [tupOf,AV.strip,AV.strip1,e,tokA])
theorem code_in {l:List UInt8} (hne:l≠[]):(codeN l).2≤l.length∧(codeN l).1≤1114111:=by
 by_cases h:(codeN l).2=0
 ·refine ⟨by omega,?_⟩
  unfold codeN at h ⊢
  split at h
  ·rename_i h0;rw [if_pos h0];decide
  ·split at h
   ·rename_i h0 h1;rw [if_neg h0,if_pos h1];decide
   ·rename_i h0 h1
    have:=dec_ok h0 h1
    have:=this.pos
    omega
 ·obtain ⟨e,h1⟩:=codeN_dec hne h
  have hd:=dec_ok hne h1
  rw [e]
  refine ⟨?_,hd.le⟩
  have hl:=hd.len
  exact hl
theorem sourceC (s:List UInt8) (hs:s.length≤Lim):Pure Tryz.prog 122 [.str s] (.bool (srcB s)):=by
 refine Pure.go ir122 ck122 (Nat.le_refl _) fun KP Q hQ=>?_
 have hs':=hs
 simp only [Lim] at hs
 simp (disch:=first|omega|assumption) only [ir122,go_sem,↓reduceIte]
 refine goL_st (fun i:Nat=>[(3,.int .i64 i)]) (fun i H=>srcB s=srcB (s.drop i)∧i≤s.length) (fun i=>s.length-i) 0 (by simp (disch:=first|omega|assumption) only [go_sem,↓reduceIte]) ⟨by simp,by omega⟩ ?_
 rintro i H J ⟨hn,hle⟩ hJ
 by_cases hlt:i<s.length
 case neg =>
  have hlt':¬ ((i:Int)<s.length):=by omega
  rw [List.drop_of_length_le (by omega)] at hn
  simp (disch:=first|omega|assumption) only [hlt',go_sem,↓reduceIte]
  exact hQ _ _ _ _ nofun rfl (by simp [tupOf,envOf,AV.strip,AV.strip1,hn,srcB_nil])
 have hlt':((i:Int)<s.length)=True:=eq_true (by omega)
 have hne:s.drop i≠[]:=fun e=>by have:=congrArg List.length e;simp at this;omega
 obtain ⟨hk,hcm⟩:=code_in hne
 rw [List.length_drop] at hk
 simp (disch:=first|omega|assumption) only [hlt',go_sem,↓reduceIte]
 refine goK_pure (codeC s i hlt hs') ?_
 rw [srcB_step hne,List.drop_drop] at hn
 generalize (codeN (s.drop i)).1=c at *
 generalize (codeN (s.drop i)).2=k at *
 by_cases hk0:0<k
 ·have hk0':((0:Int)<(k:Int))=True:=eq_true (by omega)
  simp (disch:=first|omega|assumption) only [hk0',go_sem,↓reduceIte]
  refine goK_pure (signC c hcm) ?_
  cases hsg:signB c with
  | true =>
   rw [hsg] at hn
   simp only [hk0,decide_true,Bool.true_and] at hn
   simp (disch:=first|omega|assumption) only [wrap64,go_sem,↓reduceIte]
   exact goJ (hJ (i+k) _ (by omega) ⟨hn,by omega⟩) (by simp (disch:=first|omega|assumption) only [Int.natCast_add,go_sem,↓reduceIte])
  | false =>
   rw [hsg] at hn
   simp only [Bool.false_and,Bool.and_false] at hn
   simp (disch:=first|omega|assumption) only [go_sem,↓reduceIte]
   exact hQ _ _ _ _ nofun rfl (by simp [tupOf,envOf,AV.strip,AV.strip1,hn])
 ·have hk0':¬ ((0:Int)<(k:Int)):=by omega
  simp only [hk0,decide_false,Bool.false_and] at hn
  simp (disch:=first|omega|assumption) only [hk0',go_sem,↓reduceIte]
  exact hQ _ _ _ _ nofun rfl (by simp [tupOf,envOf,AV.strip,AV.strip1,hn])
def readA:Except Int (List Tok)→AV
 | .ok l=>.tup [.sl .no 2 (cKs l),.int .i64 0]
 | .error e=>.tup [.sl .no 2 [],.int .i64 e]
def readF (l:List Tok) (t:List UInt8):Except Int (List Tok):=readG (t.length+1) l t
theorem readF_nil (l:List Tok):readF l []=.ok l:=rfl
theorem readF_gap {l:List Tok} {t:List UInt8} (hne:t≠[]) (h:gapN t≠0):readF l t=readF l (t.drop (gapN t)):=by
 have h1:=gapN_le t
 have h2:0<t.length:=List.length_pos_iff.2 hne
 unfold readF
 conv=>lhs;unfold readG
 rw [if_neg hne,if_pos h]
 exact readG_fuel _ _ _ _ (by simp;omega) (Nat.lt_succ_self _)
theorem readF_none {l:List Tok} {t:List UInt8} (hne:t≠[]) (h:gapN t=0) (h1:oneT t=none):readF l t=.error 2:=by
 unfold readF
 conv=>lhs;unfold readG
 rw [if_neg hne,if_neg (by omega),h1]
theorem readF_some {l:List Tok} {t t':List UInt8} {x:Tok} (hne:t≠[]) (h:gapN t=0) (h1:oneT t=some (x,t')):readF l t=readF (l++[x]) t':=by
 have h2:=oneT_lt h1
 unfold readF
 conv=>lhs;unfold readG
 rw [if_neg hne,if_neg (by omega),h1]
 exact readG_fuel _ _ _ _ (by omega) (Nat.lt_succ_self _)
theorem rawM_suf:∀ (n:Nat) (raw t b t':List UInt8),rawM n raw t=some (b,t')→t' <:+ t
 | 0,_,_,_,_,h=>by cases h
 | n+1,raw,[],_,_,h=>by cases h
 | n+1,raw,c :: r,b,t',h=>by
  simp only [rawM] at h
  split at h
  ·cases h;exact (List.drop_suffix _ _).trans (List.suffix_cons ..)
  split at h
  ·exact (rawM_suf n _ _ _ _ h).trans ((List.drop_suffix _ _).trans (List.suffix_cons ..))
  ·exact (rawM_suf n _ _ _ _ h).trans (List.suffix_cons ..)
theorem oneT_suffix {s t:List UInt8} {x:Tok} (h:oneT s=some (x,t)):t <:+ s:=by
 cases s with
 | nil=>cases h
 | cons c r =>
  simp only [oneT] at h
  split at h
  ·cases hr:rawM (r.length+1) [] (r.drop 2) with
   | none=>rw [hr] at h;cases h
   | some y =>
    rw [hr] at h
    simp only [Option.map_some,Option.some.injEq,Prod.mk.injEq] at h
    obtain ⟨_,rfl⟩:=h
    exact (rawM_suf _ _ _ _ _ (show rawM _ _ _=some (y.1,y.2) from hr)).trans ((List.drop_suffix _ _).trans (List.suffix_cons ..))
  split at h
  ·cases hr:quoM lineB r with
   | none=>rw [hr] at h;cases h
   | some y =>
    rw [hr] at h
    simp only [Option.map_some,Option.some.injEq,Prod.mk.injEq] at h
    obtain ⟨_,rfl⟩:=h
    exact (quoM_suf (t':=y.2) (b:=y.1) hr).1.trans (List.suffix_cons ..)
  split at h
  ·cases h;exact (List.drop_suffix _ _).trans (List.suffix_cons ..)
  split at h
  ·cases h;exact List.suffix_cons ..
  split at h
  ·cases h;exact List.drop_suffix _ _
  split at h
  ·cases h
  split at h
  ·cases h
  ·cases h;exact List.drop_suffix _ _
theorem oneT_suf {s t:List UInt8} {x:Tok} (h:oneT s=some (x,t)):s.drop (s.length-t.length)=t:=by
 obtain ⟨p,hp⟩:=oneT_suffix h
 rw [← hp];simp
theorem gapU {u:List UInt8} (hne:u≠[]) (hs:u.length≤1000000):Pure Tryz.prog 123 [.str u] (.int .i64 (gapN u)):=by
 cases u with
 | nil=>exact absurd rfl hne
 | cons c r=>exact gapC c r hs
theorem oneU {u:List UInt8} (hne:u≠[]) (hs:u.length≤LimQ):Pure Tryz.prog 124 [.str u] (oneA u):=by
 cases u with
 | nil=>exact absurd rfl hne
 | cons c r=>exact oneC c r hs
theorem readTC (s:List UInt8) (hs:s.length≤LimQ):Pure Tryz.prog 57 [.str s] (readA (readT s)):=by
 refine Pure.go ir57 ck57 (Nat.le_refl _) fun KP Q hQ=>?_
 have hsq:=hs
 simp only [LimQ] at hs
 by_cases h8:8192<s.length
 ·have g8:((8192:Int)<(s.length:Int))=True:=eq_true (by omega)
  simp (disch:=first|omega|assumption) only [ir57,g8,go_sem,↓reduceIte]
  exact hQ _ _ _ _ nofun rfl (by simp [tupOf,envOf,AV.strip,AV.strip1,readT,h8,readA])
 have g8:¬ ((8192:Int)<(s.length:Int)):=by omega
 simp (disch:=first|omega|assumption) only [ir57,g8,go_sem,↓reduceIte]
 refine goK_pure (sourceC s (by simp only [Lim];omega)) ?_
 cases hsb:srcB s with
 | false =>
  simp (disch:=first|omega|assumption) only [go_sem,↓reduceIte]
  exact hQ _ _ _ _ nofun rfl (by simp [tupOf,envOf,AV.strip,AV.strip1,readT,h8,hsb,readA])
 | true =>
  have e0:readT s=readF [] s:=by unfold readT readF;rw [if_neg h8,if_pos hsb]
  rw [e0] at hQ
  simp (disch:=first|omega|assumption) only [go_sem,↓reduceIte]
  refine goL_st (fun x:Own × List Tok × Nat=>[(4,.sl x.1 2 (cKs x.2.1)),(5,.int .i64 x.2.2)]) (fun x H=>x.2.2≤s.length∧x.2.1.length≤x.2.2∧readF [] s=readF x.2.1 (s.drop x.2.2)∧OwnS Heap.emp .nil H x.1 x.2.1.length 2) (fun x=>s.length-x.2.2) (.nil,[],0) (by simp (disch:=first|omega|assumption) only [cKs,List.map_nil,go_sem,↓reduceIte]) ⟨Nat.zero_le _,Nat.le_refl _,rfl,OwnS.refl rfl⟩ ?_
  rintro ⟨o,l,i⟩ H J ⟨hi,hll,hr,hso⟩ hJ
  simp only at hi hll hr hso
  have hcl:=cKs_len l
  by_cases hlt:i<s.length
  case neg =>
   have hlt':¬ ((i:Int)<s.length):=by omega
   rw [List.drop_of_length_le (by omega),readF_nil] at hr
   simp (disch:=first|omega|assumption) only [hlt',go_sem,↓reduceIte]
   exact hQ _ _ _ _ nofun rfl (by simp [tupOf,envOf,AV.strip,AV.strip1,hr,readA,cKs_strip])
  have hlt':((i:Int)<s.length)=True:=eq_true (by omega)
  have hle':((i:Int)≤s.length)=True:=eq_true (by omega)
  obtain ⟨u,hd⟩:∃ u,s.drop i=u:=⟨_,rfl⟩
  have hdl:s.length=i+u.length:=by have:=congrArg List.length hd;rw [List.length_drop] at this;omega
  have hne:u≠[]:=fun e=>by rw [e] at hdl;simp at hdl;omega
  rw [hd] at hr
  simp (disch:=first|omega|assumption) only [hlt',hle',hd,go_sem,↓reduceIte]
  refine goK_pure (gapU hne (by omega)) ?_
  have hgl:=gapN_le u
  by_cases hg:gapN u=0
  case neg =>
   have hg':((0:Int)<(gapN u:Int))=True:=eq_true (by omega)
   simp (disch:=first|omega|assumption) only [hg',wrap64,go_sem,↓reduceIte]
   refine goJ (hJ (o,l,i+gapN u) _ (by simp only;omega) ⟨by simp only;omega,by simp only;omega,?_,hso⟩) (by simp (disch:=first|omega|assumption) only [Int.natCast_add,go_sem,↓reduceIte])
   simp only
   rw [hr,readF_gap hne hg,← List.drop_drop,hd]
  have hg':¬ ((0:Int)<(gapN u:Int)):=by omega
  simp (disch:=first|omega|assumption) only [hg',hle',hd,go_sem,↓reduceIte]
  refine goK_pure (oneU hne (by simp only [LimQ];omega)) ?_
  cases ho:oneT u with
  | none =>
   rw [readF_none hne hg ho] at hr
   rw [oneA_none ho]
   simp (disch:=first|omega|assumption) only [tokA,go_sem,↓reduceIte]
   refine goA_intro fun b1 hb1=>?_
   simp (disch:=first|omega|assumption) only [go_sem,↓reduceIte]
   exact hQ _ _ _ _ nofun rfl (by simp [tupOf,envOf,AV.strip,AV.strip1,hr,readA])
  | some x =>
   obtain ⟨x,t⟩:=x
   have hlt2:=oneT_lt ho
   have hsf:=oneT_suf ho
   rw [readF_some hne hg ho] at hr
   rw [oneA_some ho]
   have hz:¬ (((u.length-t.length:Nat):Int)=0):=by omega
   simp (disch:=first|omega|assumption) only [tokA,go_sem,↓reduceIte]
   refine goA_intro fun b1 hb1=>?_
   simp (disch:=first|omega|assumption) only [hz,go_sem,↓reduceIte]
   refine goP_ownS (by rw [hcl];exact (hso.upd hb1).own) (by simp only [hcl,List.length_cons,List.length_nil];omega) (by simp only [hcl,List.length_cons,List.length_nil,maxLen];omega) fun o' H' hs2=>?_
   simp (disch:=first|omega|assumption) only [wrap64,go_sem,↓reduceIte]
   refine goJ (hJ (o',l++[x],i+(u.length-t.length)) H' (by simp only;omega) ⟨by simp only;omega,by simp;omega,?_,(hso.upd (x:=.cells [.int .i64 x.k,.str x.s]) hb1).trans (by simpa [hcl] using hs2)⟩) (by simp (disch:=first|omega|assumption) only [← cKs_app,Int.natCast_add,go_sem,↓reduceIte])
   simp only
   rw [hr,← List.drop_drop,hd,hsf]
end Go.Proofs.YticbbfbpeimkbaaGreatDoor
namespace Go.Proofs.YticbbfbpeimkbaaGreatDoor
open Go.Ab
def sp89 : ASp := ⟨27, 2, 5, (.reg [] [⟨some 4, none, .alloc [.int .i64 0], []⟩]), (.seq (.reg [] [⟨some 13, none, .mv (.t 6), []⟩, ⟨some 14, none, .bi .neq .i64 (.t 13) (.k (.int .i64 0)), []⟩])
 (.cond (.t 14) (.seq (.reg [] [⟨some 15, none, .mv (.t 6), []⟩, ⟨none, none, .st 1 (.t 4) (.t 15), []⟩])
 (.ret)) (.skip))), [⟨some 16, none, .mkfn 159 [] [(.t 4)], []⟩], 16, (.seq (.reg [] [⟨some 17, none, .mv (.t 5), []⟩, ⟨some 18, none, .bld [.sl .nil 2 [], .int .i64 0, .int .i64 0] [(0, 1, (.t 17))], []⟩, ⟨some 19, none, .box (.t 18), []⟩, ⟨some 7, none, .mv (.t 19), []⟩])
 (.seq (.reg [] [⟨some 20, none, .mv (.t 1), []⟩, ⟨some 21, none, .mv (.t 7), []⟩, ⟨some 22, none, .callv (.t 20) [(.t 21)], []⟩])
 (.seq (.seq (.reg [] [⟨some 23, none, .mv (.t 7), []⟩, ⟨some 24, none, .call 92 [(.t 23)], []⟩])
 (.cond (.t 24) (.reg [] [⟨some 25, none, .mv (.t 7), []⟩, ⟨some 26, none, .call 160 [(.t 25), (.k (.int .i64 2))], []⟩]) (.skip)))
 (.seq (.reg [] [⟨none, none, .st 1 (.t 4) (.k (.int .i64 0)), []⟩])
 (.ret))))), [.c 4 1 false], some (.reg [] [⟨some 9, none, .mv (.t 0), []⟩, ⟨some 10, none, .call 57 [(.t 9)], []⟩, ⟨some 8, none, .mv (.t 10), []⟩, ⟨some 11, none, .ext (.t 8) 0, []⟩, ⟨some 12, none, .ext (.t 8) 1, []⟩, ⟨some 5, none, .mv (.t 11), []⟩, ⟨some 6, none, .mv (.t 12), []⟩])⟩
theorem ckS89:chkSp Tryz.prog 89 sp89=true:=by kernel_rfl
def df159 : ADfn := ⟨16, 1, 4, [⟨some 1, none, .mv (.t 4), []⟩], (.seq (.reg [] [⟨some 6, none, .mv (.t 1), []⟩, ⟨some 7, none, .tas 186 (.agg [.int .i64 0]) (.t 6), []⟩, ⟨some 5, none, .mv (.t 7), []⟩, ⟨some 8, none, .ext (.t 5) 0, []⟩, ⟨some 9, none, .ext (.t 5) 1, []⟩, ⟨some 2, none, .alloc [.int .i64 0], []⟩, ⟨none, none, .st 1 (.t 2) (.t 8), []⟩, ⟨some 3, none, .mv (.t 9), []⟩])
 (.seq (.reg [] [⟨some 10, none, .mv (.t 3), []⟩])
 (.cond (.t 10) (.reg [] [⟨some 11, none, .fa 0 (.t 2), []⟩, ⟨some 12, none, .ld 1 false (.t 11), []⟩, ⟨none, none, .st 1 (.t 0) (.t 12), []⟩]) (.seq (.reg [] [⟨some 13, none, .mv (.t 1), []⟩, ⟨some 14, none, .ifnil true (.t 13), []⟩])
 (.cond (.t 14) (.reg [] [⟨some 15, none, .mv (.t 1), []⟩, ⟨none, none, .pan (.t 15), []⟩]) (.skip))))))⟩
theorem ckD159:chkDfn Tryz.prog 159 df159=true:=by kernel_rfl
end Go.Proofs.YticbbfbpeimkbaaGreatDoor
namespace Go.Proofs.YticbbfbpeimkbaaGreatDoor
open Go.Ab
theorem pgo_items {P:Program} {KP:AV→Heap→Prop} {items:List AItem} {ρ:Env} {H:Heap} {K:Env→Heap→Prop} (h:∀ Q:AExit→Env→Heap→Prop,(∀ ρ' H',K ρ' H'→Q .normal ρ' H')→goI P KP Q items items [] ρ H):awpItems P KP (annot items) ρ H K :=
 h (fun e ρ H=>match e with|.normal=>K ρ H|_=>True) (fun _ _ h=>h)
theorem pgo_awp {P:Program} {KP:AV→Heap→Prop} {c:AC} {ρ:Env} {H:Heap} {K:AExit→Env→Heap→Prop} (h:∀ (KP':AV→Heap→Prop) (Q:AExit→Env→Heap→Prop),(∀ v H',KP v H'→KP' v H')→(∀ e ρ' H',K e ρ' H'→Q e ρ' H')→goC P KP' Q c [] ρ H):awp P KP c K ρ H :=
 h KP K (fun _ _ h=>h) (fun _ _ _ h=>h)
theorem failPK (H:Heap) (r:Nat) (n:Int):ACalls Tryz.prog 160 [.ptr r 0,.int .i64 n] H (fun e H'=>match e with|.ret v=>False|.pan v=>v=stopP n∧H'=H):=by
 refine ACalls.goO (R:=fun _ _=>False) (RP:=fun v H'=>v=stopP n∧H'=H) ir160 ck160 (Nat.le_refl _) fun KP Q hQ hP=>?_
 simp (disch:=first|omega|assumption) only [ir160,go_sem,↓reduceIte]
 exact hP _ _ H (Low.refl _) ⟨rfl,rfl⟩
theorem recP0 {H:Heap} {b4:Nat} {Q:Heap→Prop} (hq:∀ b x,H b=none→Q (H.upd b x)):ACallsD Tryz.prog 159 [.ptr b4 0] none H Q:=by
 refine ACallsD.of_fn df159 ckD159 (Nat.le_refl _) (pgo_items fun Q1 hQ1=>?_)
 simp (disch:=first|omega|assumption) only [df159,Option.getD_none,go_sem,↓reduceIte]
 refine hQ1 _ _ (pgo_awp fun KP' Q2 hKP hQ2=>?_)
 simp (disch:=first|omega|assumption) only [df159,go_sem,↓reduceIte]
 refine goA_intro fun b hb=>?_
 simp (disch:=first|omega|assumption) only [go_sem,↓reduceIte]
 exact hQ2 _ _ _ (hq _ _ hb)
theorem recP1 {H:Heap} {b4:Nat} {c4:List AV} {n:Int} {Q:Heap→Prop} (h4:H b4=some (.cells c4)) (l4:c4.length=1)
  (hq:∀ b x,H b=none→Q ((H.upd b x).upd b4 (.cells [.int .i64 n]))):ACallsD Tryz.prog 159 [.ptr b4 0] (some (stopP n)) H Q:=by
 refine ACallsD.of_fn df159 ckD159 (Nat.le_refl _) (pgo_items fun Q1 hQ1=>?_)
 simp (disch:=first|omega|assumption) only [df159,Option.getD_some,stopP,go_sem,↓reduceIte]
 refine hQ1 _ _ (pgo_awp fun KP' Q2 hKP hQ2=>?_)
 simp (disch:=first|omega|assumption) only [df159,go_sem,↓reduceIte]
 refine goA_intro fun b hb=>?_
 have n1:b4≠b:=fun e=>by subst e;rw [hb] at h4;cases h4
 simp (disch:=first|omega|assumption) only [h4,n1,l4,go_sem,↓reduceIte]
 have e4:splice c4 0 [.int .i64 n]=[.int .i64 n]:=by
  unfold splice;simp only [List.take_zero,List.nil_append,List.length_cons,List.length_nil];rw [List.drop_eq_nil_of_le (by rw [l4];decide),List.append_nil]
 rw [e4]
 exact hQ2 _ _ _ (hq _ _ hb)
theorem readG_err:∀ (n:Nat) (l:List Tok) (s:List UInt8) (e:Int),s.length<n→readG n l s=.error e→e=2
 | 0,_,_,_,h,_=>absurd h (Nat.not_lt_zero _)
 | n+1,l,s,e,h,hr=>by
  simp only [readG] at hr
  split at hr
  ·cases hr
  split at hr
  ·rename_i hne hg
   have h1:=gapN_le s
   have h2:0<s.length:=List.length_pos_iff.2 hne
   exact readG_err n _ _ _ (by simp;omega) hr
  ·cases ho:oneT s with
   | none=>rw [ho] at hr;cases hr;rfl
   | some x =>
    rw [ho] at hr
    have:=oneT_lt (show oneT s=some (x.1,x.2) from ho)
    exact readG_err n _ _ _ (by omega) hr
theorem readT_err {s:List UInt8} {e:Int} (h:readT s=.error e):e≠0:=by
 unfold readT at h
 split at h
 ·cases h;decide
 split at h
 ·rw [readG_err _ _ _ _ (Nat.lt_succ_self _) h];decide
 ·cases h;decide
def RunQ (Out:Int→Heap→Prop):AEnd→Heap→Prop:=fun e H'=>match e with|.ret v=>∃ n:Int,v=.int .i64 n∧Out n H'|.pan _=>False
theorem res_run {ρ:Env} {H:Heap} {b4:Nat} {e:Int} (r4:ρ 4=.ptr b4 0) (h4:H b4=some (.cells [.int .i64 e])):resvs ρ H sp89.res=some [.int .i64 e]:=by
 simp (disch:=first|omega|assumption) only [sp89,resvs,resv,r4,h4,go_sem,↓reduceIte]
theorem runPC {s:List UInt8} {Hc:Heap} {clo:FuncId} {caps:List AV} (hl:s.length≤LimQ) (hcal:Program.callable Tryz.prog clo=true) (Out:Int→Heap→Prop)
  (h1:∀ n,readT s=.error n→Out n Hc)
  (h2:∀ L,readT s=.ok L→∀ r,Hc r=none→ACalls Tryz.prog clo (.ptr r 0 :: caps) (Hc.upd r (prc L [] 0)) (fun e H'=>match e with
   | .ret _=>∃ p t dp,p++t=L∧H' r=some (prc L p dp)∧Out (if t=[] then 0 else 2) H'
   | .pan v=>∃ n,v=stopP n∧∀ H,Out n H)) :
  ACalls Tryz.prog 89 [.str s,.clo clo [] caps] Hc (RunQ Out):=by
 refine ACalls.of_sp sp89 ckS89 (Nat.le_refl _) ?_
 unfold awpD
 refine pgo_awp fun KP Q hKP hQ=>?_
 simp (disch:=first|omega|assumption) only [sp89,go_sem,↓reduceIte]
 refine goA_intro fun b4 hb4=>?_
 simp (disch:=first|omega|assumption) only [go_sem,↓reduceIte]
 refine hQ _ _ _ (pgo_awp fun KP1 Q1 hKP1 hQ1=>?_)
 simp (disch:=first|omega|assumption) only [sp89,go_sem,↓reduceIte]
 refine goK_pure (Pure.low (readTC s hl)) ?_
 cases hR:readT s with
 | error n =>
  have hn:¬ (n=0):=readT_err hR
  simp (disch:=first|omega|assumption) only [readA,go_sem,↓reduceIte]
  refine hQ1 _ _ _ (pgo_awp fun KP2 Q2 hKP2 hQ2=>?_)
  simp (disch:=first|omega|assumption) only [sp89,hn,go_sem,↓reduceIte]
  refine hQ2 _ _ _ ?_
  show finQ sp89.res (RunQ Out) .ret _ _
  simp only [finQ]
  rw [res_run (b4:=b4) (e:=n) rfl (upd_same ..)]
  exact ⟨Hc,(Low.refl _).upd hb4,n,rfl,h1 n hR⟩
 | ok L =>
  simp (disch:=first|omega|assumption) only [readA,go_sem,↓reduceIte]
  refine hQ1 _ _ _ (pgo_awp fun KP2 Q2 hKP2 hQ2=>?_)
  simp (disch:=first|omega|assumption) only [sp89,go_sem,↓reduceIte]
  refine hQ2 _ _ _ (pgo_items fun Q3 hQ3=>?_)
  simp (disch:=first|omega|assumption) only [sp89,go_sem,↓reduceIte]
  refine hQ3 _ _ ⟨159,_,rfl,by decide +kernel,pgo_awp fun KP4 Q4 hKP4 hQ4=>?_⟩
  have fin:∀ (ρ1:Env) (H H2:Heap) (e:Int),ρ1 4=.ptr b4 0→H b4=some (.cells [.int .i64 e])→Low H2 H→Out e H2→finS sp89 (RunQ Out) ρ1 H:=by
   intro ρ1 H H2 e r4 g4 hlow ho
   refine ⟨_,res_run (b4:=b4) (e:=e) ?_ g4,H2,hlow,e,rfl,ho⟩
   rw [keep_get,if_pos (by decide)];exact r4
  have hpan:∀ (n:Int) (H0 H':Heap) (c4:List AV),Low H0 H'→H0 b4=some (.cells c4)→c4.length=1→(∀ H,Out n H)→KP4 (stopP n) H':=by
   intro n H0 H' c4 hlow g4 l4 ho
   exact hKP4 _ _ ⟨H0,hlow,recP1 g4 l4 fun b x hb=>fin _ _ Heap.emp n rfl (upd_same ..) (Low.of_sub (sub_emp _)) (ho _)⟩
  simp (disch:=first|omega|assumption) only [sp89,go_sem,↓reduceIte]
  refine goA_intro fun br hbr=>?_
  have hbr4:br≠b4:=fun e=>by subst e;rw [upd_same] at hbr;cases hbr
  have hbrH:Hc br=none:=by rw [upd_ne hbr4] at hbr;exact hbr
  simp (disch:=first|omega|assumption) only [hcal,go_sem,↓reduceIte]
  obtain ⟨x4,hx4⟩:∃ x4:AObj,x4=.cells [.int .i64 0]:=⟨_,rfl⟩
  have hun:(Hc.upd b4 (.cells [.int .i64 0])).upd br (.cells [.sl .no 2 (cKs L),.int .i64 0,.int .i64 0])=Heap.union (Hc.upd br (prc L [] 0)) (Heap.one b4 x4):=by
   funext c
   by_cases e1:c=br
   ·subst e1;rw [upd_same];simp [Heap.union,Heap.upd,prc]
   ·rw [upd_ne e1]
    by_cases e2:c=b4
    ·subst e2;rw [upd_same];simp [Heap.union,Heap.upd,Heap.one,e1,hb4,hx4]
    ·rw [upd_ne e2];simp [Heap.union,Heap.upd,Heap.one,e1,e2]
  have hd:Heap.Disj (Hc.upd br (prc L [] 0)) (Heap.one b4 x4):=fun c=>by
   by_cases e:c=b4
   ·subst e;exact .inl (by rw [upd_ne (Ne.symm hbr4)];exact hb4)
   ·exact .inr (by simp [Heap.one,e])
  have hc:=ACalls.frame hd (h2 L hR br hbrH)
  rw [hun]
  refine goK_calls hc fun e H' ⟨A',hq,hd',hH'⟩=>?_
  subst hH'
  have hB4:Heap.one b4 x4 b4=some (.cells [.int .i64 0]):=by simp [Heap.one,hx4]
  have hA4:A' b4=none:=by
   rcases hd' b4 with h|h
   ·exact h
   ·rw [hB4] at h;cases h
  have g4:Heap.union A' (Heap.one b4 x4) b4=some (.cells [.int .i64 0]):=by simp [Heap.union,hA4,hB4]
  cases e with
  | pan v =>
   obtain ⟨n,hv,ho⟩:=hq
   subst hv
   exact hpan n (Heap.one b4 x4) _ _ (Low.of_sub fun c x hc=>by
    rcases hd' c with h|h
    ·simp [Heap.union,h,hc]
    ·rw [hc] at h;cases h) hB4 rfl ho
  | ret v =>
   obtain ⟨p,t,dp,hp,hr,ho⟩:=hq
   have gr:Heap.union A' (Heap.one b4 x4) br=some (prc L p dp):=by simp [Heap.union,hr]
   have lowA:∀ b x (Hx:Heap),(∀ c y,A' c=some y→Hx c=some y)→Hx b=none→Low A' ((Hx.upd b x).upd b4 (.cells [.int .i64 0]))∧Low A' ((Hx.upd b x).upd b4 (.cells [.int .i64 2])):=fun b x Hx hs hb=>by
    have sub:∀ z,∀ c y,A' c=some y→((Hx.upd b x).upd b4 z) c=some y:=fun z c y hcy=>by
     rw [upd_ne (fun e=>by rw [e,hA4] at hcy;cases hcy),upd_ne (fun e=>by rw [← e,hs _ _ hcy] at hb;cases hb)]
     exact hs _ _ hcy
    exact ⟨Low.of_sub (sub _),Low.of_sub (sub _)⟩
   have subU:∀ c y,A' c=some y→Heap.union A' (Heap.one b4 x4) c=some y:=fun c y hc=>by simp [Heap.union,hc]
   show goR _ _ _ _ _ _ _ _ _
   simp (disch:=first|omega|assumption) only [go_sem,↓reduceIte]
   refine goK_ret (moreP hp gr) fun v5 H5 ⟨hv5,hH5⟩=>?_
   subst hv5;subst hH5
   cases t with
   | nil =>
    simp only [if_true] at ho
    simp (disch:=first|omega|assumption) only [g4,go_sem,↓reduceIte]
    refine hQ4 _ _ _ ⟨_,Low.refl _,recP0 fun b y hb=>?_⟩
    have n4:b4≠b:=fun e=>by subst e;rw [upd_same] at hb;cases hb
    refine fin _ _ A' 0 rfl (by rw [upd_ne n4,upd_same]) ?_ ho
    refine Low.of_sub fun c z hcz=>?_
    have hc4:c≠b4:=fun e=>by rw [e,hA4] at hcz;cases hcz
    have hcb:c≠b:=fun e=>by rw [← e,upd_ne hc4,subU _ _ hcz] at hb;cases hb
    rw [upd_ne hcb,upd_ne hc4];exact subU _ _ hcz
   | cons a u =>
    rw [if_neg (by simp)] at ho
    simp (disch:=first|omega|assumption) only [go_sem,↓reduceIte]
    exact goK_both (failPK _ br 2) (fun _ _ h=>h.elim) fun v H6 ⟨h6,h7⟩=>by
     subst h6;subst h7
     exact hKP4 _ _ ⟨_,Low.refl _,recP1 g4 rfl fun b y hb=>fin _ _ A' 2 rfl (upd_same ..) (lowA b y _ subU hb).2 ho⟩
end Go.Proofs.YticbbfbpeimkbaaGreatDoor
namespace Go.Proofs.YticbbfbpeimkbaaGreatDoor
open Go.Ab
def PErr {α:Type} (f:TS→PR α):Prop:=∀ t n,f t=.error n→n≠0
theorem pb_err {α β:Type} {x:PR α} {f:α→TS→PR β} {e:Int} (h:pb x f=.error e) (hx:∀ n,x=.error n→n≠0) (hf:∀ a t,x=.ok (a,t)→f a t=.error e→e≠0):e≠0:=by
 rcases x with n|⟨a,t⟩
 ·cases h;exact hx _ rfl
 ·exact hf a t rfl h
theorem mustP_ne (m:List UInt8):PErr (mustP m):=fun t n h=>by
 unfold mustP at h
 split at h
 ·cases h
 ·cases h;decide
theorem nameP_ne:PErr nameP:=fun t n h=>by
 unfold nameP at h
 split at h
 ·cases h
 ·cases h;decide
theorem bangP_ne (ty:TyD):PErr (bangP ty):=fun t n h=>by
 unfold bangP at h
 split at h<;>cases h
theorem manyP_ne {α:Type} {m:List UInt8} {f:TS→PR α} (hf:PErr f) (hl:∀ t a t',f t=.ok (a,t')→t'.length<t.length):∀ (n:Nat) (l:List α) (t:TS) (e:Int),t.length<n→manyP m f n l t=.error e→e≠0
 | 0,_,_,_,h,_=>absurd h (Nat.not_lt_zero _)
 | n+1,l,t,e,hn,h=>by
  rw [manyP] at h
  split at h
  ·cases h
  ·exact pb_err h (fun k hk=>hf _ _ hk) fun a t' ha h'=>manyP_ne hf hl n _ _ _ (by have:=hl _ _ _ ha;omega) h'
theorem many1P_ne {α:Type} {m:List UInt8} {f:TS→PR α} (hf:PErr f) (hl:∀ t a t',f t=.ok (a,t')→t'.length<t.length):PErr (many1P m f):=fun t n h =>
 pb_err h (fun k hk=>hf _ _ hk) fun a t' ha h'=>manyP_ne hf hl _ _ _ _ (Nat.lt_succ_self _) h'
theorem whileP_ne {α:Type} {m:List UInt8} {f:TS→PR α} (hf:PErr f) (hl:∀ t a t',f t=.ok (a,t')→t'.length<t.length):∀ (n:Nat) (l:List α) (t:TS) (e:Int),t.length<n→whileP m f n l t=.error e→e≠0
 | 0,_,_,_,h,_=>absurd h (Nat.not_lt_zero _)
 | n+1,l,t,e,hn,h=>by
  rw [whileP] at h
  split at h
  ·rename_i hp
   have hlt:=tail_lt hp
   exact pb_err h (fun k hk=>hf _ _ hk) fun a t' ha h'=>whileP_ne hf hl n _ _ _ (by have:=hl _ _ _ ha;omega) h'
  ·cases h
theorem typP_er:∀ k,PErr (typP k)
 | 0=>fun t n h=>by
  rw [typP_eq,typB.eq_def] at h
  split at h
  ·cases h;decide
  ·exact pb_err h (fun k hk=>nameP_ne _ _ hk) fun s t1 _ h'=>bangP_ne _ _ _ h'
 | k+1=>fun t n h=>by
  rw [typP_eq,typB.eq_def] at h
  split at h
  ·exact pb_err h (fun e he=>typP_er k _ _ he) fun ty t1 _ h'=>pb_err h' (fun e he=>mustP_ne _ _ _ he) fun _ t2 _ h''=>bangP_ne _ _ _ h''
  ·exact pb_err h (fun k hk=>nameP_ne _ _ hk) fun s t1 _ h'=>bangP_ne _ _ _ h'
theorem memberP_ne {f:TS→PR Val} (hf:PErr f):PErr (memberP f):=fun t n h =>
 pb_err h (fun e he=>nameP_ne _ _ he) fun s t1 _ h'=>pb_err h' (fun e he=>mustP_ne _ _ _ he) fun _ t2 _ h2=>pb_err h2 (fun e he=>hf _ _ he) fun x t3 _ h3=>by cases h3
theorem valB_er {fixed:Bool} {sub:Option (TS→PR Val)} (hs:∀ f,sub=some f→PErr f∧GP bV wfV 1 f):PErr (valB fixed sub):=fun t n h=>by
 rw [valB.eq_def] at h
 split at h
 ·cases h
 split at h
 ·cases h
 split at h
 ·cases h
 split at h
 ·cases sub with
  | none=>cases h;decide
  | some f =>
   obtain ⟨h1,h2⟩:=hs f rfl
   exact pb_err h (fun e he=>manyP_ne h1 (h2.lt (by decide)) _ _ _ _ (Nat.lt_succ_self _) he) fun l t' _ h'=>by cases h'
 split at h
 ·cases sub with
  | none=>cases h;decide
  | some f =>
   obtain ⟨h1,h2⟩:=hs f rfl
   exact pb_err h (fun e he=>manyP_ne (memberP_ne h1) ((memberP_fit h2).lt (by decide)) _ _ _ _ (Nat.lt_succ_self _) he) fun l t' _ h'=>by cases h'
 split at h
 ·cases h;decide
 ·exact pb_err h (fun e he=>mustP_ne _ _ _ he) fun _ t1 _ h1=>pb_err h1 (fun e he=>nameP_ne _ _ he) fun s t2 _ h2=>by cases h2
theorem valP_er (fixed:Bool):∀ k,PErr (valP fixed k)
 | 0=>fun t n h=>valB_er (sub:=none) (fun f hf=>by cases hf) t n (by rw [valP_eq] at h;exact h)
 | k+1=>fun t n h=>valB_er (sub:=some (valP fixed k)) (fun f hf=>by cases hf;exact ⟨valP_er fixed k,valP_fit fixed k⟩) t n (by rw [valP_eq] at h;exact h)
theorem argsP_ne (fixed:Bool) (k:Nat):PErr (argsP fixed k):=fun t n h=>by
 unfold argsP at h
 split at h
 ·exact many1P_ne (memberP_ne (valP_er fixed k)) ((memberP_fit (valP_fit fixed k)).lt (by decide)) _ _ h
 ·cases h
theorem dirP_ne (fixed:Bool) (k:Nat):PErr (dirP fixed k):=fun t n h =>
 pb_err h (fun e he=>nameP_ne _ _ he) fun s t1 _ h1=>pb_err h1 (fun e he=>argsP_ne _ _ _ _ he) fun a t2 _ h2=>by cases h2
theorem dirsP_ne (fixed:Bool) (k:Nat):PErr (dirsP fixed k):=fun t n h =>
 whileP_ne (dirP_ne fixed k) ((dirP_fit fixed k).lt (by decide)) _ _ _ _ (Nat.lt_succ_self _) h
theorem spreadP_ne {sels:TS→PR (List SelD)} (hs:PErr sels) (k:Nat):PErr (spreadP sels k):=fun t n h=>by
 unfold spreadP at h
 split at h
 ·exact pb_err h (fun e he=>nameP_ne _ _ he) fun s t1 _ h1=>pb_err h1 (fun e he=>dirsP_ne _ _ _ _ he) fun a t2 _ h2=>by cases h2
 ·refine pb_err h (fun e he=>?_) fun o t1 _ h1=>pb_err h1 (fun e he=>dirsP_ne _ _ _ _ he) fun a t2 _ h2=>pb_err h2 (fun e he=>hs _ _ he) fun l t3 _ h3=>by cases h3
  split at he
  ·exact nameP_ne _ _ he
  ·cases he
theorem selP_ne {sels:TS→PR (List SelD)} (hs:PErr sels) (k:Nat):PErr (selP sels k):=fun t n h=>by
 unfold selP at h
 split at h
 ·exact spreadP_ne hs k _ _ h
 ·refine pb_err h (fun e he=>nameP_ne _ _ he) fun s t1 _ h1=>pb_err h1 (fun e he=>?_) fun an t2 _ h2=>pb_err h2 (fun e he=>argsP_ne _ _ _ _ he) fun a t3 _ h3=>pb_err h3 (fun e he=>dirsP_ne _ _ _ _ he) fun d t4 _ h4=>pb_err h4 (fun e he=>?_) fun l t5 _ h5=>by cases h5
  ·split at he
   ·exact pb_err he (fun e he=>nameP_ne _ _ he) fun s t2 _ h2=>by cases h2
   ·cases he
  ·split at he
   ·exact hs _ _ he
   ·cases he
theorem selsP_ne:∀ k,PErr (selsP k)
 | 0=>fun t n h=>by
  rw [selsP] at h
  split at h<;>(cases h;decide)
 | k+1=>fun t n h=>by
  rw [selsP] at h
  split at h
  ·exact many1P_ne (selP_ne (selsP_ne k) k) ((selP_fit (selsP_fit k)).lt (by decide)) _ _ h
  ·cases h;decide
theorem varP_ne:PErr varP:=fun t n h =>
 pb_err h (fun e he=>mustP_ne _ _ _ he) fun _ t1 _ h1=>pb_err h1 (fun e he=>nameP_ne _ _ he) fun s t2 _ h2=>pb_err h2 (fun e he=>mustP_ne _ _ _ he) fun _ t3 _ h3=>pb_err h3 (fun e he=>typP_er 4 _ _ he) fun ty t4 _ h4=>by
  split at h4
  ·exact pb_err h4 (fun e he=>valP_er true 16 _ _ he) fun v t5 _ h5=>by cases h5
  ·cases h4
theorem opP_ne (kind:Int):PErr (opP kind):=fun t n h=>by
 refine pb_err h (fun e he=>?_) fun s t1 _ h1=>pb_err h1 (fun e he=>?_) fun vs t2 _ h2=>pb_err h2 (fun e he=>dirsP_ne _ _ _ _ he) fun d t3 _ h3=>pb_err h3 (fun e he=>selsP_ne 16 _ _ he) fun l t4 _ h4=>by cases h4
 ·split at he
  ·exact nameP_ne _ _ he
  ·cases he
 ·split at he
  ·exact many1P_ne varP_ne (varP_fit.lt (by decide)) _ _ he
  ·cases he
theorem fragP_ne:PErr fragP:=fun t n h=>by
 refine pb_err h (fun e he=>?_) fun s t1 _ h1=>pb_err h1 (fun e he=>?_) fun _ t2 _ h2=>pb_err h2 (fun e he=>nameP_ne _ _ he) fun o t3 _ h3=>pb_err h3 (fun e he=>dirsP_ne _ _ _ _ he) fun d t4 _ h4=>pb_err h4 (fun e he=>selsP_ne 16 _ _ he) fun l t5 _ h5=>by cases h5
 ·split at he
  ·cases he;decide
  ·exact nameP_ne _ _ he
 ·split at he
  ·cases he
  ·cases he;decide
theorem defP_ne (d:DocD):PErr (defP d):=fun t n h=>by
 unfold defP at h
 split at h
 ·exact pb_err h (fun e he=>selsP_ne 16 _ _ he) fun l t1 _ h1=>by cases h1
 split at h
 ·exact pb_err h (fun e he=>opP_ne _ _ _ he) fun l t1 _ h1=>by cases h1
 split at h
 ·exact pb_err h (fun e he=>opP_ne _ _ _ he) fun l t1 _ h1=>by cases h1
 split at h
 ·exact pb_err h (fun e he=>fragP_ne _ _ he) fun l t1 _ h1=>by cases h1
 ·cases h;decide
theorem defP_len {d d' : DocD} {t t' : TS} (h : defP d t = .ok (d', t')) : t'.length < t.length := by
  unfold defP at h
  split at h
  · obtain ⟨l, t1, h1, h2⟩ := pb_inv h
    cases h2; exact (selsP_fit 16).lt (by decide) _ _ _ h1
  split at h
  · rename_i hq
    obtain ⟨l, t1, h1, h2⟩ := pb_inv h
    have : t.tail.length < t.length := by conv => rhs; rw [hd_tail (isW_ne hq)]
                                          simp
    have h3 := (opP_fit 0).lt (by decide) _ _ _ h1
    cases h2; omega
  split at h
  · rename_i hq
    obtain ⟨l, t1, h1, h2⟩ := pb_inv h
    have : t.tail.length < t.length := by conv => rhs; rw [hd_tail (isW_ne hq)]
                                          simp
    have h3 := (opP_fit 1).lt (by decide) _ _ _ h1
    cases h2; omega
  split at h
  · rename_i hq
    obtain ⟨l, t1, h1, h2⟩ := pb_inv h
    have : t.tail.length < t.length := by conv => rhs; rw [hd_tail (isW_ne hq)]
                                          simp
    have h3 := fragP_fit.lt (by decide) _ _ _ h1
    cases h2; omega
  · cases h
theorem defsP_ne:∀ (n:Nat) (d:DocD) (t:TS) (e:Int),t.length<n→defsP n d t=.error e→e≠0
 | 0,_,_,_,h,_=>absurd h (Nat.not_lt_zero _)
 | n+1,d,t,e,hn,h=>by
  rw [defsP] at h
  split at h
  ·cases h
  ·exact pb_err h (fun k hk=>defP_ne _ _ _ hk) fun d' t' ha h'=>defsP_ne n _ _ _ (by have:=defP_len ha;omega) h'
theorem docP_er:PErr docP:=fun t n h =>
 pb_err h (fun e he=>defP_ne _ _ _ he) fun d t1 ha h1=>defsP_ne _ _ _ _ (by have:=defP_len ha;omega) h1
end Go.Proofs.YticbbfbpeimkbaaGreatDoor
namespace Go.Proofs.YticbbfbpeimkbaaGreatDoor
open Go.Ab
theorem wL_dw (p:List UInt8→Bool):∀ l:List (List UInt8),wL (l.dropWhile p)≤wL l
 | []=>Nat.le_refl _
 | x :: r=>by
  rw [List.dropWhile_cons]
  split
  ·have:=wL_dw p r;rw [wL_cons];omega
  ·exact Nat.le_refl _
theorem wL_rev (l:List (List UInt8)):wL l.reverse=wL l:=by
 induction l with
 | nil=>rfl
 | cons x r ih=>rw [List.reverse_cons,wL_app,ih,wL_cons,wL_cons];simp [wL];omega
theorem blockM_len (raw:List UInt8):(blockM raw).length≤raw.length+1:=by
 have h1:=lines_sum raw []
 have h2:wL (dropM (linesM raw))≤wL (linesM raw):=by
  cases hx:linesM raw with
  | nil=>exact Nat.le_refl _
  | cons x r =>
   simp only [dropM]
   rw [wL_cons,wL_cons]
   have:=wL_drop (indM (x :: r)).toNat r
   omega
 unfold blockM trimR
 have h3:=join_wL ((((dropM (linesM raw)).dropWhile bareL).reverse.dropWhile bareL).reverse)
 rw [wL_rev] at h3
 have h4:=wL_dw bareL ((dropM (linesM raw)).dropWhile bareL).reverse
 rw [wL_rev] at h4
 have h5:=wL_dw bareL (dropM (linesM raw))
 have h6:wL (linesM raw)≤raw.length+1:=by simpa [wL,linesM] using h1
 omega
theorem oneT_w {s t:List UInt8} {x:Tok} (h:oneT s=some (x,t)):x.s.length+t.length≤s.length+1:=by
 cases s with
 | nil=>cases h
 | cons c r =>
  rw [oneT_cons] at h
  split at h
  ·cases hr:rawM (r.length+1) [] (r.drop 2) with
   | none=>rw [hr] at h;cases h
   | some y =>
    rw [hr] at h
    simp only [Option.map_some,Option.some.injEq,Prod.mk.injEq] at h
    obtain ⟨rfl,rfl⟩:=h
    have h1:=(rawM_len _ _ _ _ _ (show rawM _ _ _=some (y.1,y.2) from hr)).1
    have h2:=blockM_len y.1
    simp at h1 ⊢
    omega
  split at h
  ·cases hr:quoM lineB r with
   | none=>rw [hr] at h;cases h
   | some y =>
    rw [hr] at h
    simp only [Option.map_some,Option.some.injEq,Prod.mk.injEq] at h
    obtain ⟨rfl,rfl⟩:=h
    have h1:=quoM_w (show quoM lineB r=some (y.1,y.2) from hr)
    simp only [List.length_cons]
    omega
  split at h
  ·rename_i hp
   have hl:=pre_len _ _ hp
   have hd3:dotsT.length=3:=rfl
   rw [hd3] at hl
   cases h;simp [hd3] at hl ⊢;omega
  split at h
  ·cases h;simp;omega
  split at h
  ·cases h;simp;omega
  split at h
  ·cases h
  split at h
  ·cases h
  ·cases h;simp;omega
theorem readG_w:∀ (n:Nat) (l:List Tok) (s:List UInt8) (l':List Tok),readG n l s=.ok l'→wT l'≤wT l+6*s.length
 | 0,_,_,_,h=>by cases h
 | n+1,l,s,l',h=>by
  simp only [readG] at h
  split at h
  ·cases h;omega
  split at h
  ·have:=readG_w n _ _ _ h
   simp at this;omega
  ·cases ho:oneT s with
   | none=>rw [ho] at h;cases h
   | some x =>
    rw [ho] at h
    have h1:=oneT_lt (show oneT s=some (x.1,x.2) from ho)
    have h2:=oneT_w (show oneT s=some (x.1,x.2) from ho)
    have h3:=readG_w n _ _ _ h
    have h4:wT (l++[x.1])=wT l+wK x.1:=by simp [wT]
    rw [h4,wK] at h3
    omega
theorem readT_w {s:List UInt8} {L:List Tok} (h:readT s=.ok L):wT L≤LimP:=by
 obtain ⟨h1,_,h3⟩:=readT_ok h
 have h4:=readG_w _ _ _ _ h3
 have e:wT ([]:List Tok)=0:=rfl
 rw [e] at h4
 simp only [LimP];omega
def docR (s:List UInt8):DocD × Int:=match readT s with
 | .error n=>(⟨[],[]⟩,n)
 | .ok L=>match docP L with
  | .error n=>(⟨[],[]⟩,n)
  | .ok (d,_)=>(d,0)
def valR (fixed:Bool) (s:List UInt8):Val × Int:=match readT s with
 | .error n=>(zV,n)
 | .ok L=>match valP fixed 16 L with
  | .error n=>(zV,n)
  | .ok (v,t)=>if t=[] then (v,0) else (zV,2)
def tyR (s:List UInt8):TyD × Int:=match readT s with
 | .error n=>(⟨[],0,0⟩,n)
 | .ok L=>match typP 4 L with
  | .error n=>(⟨[],0,0⟩,n)
  | .ok (v,t)=>if t=[] then (v,0) else (⟨[],0,0⟩,2)
theorem valP_ne {s:List UInt8} {L:List Tok} {fixed:Bool} {n:Int} (h:readT s=.ok L) (he:valP fixed 16 L=.error n):n≠0:=valP_er fixed 16 _ _ he
theorem typP_ne {L:List Tok} {n:Int} (he:typP 4 L=.error n):n≠0:=typP_er 4 _ _ he
theorem docP_ne {s:List UInt8} {L:List Tok} {n:Int} (h:readT s=.ok L) (he:docP L=.error n):n≠0:=docP_er _ _ he
def ValO (fixed:Bool) (s:List UInt8) (b:Nat) (n:Int) (H:Heap):Prop:=(n≠0∧valR fixed s=(zV,n))∨(n=0∧∃ v,valR fixed s=(v,0)∧H b=some (.cells (cV v)))
theorem valCloC {s:List UInt8} {L:List Tok} (fixed:Bool) (hR:readT s=.ok L) {Hc:Heap} {b6 r:Nat} (h6:Hc b6=some (.cells zB)) (hr:Hc r=none) :
  ACalls Tryz.prog 95 [.ptr r 0,.view [.bool fixed],.ptr b6 0] (Hc.upd r (prc L [] 0)) (fun e H'=>match e with
   | .ret _=>∃ p t dp,p++t=L∧H' r=some (prc L p dp)∧ValO fixed s b6 (if t=[] then 0 else 2) H'
   | .pan v=>∃ n,v=stopP n∧∀ H,ValO fixed s b6 n H):=by
 refine ACalls.goO (R:=fun _ H'=>∃ p t dp,p++t=L∧H' r=some (prc L p dp)∧ValO fixed s b6 (if t=[] then 0 else 2) H') (RP:=fun v _=>∃ n,v=stopP n∧∀ H,ValO fixed s b6 n H) ir95 ck95 (Nat.le_refl _) fun KP Q hQ hP=>?_
 have n6:b6≠r:=fun e=>by subst e;rw [hr] at h6;cases h6
 simp (disch:=first|omega|assumption) only [ir95,go_sem,↓reduceIte]
 refine goK_both (valuePall fixed 16 (Nat.le_refl _) _ r L [] L rfl (readT_w hR) (upd_same ..)) (fun v H1 ⟨x,t,e,hv,ha⟩=>?_) fun v H1 ⟨n,e,hv⟩=>hP v H1 H1 (Low.refl _) ⟨n,hv,fun H=>.inl ⟨valP_ne hR e,by unfold valR;rw [hR];simp only [e]⟩⟩
 subst hv
 obtain ⟨p,hp,hr1⟩:=ha.at
 have g6:H1 b6=some (.cells zB):=by rw [ha.other n6,upd_ne n6,h6]
 simp only [zB] at g6
 simp (disch:=first|omega|assumption) only [cV_len,cV_take,cV_splice,cM_len,cM_take,cM_splice,cM_mk,g6,go_sem,↓reduceIte]
 refine hQ _ _ _ _ [] nofun rfl (Low.refl _) ⟨p,t,16-16,hp,by rw [upd_ne (Ne.symm n6)];exact hr1,?_⟩
 by_cases ht:t=[]
 ·rw [if_pos ht]
  exact .inr ⟨rfl,x,by unfold valR;rw [hR];simp only [e];rw [if_pos ht],upd_same ..⟩
 ·rw [if_neg ht]
  exact .inl ⟨by decide,by unfold valR;rw [hR];simp only [e];rw [if_neg ht]⟩
theorem un_one {b4 b6:Nat} {x y:AObj} (h:b6≠b4):(Heap.emp.upd b4 x).upd b6 y=Heap.union (Heap.one b6 y) (Heap.one b4 x):=by
 funext c
 by_cases e1:c=b6
 ·subst e1;simp [Heap.union,Heap.upd,Heap.one]
 ·by_cases e2:c=b4
  ·subst e2;simp [Heap.union,Heap.upd,Heap.one,e1]
  ·simp [Heap.union,Heap.upd,Heap.one,e1,e2,Heap.emp]
theorem un_disj {b4 b6:Nat} {x y:AObj} (h:b6≠b4):Heap.Disj (Heap.one b6 y) (Heap.one b4 x):=fun c=>by
 by_cases e:c=b4
 ·subst e;exact .inl (by simp [Heap.one,Ne.symm h])
 ·exact .inr (by simp [Heap.one,e])
theorem un_b4 {A:Heap} {b4:Nat} {x:AObj} (h:Heap.Disj A (Heap.one b4 x)):Heap.union A (Heap.one b4 x) b4=some x:=by
 have hB:Heap.one b4 x b4=some x:=by simp [Heap.one]
 rcases h b4 with h|h
 ·simp [Heap.union,h,hB]
 ·rw [hB] at h;cases h
theorem un_l {A B:Heap} {b:Nat} {x:AObj} (h:A b=some x):Heap.union A B b=some x:=by simp [Heap.union,h]
theorem parseValueC (s:List UInt8) (fixed:Bool) (hl:s.length≤LimQ):Pure Tryz.prog 42 [.str s,.bool fixed] (.tup [.agg (cV (valR fixed s).1),.int .i64 (valR fixed s).2]):=by
 refine Pure.go ir42 ck42 (Nat.le_refl _) fun KP Q hQ=>?_
 simp (disch:=first|omega|assumption) only [ir42,go_sem,↓reduceIte]
 refine goA_intro fun b4 hb4=>?_
 simp (disch:=first|omega|assumption) only [go_sem,↓reduceIte]
 refine goA_intro fun b6 hb6=>?_
 have h64:b6≠b4:=fun e=>by subst e;rw [upd_same] at hb6;cases hb6
 have h6c:(Heap.one b6 (.cells zB)) b6=some (.cells zB):=by simp [Heap.one]
 have hc:=ACalls.frame (un_disj (x:=.cells zB) h64) (runPC (s:=s) (Hc:=Heap.one b6 (.cells zB)) (clo:=95) (caps:=[.view [.bool fixed],.ptr b6 0]) hl (by decide +kernel) (ValO fixed s b6)
  (fun n h=>.inl ⟨readT_err h,by unfold valR;rw [h]⟩) (fun L hR r hr=>valCloC fixed hR h6c hr))
 rw [← un_one h64] at hc
 simp (disch:=first|omega|assumption) only [go_sem,↓reduceIte]
 refine goK_calls hc fun e H' ⟨A',hq,hd',hH'⟩=>?_
 subst hH'
 cases e with
 | pan v=>exact hq.elim
 | ret v =>
  obtain ⟨n,hv,ho⟩:=hq
  subst hv
  have g4:=un_b4 hd'
  simp only [zB] at g4
  show goR _ _ _ _ _ _ _ _ _
  rcases ho with ⟨hn,he⟩|⟨hn,x,he,h6⟩
  ·rw [he] at hQ
   simp (disch:=first|omega|assumption) only [hn,g4,go_sem,↓reduceIte]
   exact hQ _ _ _ [.agg [.int .i64 0,.int .i64 0,.str [],.sl .nil 5 [],.sl .nil 6 []],.int .i64 n] nofun (by simp (disch:=first|omega|assumption) only [ir42,resvs,resv,go_sem,↓reduceIte]) (by simp [tupOf,AV.strip,AV.strip1,zV,cV,cVs,cMs])
  ·subst hn
   rw [he] at hQ
   have g6:=un_l (B:=Heap.one b4 (.cells zB)) h6
   simp (disch:=first|omega|assumption) only [cV_len,cV_take,cV_splice,cM_len,cM_take,cM_splice,cM_mk,g4,g6,go_sem,↓reduceIte]
   exact hQ _ _ _ [.agg (cV x),.int .i64 0] nofun (by simp (disch:=first|omega|assumption) only [cV_len,cV_take,cV_splice,cM_len,cM_take,cM_splice,cM_mk,ir42,resvs,resv,go_sem,↓reduceIte]) (by simp [tupOf,AV.strip,AV.strip1,cV_strip])
end Go.Proofs.YticbbfbpeimkbaaGreatDoor
namespace Go.Proofs.YticbbfbpeimkbaaGreatDoor
open Go.Ab
def TyO (s:List UInt8) (b:Nat) (n:Int) (H:Heap):Prop:=(n≠0∧tyR s=(⟨[],0,0⟩,n))∨(n=0∧∃ v,tyR s=(v,0)∧H b=some (.cells (cTy v)))
theorem tyCloC {s:List UInt8} {L:List Tok} (hR:readT s=.ok L) {Hc:Heap} {b6 r:Nat} (h6:Hc b6=some (.cells zT)) (hr:Hc r=none) :
  ACalls Tryz.prog 99 [.ptr r 0,.ptr b6 0] (Hc.upd r (prc L [] 0)) (fun e H'=>match e with
   | .ret _=>∃ p t dp,p++t=L∧H' r=some (prc L p dp)∧TyO s b6 (if t=[] then 0 else 2) H'
   | .pan v=>∃ n,v=stopP n∧∀ H,TyO s b6 n H):=by
 refine ACalls.goO (R:=fun _ H'=>∃ p t dp,p++t=L∧H' r=some (prc L p dp)∧TyO s b6 (if t=[] then 0 else 2) H') (RP:=fun v _=>∃ n,v=stopP n∧∀ H,TyO s b6 n H) ir99 ck99 (Nat.le_refl _) fun KP Q hQ hP=>?_
 have n6:b6≠r:=fun e=>by subst e;rw [hr] at h6;cases h6
 simp (disch:=first|omega|assumption) only [ir99,go_sem,↓reduceIte]
 refine goK_both (typePC (dp:=0) (p:=[]) (t:=L) rfl (readT_w hR) (upd_same ..)) (fun v H1 ⟨x,t,e,hv,ha⟩=>?_) fun v H1 ⟨n,e,hv⟩=>hP v H1 H1 (Low.refl _) ⟨n,hv,fun H=>.inl ⟨typP_ne e,by unfold tyR;rw [hR];simp only [e]⟩⟩
 subst hv
 obtain ⟨p,hp,hr1⟩:=ha.at
 have g6:H1 b6=some (.cells zT):=by rw [ha.other n6,upd_ne n6,h6]
 simp only [zT] at g6
 simp (disch:=first|omega|assumption) only [g6,cTy,go_sem,↓reduceIte]
 refine hQ _ _ _ _ [] nofun rfl (Low.refl _) ⟨p,t,0,hp,by rw [upd_ne (Ne.symm n6)];exact hr1,?_⟩
 by_cases ht:t=[]
 ·rw [if_pos ht]
  exact .inr ⟨rfl,x,by unfold tyR;rw [hR];simp only [e];rw [if_pos ht],upd_same ..⟩
 ·rw [if_neg ht]
  exact .inl ⟨by decide,by unfold tyR;rw [hR];simp only [e];rw [if_neg ht]⟩
theorem parseTypeC (s:List UInt8) (hl:s.length≤LimQ):Pure Tryz.prog 44 [.str s] (.tup [.agg (cTy (tyR s).1),.int .i64 (tyR s).2]):=by
 refine Pure.go ir44 ck44 (Nat.le_refl _) fun KP Q hQ=>?_
 simp (disch:=first|omega|assumption) only [ir44,go_sem,↓reduceIte]
 refine goA_intro fun b4 hb4=>?_
 simp (disch:=first|omega|assumption) only [go_sem,↓reduceIte]
 refine goA_intro fun b6 hb6=>?_
 have h64:b6≠b4:=fun e=>by subst e;rw [upd_same] at hb6;cases hb6
 have h6c:(Heap.one b6 (.cells zT)) b6=some (.cells zT):=by simp [Heap.one]
 have hc:=ACalls.frame (un_disj (x:=.cells zT) h64) (runPC (s:=s) (Hc:=Heap.one b6 (.cells zT)) (clo:=99) (caps:=[.ptr b6 0]) hl (by decide +kernel) (TyO s b6)
  (fun n h=>.inl ⟨readT_err h,by unfold tyR;rw [h]⟩) (fun L hR r hr=>tyCloC hR h6c hr))
 rw [← un_one h64] at hc
 simp (disch:=first|omega|assumption) only [go_sem,↓reduceIte]
 refine goK_calls hc fun e H' ⟨A',hq,hd',hH'⟩=>?_
 subst hH'
 cases e with
 | pan v=>exact hq.elim
 | ret v =>
  obtain ⟨n,hv,ho⟩:=hq
  subst hv
  have g4:=un_b4 hd'
  simp only [zT] at g4
  show goR _ _ _ _ _ _ _ _ _
  rcases ho with ⟨hn,he⟩|⟨hn,x,he,h6⟩
  ·rw [he] at hQ
   simp (disch:=first|omega|assumption) only [hn,g4,go_sem,↓reduceIte]
   exact hQ _ _ _ [.agg [.str [],.int .i64 0,.int .i64 0],.int .i64 n] nofun (by simp (disch:=first|omega|assumption) only [ir44,resvs,resv,go_sem,↓reduceIte]) (by simp [tupOf,AV.strip,AV.strip1,cTy])
  ·subst hn
   rw [he] at hQ
   have g6:=un_l (B:=Heap.one b4 (.cells zT)) h6
   simp only [cTy,zT] at g6
   simp (disch:=first|omega|assumption) only [g4,g6,go_sem,↓reduceIte]
   exact hQ _ _ _ [.agg [.str x.nm,.int .i64 x.lists,.int .i64 x.musts],.int .i64 0] nofun (by simp (disch:=first|omega|assumption) only [ir44,resvs,resv,go_sem,↓reduceIte]) (by simp [tupOf,AV.strip,AV.strip1,cTy])
abbrev zDoc:List AV:=[.sl .nil 5 [],.sl .nil 4 []]
def DocO (s:List UInt8) (b:Nat) (n:Int) (H:Heap):Prop:=(n≠0∧docR s=(⟨[],[]⟩,n))∨(n=0∧∃ d o1 o2,docR s=(d,0)∧H b=some (.cells [.sl o1 5 (cOs d.ops),.sl o2 4 (cFs d.frags)]))
theorem docCloC {s:List UInt8} {L:List Tok} (hR:readT s=.ok L) {Hc:Heap} {b6 r:Nat} (h6:Hc b6=some (.cells zDoc)) (hr:Hc r=none) :
  ACalls Tryz.prog 90 [.ptr r 0,.ptr b6 0] (Hc.upd r (prc L [] 0)) (fun e H'=>match e with
   | .ret _=>∃ p t dp,p++t=L∧H' r=some (prc L p dp)∧DocO s b6 (if t=[] then 0 else 2) H'
   | .pan v=>∃ n,v=stopP n∧∀ H,DocO s b6 n H):=by
 refine ACalls.goO (R:=fun _ H'=>∃ p t dp,p++t=L∧H' r=some (prc L p dp)∧DocO s b6 (if t=[] then 0 else 2) H') (RP:=fun v _=>∃ n,v=stopP n∧∀ H,DocO s b6 n H) ir90 ck90 (Nat.le_refl _) fun KP Q hQ hP=>?_
 have n6:b6≠r:=fun e=>by subst e;rw [hr] at h6;cases h6
 have hw:=readT_w hR
 have pan:∀ (v:AV) (H1:Heap) (n:Int),v=stopP n→docP L=.error n→KP v H1:=fun v H1 n h1 h2=>hP v H1 H1 (Low.refl _) ⟨n,h1,fun H=>.inl ⟨docP_ne hR h2,by unfold docR;rw [hR];simp only [h2]⟩⟩
 have D0:DI L r b6 (Hc.upd r (prc L [] 0)) L ⟨[],[]⟩ .nil .nil:=⟨⟨[],rfl,upd_same ..⟩,by rw [upd_ne n6];exact h6,rfl,rfl,nofun,n6⟩
 simp (disch:=first|omega|assumption) only [ir90,go_sem,↓reduceIte]
 refine goK_calls (defPC D0 hw (Nat.zero_le _)) fun e H1 hq=>?_
 cases e with
 | pan v =>
  obtain ⟨n,hv,he⟩:=hq
  exact pan v H1 n hv (by unfold docP;rw [he];rfl)
 | ret v =>
  obtain ⟨d1,t1,o1,o2,e1,hv,D1,hl1,hlt1⟩:=hq
  subst hv
  obtain ⟨R,hRR⟩:∃ R,defsP (L.length+1-0) d1 t1=R:=⟨_,rfl⟩
  have hx:docP L=defsP (t1.length+1) d1 t1:=by unfold docP;rw [e1];rfl
  obtain ⟨R,hRR⟩:∃ R,defsP (t1.length+1) d1 t1=R:=⟨_,rfl⟩
  rw [hRR] at hx
  show goR _ _ _ _ _ _ _ _ _
  simp (disch:=first|omega|assumption) only [go_sem,↓reduceIte]
  refine goL_st (fun x:DocD × TS × Own × Own=>[]) (fun x H'=>DI L r b6 H' x.2.1 x.1 x.2.2.1 x.2.2.2∧(∃ m,x.2.1.length<m∧defsP m x.1 x.2.1=R)∧x.1.ops.length+x.1.frags.length+x.2.1.length≤L.length) (fun x=>x.2.1.length) (d1,t1,o1,o2) (by simp (disch:=first|omega|assumption) only [go_sem,↓reduceIte]) ⟨D1,⟨_,Nat.lt_succ_self _,hRR⟩,by simpa using hl1⟩ ?_
  rintro ⟨d,t,p1,p2⟩ H2 J ⟨D2,⟨m,hm,hR2⟩,hlen⟩ hJ
  simp only at D2 hm hR2 hlen
  obtain ⟨m,rfl⟩:∃ j,m=j+1:=⟨m-1,by omega⟩
  obtain ⟨q,hq,hr2⟩:=D2.rd
  rw [defsP] at hR2
  simp (disch:=first|omega|assumption) only [go_sem,↓reduceIte]
  refine goK_ret (moreP hq hr2) fun v3 H3 ⟨hv3,hH3⟩=>?_
  subst hv3;subst hH3
  by_cases ht:t=[]
  ·rw [if_pos ht] at hR2
   have hd:decide (t≠[])=false:=by simp [ht]
   rw [hd]
   simp (disch:=first|omega|assumption) only [go_sem,↓reduceIte]
   refine hQ _ _ _ _ [] nofun rfl (Low.refl _) ⟨q,t,16-16,hq,hr2,?_⟩
   rw [if_pos ht]
   exact .inr ⟨rfl,d,p1,p2,by unfold docR;rw [hR];simp only [hx,← hR2],D2.box⟩
  ·rw [if_neg ht] at hR2
   have hd:decide (t≠[])=true:=by simp [ht]
   rw [hd]
   simp (disch:=first|omega|assumption) only [go_sem,↓reduceIte]
   refine goK_calls (defPC D2 hw (by omega)) fun e H4 hq4=>?_
   cases e with
   | pan v =>
    obtain ⟨n,hv,he⟩:=hq4
    exact pan v H4 n hv (by rw [hx,← hR2,he];rfl)
   | ret v =>
    obtain ⟨d4,t4,o3,o4,e4,hv,D4,hl4,hlt4⟩:=hq4
    subst hv
    rw [e4,pb_ok] at hR2
    show goR _ _ _ _ _ _ _ _ _
    simp (disch:=first|omega|assumption) only [go_sem,↓reduceIte]
    exact goJ (hJ (d4,t4,o3,o4) _ (by simp only;omega) ⟨D4,⟨m,by simp only;omega,hR2⟩,by simp only;omega⟩) (by simp (disch:=first|omega|assumption) only [go_sem,↓reduceIte])
theorem parseReadC (s:List UInt8) (hl:s.length≤LimQ):Pure Tryz.prog 40 [.str s] (.tup [.agg (cDoc (docR s).1),.int .i64 (docR s).2]):=by
 refine Pure.go ir40 ck40 (Nat.le_refl _) fun KP Q hQ=>?_
 simp (disch:=first|omega|assumption) only [ir40,go_sem,↓reduceIte]
 refine goA_intro fun b4 hb4=>?_
 simp (disch:=first|omega|assumption) only [go_sem,↓reduceIte]
 refine goA_intro fun b6 hb6=>?_
 have h64:b6≠b4:=fun e=>by subst e;rw [upd_same] at hb6;cases hb6
 have h6c:(Heap.one b6 (.cells zDoc)) b6=some (.cells zDoc):=by simp [Heap.one]
 have hc:=ACalls.frame (un_disj (x:=.cells zDoc) h64) (runPC (s:=s) (Hc:=Heap.one b6 (.cells zDoc)) (clo:=90) (caps:=[.ptr b6 0]) hl (by decide +kernel) (DocO s b6)
  (fun n h=>.inl ⟨readT_err h,by unfold docR;rw [h]⟩) (fun L hR r hr=>docCloC hR h6c hr))
 rw [← un_one h64] at hc
 simp (disch:=first|omega|assumption) only [go_sem,↓reduceIte]
 refine goK_calls hc fun e H' ⟨A',hq,hd',hH'⟩=>?_
 subst hH'
 cases e with
 | pan v=>exact hq.elim
 | ret v =>
  obtain ⟨n,hv,ho⟩:=hq
  subst hv
  have g4:=un_b4 hd'
  simp only [zDoc] at g4
  show goR _ _ _ _ _ _ _ _ _
  rcases ho with ⟨hn,he⟩|⟨hn,x,o1,o2,he,h6⟩
  ·rw [he] at hQ
   simp (disch:=first|omega|assumption) only [hn,g4,go_sem,↓reduceIte]
   exact hQ _ _ _ [.agg [.sl .nil 5 [],.sl .nil 4 []],.int .i64 n] nofun (by simp (disch:=first|omega|assumption) only [ir40,resvs,resv,go_sem,↓reduceIte]) (by simp [tupOf,AV.strip,AV.strip1,cDoc,cOs,cFs])
  ·subst hn
   rw [he] at hQ
   have g6:=un_l (B:=Heap.one b4 (.cells zDoc)) h6
   simp (disch:=first|omega|assumption) only [g4,g6,go_sem,↓reduceIte]
   exact hQ _ _ _ [.agg [.sl o1 5 (cOs x.ops),.sl o2 4 (cFs x.frags)],.int .i64 0] nofun (by simp (disch:=first|omega|assumption) only [ir40,resvs,resv,go_sem,↓reduceIte]) (by simp [tupOf,AV.strip,AV.strip1,cDoc])
end Go.Proofs.YticbbfbpeimkbaaGreatDoor

namespace Go.Proofs.YticbbfbpeimkbaaGreatDoor
open Go.Ab
end Go.Proofs.YticbbfbpeimkbaaGreatDoor
namespace Go.Proofs.YticbbfbpeimkbaaGreatDoor
open Go.Ab
end Go.Proofs.YticbbfbpeimkbaaGreatDoor
namespace Go.Proofs.YticbbfbpeimkbaaGreatDoor
open Go.Ab
def HdLe (t t':TS):Prop:=hdT t'=hdT t∨hdT t'=⟨0,[]⟩
theorem HdLe.pre {c t t':TS} (h:c≠[]∨HdLe t t'):HdLe (c++t) (c++t'):=by
 cases c with
 | nil=>exact h.resolve_left (fun e=>e rfl)
 | cons x c=>exact .inl rfl
def Lk {α:Type} (one:Bool) (f:TS→PR α):Prop:=∀ t a t',f t=.ok (a,t')→∃ c,(one=true→c≠[])∧t=c++t'∧∀ t'',HdLe t' t''→f (c++t'')=.ok (a,t'')
def Cl {α:Type} (f:TS→PR α):Prop:=∀ t a t',f t=.ok (a,t')→∃ c,c≠[]∧t=c++t'∧∀ t'',f (c++t'')=.ok (a,t'')
theorem Lk.bind {α β:Type} {one two:Bool} {f:TS→PR α} {g:α→TS→PR β} (hf:Lk one f) (hg:∀ a,Lk two (g a)):Lk (one || two) (fun t=>pb (f t) g):=fun t b t' h=>by
 obtain ⟨a,t1,h1,h2⟩:=pb_inv h
 obtain ⟨c1,n1,e1,k1⟩:=hf _ _ _ h1
 obtain ⟨c2,n2,e2,k2⟩:=hg a _ _ _ h2
 subst e2
 refine ⟨c1++c2,fun e=>?_,by rw [e1,List.append_assoc],fun t'' ht=>?_⟩
 ·rw [Bool.or_eq_true] at e
  rcases e with e|e
  ·have:=n1 e;simp [this]
  ·have:=n2 e;simp [this]
 ·rw [List.append_assoc]
  simp only
  rw [k1 (c2++t'') (HdLe.pre (.inr ht)),pb_ok]
  exact k2 t'' ht
theorem Lk.ret {α:Type} (a:α):Lk false (fun t=>(.ok (a,t):PR α)):=fun t b t' h=>by
 simp only [Except.ok.injEq,Prod.mk.injEq] at h
 obtain ⟨rfl,rfl⟩:=h
 exact ⟨[],fun e=>(nomatch e),rfl,fun t'' _=>rfl⟩
theorem Cl.map {α β:Type} {f:TS→PR α} {F:α→β} (hf:Cl f):Cl (fun t=>pb (f t) fun a t=>.ok (F a,t)):=fun t b t' h=>by
 obtain ⟨a,t1,h1,h2⟩:=pb_inv h
 simp only [Except.ok.injEq,Prod.mk.injEq] at h2
 obtain ⟨rfl,rfl⟩:=h2
 obtain ⟨c1,n1,e1,k1⟩:=hf _ _ _ h1
 exact ⟨c1,n1,e1,fun t''=>by simp only;rw [k1,pb_ok]⟩
theorem Lk.error {α:Type} {one:Bool} (e:Int):Lk one (fun _=>(.error e:PR α)):=fun t a t' h=>by cases h
theorem Cl.error {α:Type} (e:Int):Cl (fun _=>(.error e:PR α)):=fun t a t' h=>by cases h
def En {α:Type} (f:TS→PR α):Prop:=f []=.error 2∧∀ p x a,f (p++[x])=.ok (a,[])→f p=.error 2
theorem last_split {c t' p:TS} {x:Tok} (h:p++[x]=c++t') (hne:t'≠[]):∃ q,t'=q++[x]∧p=c++q:=by
 obtain ⟨q,y,rfl⟩:∃ q y,t'=q++[y]:=⟨t'.dropLast,t'.getLast hne,(List.dropLast_concat_getLast hne).symm⟩
 rw [← List.append_assoc] at h
 have h1:=List.append_inj_left' h rfl
 have h2:=List.append_inj_right' h rfl
 simp only [List.cons.injEq,and_true] at h2
 subst h2
 exact ⟨q,rfl,h1⟩
theorem hdle_last (q:TS) (x:Tok):HdLe (q++[x]) q:=by
 cases q with
 | nil=>exact .inr rfl
 | cons y q=>exact .inl rfl
theorem En.bind {α β:Type} {one:Bool} {f:TS→PR α} {g:α→TS→PR β} (hf:Lk one f) (h0:pb (f []) g=.error 2) (hg:∀ a,En (g a)):En (fun t=>pb (f t) g):=by
 refine ⟨h0,fun p x b h=>?_⟩
 obtain ⟨a,t1,h1,h2⟩:=pb_inv h
 obtain ⟨c,n,e,k⟩:=hf _ _ _ h1
 by_cases ht:t1=[]
 ·rw [ht,(hg a).1] at h2;cases h2
 ·obtain ⟨q,rfl,rfl⟩:=last_split e ht
  simp only
  rw [k q (hdle_last q x),pb_ok]
  exact (hg a).2 _ _ _ h2
theorem En.map {α β:Type} {f:TS→PR α} {F:α→β} (hf:En f):En (fun t=>pb (f t) fun a t=>.ok (F a,t)):=by
 refine ⟨by simp only [hf.1];rfl,fun p x b h=>?_⟩
 obtain ⟨a,t1,h1,h2⟩:=pb_inv h
 simp only [Except.ok.injEq,Prod.mk.injEq] at h2
 obtain ⟨rfl,rfl⟩:=h2
 simp only [hf.2 _ _ _ h1];rfl
end Go.Proofs.YticbbfbpeimkbaaGreatDoor
namespace Go.Proofs.YticbbfbpeimkbaaGreatDoor
open Go.Ab
def awS1:List UInt8:=[123,97,32,46,46,46,111,110,32,66,123,99,125,125]
def awS2:List UInt8:=[113,117,101,114,121,40,36,120,58,73,110,116,61,36,121,41,123,97,125]
def awD:DocD:=⟨[⟨0,[],[],[],[.mk 0 [] [97] [] [] [] [],.mk 2 [] [] [] [] [66] [.mk 0 [] [99] [] [] [] []]]⟩],[]⟩
theorem aw1:docR awS1=(awD,0):=by kernel_rfl
theorem aw2:docR awS2=(⟨[],[]⟩,2):=by kernel_rfl
theorem awakeP6:Pure Tryz.prog 39 [] (.bool true):=by
 refine Pure.go ir39 ck39 (Nat.le_refl _) fun KP Q hQ=>?_
 have h1:=parseReadC awS1 (by decide)
 have h2:=parseReadC awS2 (by decide)
 rw [aw1] at h1
 rw [aw2] at h2
 have ed:cDoc awD=[.sl .no 5 [[.int .i64 0,.str [],.sl .no 10 [],.sl .no 2 [],.sl .no 7 [[.int .i64 0,.str [],.str [97],.sl .no 6 [],.sl .no 2 [],.str [],.sl .no 7 []],[.int .i64 2,.str [],.str [],.sl .no 6 [],.sl .no 2 [],.str [66],.sl .no 7 [[.int .i64 0,.str [],.str [99],.sl .no 6 [],.sl .no 2 [],.str [],.sl .no 7 []]]]]]],.sl .no 4 []]:=rfl
 have ez:cDoc ⟨[],[]⟩=[.sl .no 5 [],.sl .no 4 []]:=rfl
 simp (disch:=first|omega|assumption) only [ir39,go_sem,↓reduceIte]
 refine goK_pure (h1:Pure Tryz.prog 40 [.str _] _) ?_
 simp (disch:=first|omega|assumption) only [ed,go_sem,↓reduceIte]
 refine goA_intro fun b1 hb1=>?_
 simp (disch:=first|omega|assumption) only [go_sem,↓reduceIte]
 refine goK_pure (h2:Pure Tryz.prog 40 [.str _] _) ?_
 simp (disch:=first|omega|assumption) only [ez,go_sem,↓reduceIte]
 refine goA_intro fun b2 hb2=>?_
 have h21:b2≠b1:=fun e=>by subst e;rw [upd_same] at hb2;cases hb2
 simp (disch:=first|omega|assumption) only [Ne.symm h21,h21,List.length_cons,List.length_nil,List.getD_cons_zero,List.getD_cons_succ,go_sem,↓reduceIte]
 exact hQ _ _ _ _ nofun rfl (by simp [tupOf,envOf,AV.strip,AV.strip1])
end Go.Proofs.YticbbfbpeimkbaaGreatDoor
namespace Go.Proofs.YticbbfbpeimkbaaGreatDoor
open Go.Ab
def rep (n:Nat) (s:List UInt8):List UInt8:=(List.replicate n s).flatten
theorem rep_r (n:Nat) (s:List UInt8):rep (n+1) s=rep n s++s:=by unfold rep;rw [List.replicate_succ'];simp
theorem rep_l (n:Nat) (s:List UInt8):rep (n+1) s=s++rep n s:=by unfold rep;rw [List.replicate_succ];simp
def ph (a:Nat) (x y:List UInt8) (d:Nat):List UInt8:=rep (min d a) x++rep (d-a) y
theorem ph_lt {a d:Nat} (h:d<a) (x y:List UInt8):ph a x y (d+1)=ph a x y d++x:=by
 unfold ph
 rw [show min (d+1) a=d+1 by omega,show min d a=d by omega,show d+1-a=0 by omega,show d-a=0 by omega,rep_r]
 simp [rep]
theorem ph_ge {a d:Nat} (h:¬ d<a) (x y:List UInt8):ph a x y (d+1)=ph a x y d++y:=by
 unfold ph
 rw [show min (d+1) a=a by omega,show min d a=a by omega,show d+1-a=(d-a)+1 by omega,rep_r]
 simp
def dpA (n:Nat):List UInt8:=rep n [123,97]++rep n [125]
def dpB (n k:Nat):List UInt8:=ph (n-k) [91] [123,120,58] n++[49]++ph k [125] [93] n
def dpC (n:Nat):List UInt8:=rep n [91]++[73,110,116]++rep n [93]
def dpD (n k:Nat):List UInt8:=[123,97,40,120,58]++dpB n k++[41,125]
end Go.Proofs.YticbbfbpeimkbaaGreatDoor
namespace Go.Proofs.YticbbfbpeimkbaaGreatDoor
open Go.Ab
def glu (L:List Tok):List UInt8:=L.flatMap tokT
def mkB (x:Tok):Bool:=decide (x.k=1) && (match x.s with|[c]=>markB c|_=>false)
def hdB1:List Tok→Bool
 | []=>true
 | x :: _=>mkB x
def tokg (x:Tok) (r:List Tok):Bool:=mkB x || (((decide (x.k=2) && nameM x.s) || (decide (x.k=3) && decide (x.s=[49]))) && hdB1 r)
def okg:List Tok→Bool
 | []=>true
 | x :: r=>tokg x r && okg r
theorem mkB_inv {x:Tok} (h:mkB x=true):∃ c,x=pk [c]∧markB c=true:=by
 obtain ⟨k,s⟩:=x
 simp only [mkB,Bool.and_eq_true,decide_eq_true_eq] at h
 obtain ⟨rfl,h⟩:=h
 cases s with
 | nil=>cases h
 | cons c t =>
  cases t with
  | nil=>exact ⟨c,rfl,h⟩
  | cons d u=>cases h
theorem hdB1_inv {r:List Tok} (h:hdB1 r=true):glu r=[]∨∃ c t,glu r=c :: t∧markB c=true:=by
 cases r with
 | nil=>exact .inl rfl
 | cons x r =>
  obtain ⟨c,rfl,hc⟩:=mkB_inv h
  exact .inr ⟨c,glu r,rfl,hc⟩
theorem one_mark {c:UInt8} (h:markB c=true) (r:List UInt8):oneT (c :: r)=some (pk [c],r)∧gapN (c :: r)=0:=by
 have h1:=mark_not c
 have hm:=h
 simp only [hm,Bool.not_true,Bool.false_or,Bool.and_eq_true,Bool.not_eq_true',decide_eq_false_iff_not,decide_eq_true_eq] at h1
 obtain ⟨a1,a2,a3,a4,a5,a6,_⟩:=h1
 simp only [markB,decide_eq_true_eq] at hm
 refine ⟨?_,gap_not a6 r⟩
 simp only [oneT]
 rw [three_not a1,dots_not a2,if_neg a1,if_pos hm];simp [pk]
theorem one_word {s:List UInt8} (h:nameM s=true) {r:List UInt8} (hr:r=[]∨∃ c t,r=c :: t∧markB c=true):oneT (s++r)=some (⟨2,s⟩,r)∧gapN (s++r)=0∧s≠[]:=by
 cases s with
 | nil=>simp [nameM,nameG] at h
 | cons c t =>
  obtain ⟨g1,g2⟩:=name_head h
  have hw:wordN (c :: t++r)=(c :: t).length:=by
   unfold wordN
   rw [List.takeWhile_append_of_pos g2]
   have:r.takeWhile (fun c=>isL c || isD c)=[]:=by
    rcases hr with rfl|⟨d,u,rfl,hd⟩
    ·rfl
    ·have h1:=mark_not d
     simp only [hd,Bool.not_true,Bool.false_or,Bool.and_eq_true,Bool.not_eq_true',decide_eq_false_iff_not,decide_eq_true_eq] at h1
     rw [List.takeWhile_cons,h1.2.2.1,h1.2.2.2.1];rfl
   rw [this];simp
  refine ⟨?_,gap_letter g1 _,by simp⟩
  rw [List.cons_append,oneT_letter g1,← List.cons_append,hw,List.take_left,List.drop_left]
theorem one_one {r:List UInt8} (hr:r=[]∨∃ c t,r=c :: t∧markB c=true):oneT (49 :: r)=some (⟨3,[49]⟩,r)∧gapN (49 :: r)=0:=by
 have hd:(isD 49 || decide ((49:UInt8)=45))=true:=by decide
 refine ⟨?_,gap_number hd r⟩
 rw [oneT_number hd]
 rcases hr with rfl|⟨d,u,rfl,hm⟩
 ·rfl
 ·have h1:=mark_not d
  simp only [hm,Bool.not_true,Bool.false_or,Bool.and_eq_true,Bool.not_eq_true',decide_eq_false_iff_not,decide_eq_true_eq] at h1
  obtain ⟨_,a2,a3,a4,_⟩:=h1
  have hE:isE d=false:=by
   have:∀ c:UInt8,(!isE c || isL c)=true:=byteAll (P:=fun c=>!isE c || isL c) (by decide +kernel)
   have:=this d
   rw [a3] at this
   simpa using this
  have hw:wholeN (49 :: d :: u)=1:=by simp [wholeN,intN,run1,a4,show isD 49=true by decide]
  have hf:fracN (d :: u)=0:=by simp [fracN,a2]
  have hp:powN (d :: u)=0:=by simp [powN,hE]
  have hn:numN (49 :: d :: u)=(1,3):=by simp [numN,hw,hf,hp]
  rw [hn]
  simp [a2,a3,a4]
theorem readG_glu:∀ L:List Tok,okg L=true→∀ (n:Nat) (l:List Tok),(glu L).length<n→readG n l (glu L)=.ok (l++L)
 | [],_,n,l,hn=>by
  cases n with
  | zero=>omega
  | succ n=>simp [glu,readG]
 | x :: L,h,n,l,hn=>by
  simp only [okg,Bool.and_eq_true] at h
  have e:glu (x :: L)=tokT x++glu L:=rfl
  have hx:oneT (tokT x++glu L)=some (x,glu L)∧gapN (tokT x++glu L)=0∧tokT x≠[]:=by
   have h1:=h.1
   simp only [tokg,Bool.or_eq_true,Bool.and_eq_true,decide_eq_true_eq] at h1
   rcases h1 with h1|⟨⟨h1,h2⟩|⟨h1,h2⟩,h3⟩
   ·obtain ⟨c,rfl,hc⟩:=mkB_inv h1
    obtain ⟨g1,g2⟩:=one_mark hc (glu L)
    exact ⟨g1,g2,by simp [tokT,pk]⟩
   ·obtain ⟨k,s⟩:=x
    simp only at h1 h2
    subst h1
    exact one_word h2 (hdB1_inv h3)
   ·obtain ⟨k,s⟩:=x
    simp only at h1 h2
    subst h1 h2
    obtain ⟨g1,g2⟩:=one_one (hdB1_inv h3)
    exact ⟨g1,g2,by simp [tokT]⟩
  obtain ⟨g1,g2,g3⟩:=hx
  have hl:0<(tokT x).length:=List.length_pos_iff.2 g3
  rw [e,List.length_append] at hn
  cases n with
  | zero=>omega
  | succ n =>
   rw [e,readG,if_neg (by simp [g3]),if_neg (by rw [g2];simp),g1]
   simp only
   rw [readG_glu L h.2 n _ (by omega)]
   simp
theorem src_glu:∀ L:List Tok,okg L=true→SrcA (glu L)
 | [],_=>.nil
 | x :: L,h=>by
  simp only [okg,Bool.and_eq_true] at h
  refine SrcA.app (a:=tokT x) ?_ (src_glu L h.2)
  have h1:=h.1
  simp only [tokg,Bool.or_eq_true,Bool.and_eq_true,decide_eq_true_eq] at h1
  rcases h1 with h1|⟨⟨h1,h2⟩|⟨h1,h2⟩,h3⟩
  ·obtain ⟨c,rfl,hc⟩:=mkB_inv h1
   exact SrcA.tok _ (by simp only [rightK,pk,if_true,Bool.or_eq_true];exact .inr hc)
  ·obtain ⟨k,s⟩:=x
   simp only at h1 h2
   subst h1
   exact SrcA.tok _ (show nameM s=true from h2)
  ·obtain ⟨k,s⟩:=x
   simp only at h1 h2
   subst h1 h2
   exact SrcA.tok _ (by decide +kernel)
theorem readT_glu {L:List Tok} {s:List UInt8} (h:okg L=true) (hs:glu L=s) (hl:s.length≤8192):readT s=.ok L:=by
 subst hs
 unfold readT
 rw [if_neg (by omega),(src_glu L h).here,if_pos rfl,readG_glu L h _ _ (by omega)]
 simp
def eDoc (L:List Tok):Int:=match docP L with|.error n=>n|.ok _=>0
def eVal (L:List Tok):Int:=match valP true 16 L with|.error n=>n|.ok (_,t)=>if t=[] then 0 else 2
def eTy (L:List Tok):Int:=match typP 4 L with|.error n=>n|.ok (_,t)=>if t=[] then 0 else 2
theorem docR_e {s:List UInt8} {L:List Tok} (h:readT s=.ok L):(docR s).2=eDoc L:=by
 unfold docR eDoc;rw [h];simp only
 cases docP L<;>rfl
theorem valR_e {s:List UInt8} {L:List Tok} (h:readT s=.ok L):(valR true s).2=eVal L:=by
 unfold valR eVal;rw [h];simp only
 cases valP true 16 L with
 | error n=>rfl
 | ok x=>obtain ⟨v,t⟩:=x;simp only;split<;>rfl
theorem tyR_e {s:List UInt8} {L:List Tok} (h:readT s=.ok L):(tyR s).2=eTy L:=by
 unfold tyR eTy;rw [h];simp only
 cases typP 4 L with
 | error n=>rfl
 | ok x=>obtain ⟨v,t⟩:=x;simp only;split<;>rfl
def rk (n:Nat) (l:List Tok):List Tok:=(List.replicate n l).flatten
def tkA (n:Nat):List Tok:=rk n [pk [123],wk [97]]++rk n [pk [125]]
def tkB (n k:Nat):List Tok:=rk (n-k) [pk [91]]++rk k [pk [123],wk [120],pk [58]]++[⟨3,[49]⟩]++rk k [pk [125]]++rk (n-k) [pk [93]]
def tkC (n:Nat):List Tok:=rk n [pk [91]]++[wk [73,110,116]]++rk n [pk [93]]
def tkD (n k:Nat):List Tok:=[pk [123],wk [97],pk [40],wk [120],pk [58]]++tkB n k++[pk [41],pk [125]]
def upTo (a b:Nat) (f:Nat→Bool):Bool:=([1,2,3,4,5,6,7,8,9,10,11,12,13,14,15,16,17,18,19,20,21,22,23,24,25,26,27,28,29,30,31,32,33,34,35,36,37,38,39,40].all fun n=>if a≤n then (if n≤b then f n else true) else true)
theorem upTo_at {a b:Nat} {f:Nat→Bool} (h:upTo a b f=true) (n:Nat) (h1:a≤n) (h2:n≤b) (h3:1≤n) (h4:n≤40):f n=true:=by
 have hm:n ∈ [1,2,3,4,5,6,7,8,9,10,11,12,13,14,15,16,17,18,19,20,21,22,23,24,25,26,27,28,29,30,31,32,33,34,35,36,37,38,39,40]:=by
  simp only [List.mem_cons,List.not_mem_nil,or_false];omega
 have:=List.all_eq_true.1 h n hm
 simpa only [if_pos h1,if_pos h2] using this
def good (L:List Tok) (s:List UInt8):Bool:=okg L && (decide (glu L=s) && decide (s.length≤8192))
def okA (n:Nat):Bool:=good (tkA n) (dpA n) && decide (eDoc (tkA n)=if 16<n then 4 else 0)
def okC (n:Nat):Bool:=good (tkC n) (dpC n) && decide (eTy (tkC n)=if 4<n then 4 else 0)
def okB (n k:Nat):Bool:=good (tkB n k) (dpB n k) && decide (eVal (tkB n k)=if 16<n then 4 else 0)
def okD (n k:Nat):Bool:=good (tkD n k) (dpD n k) && decide (eDoc (tkD n k)=if 15<n then 4 else 0)
theorem good_r {L:List Tok} {s:List UInt8} (h:good L s=true):readT s=.ok L:=by
 simp only [good,Bool.and_eq_true,decide_eq_true_eq] at h
 exact readT_glu h.1 h.2.1 h.2.2
theorem okA_r {n:Nat} (h:okA n=true):(docR (dpA n)).2=if 16<n then 4 else 0:=by
 simp only [okA,Bool.and_eq_true,decide_eq_true_eq] at h
 rw [docR_e (good_r h.1),h.2]
theorem okC_r {n:Nat} (h:okC n=true):(tyR (dpC n)).2=if 4<n then 4 else 0:=by
 simp only [okC,Bool.and_eq_true,decide_eq_true_eq] at h
 rw [tyR_e (good_r h.1),h.2]
theorem okB_r {n k:Nat} (h:okB n k=true):(valR true (dpB n k)).2=if 16<n then 4 else 0:=by
 simp only [okB,Bool.and_eq_true,decide_eq_true_eq] at h
 rw [valR_e (good_r h.1),h.2]
theorem okD_r {n k:Nat} (h:okD n k=true):(docR (dpD n k)).2=if 15<n then 4 else 0:=by
 simp only [okD,Bool.and_eq_true,decide_eq_true_eq] at h
 rw [docR_e (good_r h.1),h.2]
theorem okA_all:upTo 1 40 okA=true:=by decide +kernel
theorem okC_all:upTo 1 40 okC=true:=by decide +kernel
theorem okB_1:upTo 1 9 (fun n=>okB n 0 && upTo 1 n (okB n))=true:=by decide +kernel
theorem okB_10:upTo 10 15 (fun n=>okB n 0 && upTo 1 n (okB n))=true:=by decide +kernel
theorem okB_16:upTo 16 20 (fun n=>okB n 0 && upTo 1 n (okB n))=true:=by decide +kernel
theorem okB_21:upTo 21 24 (fun n=>okB n 0 && upTo 1 n (okB n))=true:=by decide +kernel
theorem okB_25:upTo 25 28 (fun n=>okB n 0 && upTo 1 n (okB n))=true:=by decide +kernel
theorem okB_29:upTo 29 31 (fun n=>okB n 0 && upTo 1 n (okB n))=true:=by decide +kernel
theorem okB_32:upTo 32 34 (fun n=>okB n 0 && upTo 1 n (okB n))=true:=by decide +kernel
theorem okB_35:upTo 35 37 (fun n=>okB n 0 && upTo 1 n (okB n))=true:=by decide +kernel
theorem okB_38:upTo 38 40 (fun n=>okB n 0 && upTo 1 n (okB n))=true:=by decide +kernel
theorem okD_1:upTo 1 9 (fun n=>okD n 0 && upTo 1 n (okD n))=true:=by decide +kernel
theorem okD_10:upTo 10 15 (fun n=>okD n 0 && upTo 1 n (okD n))=true:=by decide +kernel
theorem okD_16:upTo 16 20 (fun n=>okD n 0 && upTo 1 n (okD n))=true:=by decide +kernel
theorem okD_21:upTo 21 24 (fun n=>okD n 0 && upTo 1 n (okD n))=true:=by decide +kernel
theorem okD_25:upTo 25 28 (fun n=>okD n 0 && upTo 1 n (okD n))=true:=by decide +kernel
theorem okD_29:upTo 29 31 (fun n=>okD n 0 && upTo 1 n (okD n))=true:=by decide +kernel
theorem okD_32:upTo 32 34 (fun n=>okD n 0 && upTo 1 n (okD n))=true:=by decide +kernel
theorem okD_35:upTo 35 37 (fun n=>okD n 0 && upTo 1 n (okD n))=true:=by decide +kernel
theorem okD_38:upTo 38 40 (fun n=>okD n 0 && upTo 1 n (okD n))=true:=by decide +kernel
end Go.Proofs.YticbbfbpeimkbaaGreatDoor
namespace Go.Proofs.YticbbfbpeimkbaaGreatDoor
open Go.Ab
theorem pdeep0 (m c:Nat) (hm1:1≤m) (hm2:m≤40) (hc:c≤m) (fA:(docR (dpA m)).2=if 16<m then 4 else 0) (fB:(valR true (dpB m c)).2=if 16<m then 4 else 0) (fC:(tyR (dpC m)).2=if 4<m then 4 else 0) (fD:(docR (dpD m c)).2=if 15<m then 4 else 0) :
  Pure Tryz.prog 10 [.int .i64 m,.int .i64 c] (.bool true):=by
 refine Pure.go ir10 ck10 (Nat.le_refl _) fun KP Q hQ=>?_
 have g1:¬ ((m:Int)<1):=by omega
 have g2:¬ ((40:Int)<m):=by omega
 have g3:¬ ((c:Int)<0):=by omega
 have g4:¬ ((m:Int)<c):=by omega
 have hw:IntKind.wrap .i64 ((m:Int)-c)=((m-c:Nat):Int):=by rw [wrap64 (by omega) (by omega)];omega
 have hw1:IntKind.wrap .i64 ((m:Int)-1)=(m:Int)-1:=wrap64 (by omega) (by omega)
 simp (disch:=first|omega|assumption) only [ir10,g1,g2,g3,g4,go_sem,↓reduceIte]
 refine goL_st (fun x:Nat × List UInt8 × List UInt8 × List UInt8=>[(5,.str x.2.1),(6,.str x.2.2.1),(7,.str x.2.2.2),(8,.int .i64 x.1)])
  (fun x H'=>x.1≤m∧x.2.1=rep x.1 [123,97]∧x.2.2.1=ph (m-c) [91] [123,120,58] x.1∧x.2.2.2=rep x.1 [91]++[73,110,116]++rep x.1 [93]∧x.2.1.length≤2*x.1∧x.2.2.1.length≤3*x.1∧x.2.2.2.length≤2*x.1+3)
  (fun x=>m-x.1) (0,[],[],[73,110,116]) (by simp (disch:=first|omega|assumption) only [go_sem,↓reduceIte]) ⟨Nat.zero_le _,rfl,by simp [ph,rep],by simp [rep],by simp,by simp,by simp⟩ ?_
 rintro ⟨i,s,t,u⟩ H1 J ⟨hi,es,et,eu,ls,lt,lu⟩ hJ
 simp only at hi es et eu ls lt lu
 by_cases hlt:i<m
 ·have hlt':((i:Int)<m)=True:=eq_true (by omega)
  by_cases hp:i<m-c
  ·have hp':((i:Int)<((m-c:Nat):Int))=True:=eq_true (by omega)
   simp (disch:=first|omega|assumption) only [hlt',hw,hp',List.length_append,List.length_cons,List.length_nil,wrap64,go_sem,↓reduceIte]
   exact goJ (hJ (i+1,s++[123,97],t++[91],[91]++u++[93]) H1 (by simp only;omega) ⟨by simp only;omega,by rw [rep_r,es],by rw [ph_lt hp,et],by rw [rep_l,rep_r,eu];simp,by simp only [List.length_append,List.length_cons,List.length_nil];omega,by simp only [List.length_append,List.length_cons,List.length_nil];omega,by simp only [List.length_append,List.length_cons,List.length_nil];omega⟩) (by simp (disch:=first|omega|assumption) only [Int.natCast_add,go_sem,↓reduceIte])
  ·have hp':¬ ((i:Int)<((m-c:Nat):Int)):=by omega
   simp (disch:=first|omega|assumption) only [hlt',hw,hp',List.length_append,List.length_cons,List.length_nil,wrap64,go_sem,↓reduceIte]
   exact goJ (hJ (i+1,s++[123,97],t++[123,120,58],[91]++u++[93]) H1 (by simp only;omega) ⟨by simp only;omega,by rw [rep_r,es],by rw [ph_ge hp,et],by rw [rep_l,rep_r,eu];simp,by simp only [List.length_append,List.length_cons,List.length_nil];omega,by simp only [List.length_append,List.length_cons,List.length_nil];omega,by simp only [List.length_append,List.length_cons,List.length_nil];omega⟩) (by simp (disch:=first|omega|assumption) only [Int.natCast_add,go_sem,↓reduceIte])
 obtain rfl:i=m:=by omega
 have hlt':¬ ((i:Int)<i):=by omega
 simp (disch:=first|omega|assumption) only [hlt',hw1,go_sem,↓reduceIte]
 refine goL_st (fun x:Nat × List UInt8 × List UInt8=>[(5,.str x.2.1),(6,.str x.2.2),(9,.int .i64 ((x.1:Int)-1))])
  (fun x H'=>x.1≤i∧x.2.1=s++rep (i-x.1) [125]∧x.2.2=t++[49]++ph c [125] [93] (i-x.1)∧x.2.1.length≤3*i-x.1∧x.2.2.length≤4*i-x.1+1)
  (fun x=>x.1) (i,s,t++[49]) (by simp (disch:=first|omega|assumption) only [go_sem,↓reduceIte]) ⟨Nat.le_refl _,by simp [rep],by simp [ph,rep],by simp only;omega,by simp only [List.length_append,List.length_cons,List.length_nil];omega⟩ ?_
 rintro ⟨j,s2,t2⟩ H2 J2 ⟨hj,es2,et2,ls2,lt2⟩ hJ2
 simp only at hj es2 et2 ls2 lt2
 cases j with
 | succ j =>
  have e0:((j+1:Nat):Int)-1=(j:Int):=by omega
  have hz:((0:Int)≤j)=True:=eq_true (by omega)
  have ed:i-j=i-(j+1)+1:=by omega
  by_cases hp:j<i-c
  ·have hp':((j:Int)<((i-c:Nat):Int))=True:=eq_true (by omega)
   have hq:¬ (i-(j+1)<c):=by omega
   simp (disch:=first|omega|assumption) only [e0,hz,hw,hp',List.length_append,List.length_cons,List.length_nil,wrap64,go_sem,↓reduceIte]
   exact goJ (hJ2 (j,s2++[125],t2++[93]) H2 (Nat.lt_succ_self j) ⟨by simp only;omega,by simp only;rw [es2,ed,rep_r];simp,by simp only;rw [et2,ed,ph_ge hq];simp,by simp only [List.length_append,List.length_cons,List.length_nil];omega,by simp only [List.length_append,List.length_cons,List.length_nil];omega⟩) (by simp (disch:=first|omega|assumption) only [go_sem,↓reduceIte])
  ·have hp':¬ ((j:Int)<((i-c:Nat):Int)):=by omega
   have hq:i-(j+1)<c:=by omega
   simp (disch:=first|omega|assumption) only [e0,hz,hw,hp',List.length_append,List.length_cons,List.length_nil,wrap64,go_sem,↓reduceIte]
   exact goJ (hJ2 (j,s2++[125],t2++[125]) H2 (Nat.lt_succ_self j) ⟨by simp only;omega,by simp only;rw [es2,ed,rep_r];simp,by simp only;rw [et2,ed,ph_lt hq];simp,by simp only [List.length_append,List.length_cons,List.length_nil];omega,by simp only [List.length_append,List.length_cons,List.length_nil];omega⟩) (by simp (disch:=first|omega|assumption) only [go_sem,↓reduceIte])
 | zero =>
  have hz:¬ ((0:Int)≤-1):=by omega
  have eA:s2=dpA i:=by rw [es2,es];rfl
  have eB:t2=dpB i c:=by rw [es2,et] at *;rw [et2];rfl
  have eC:u=dpC i:=by rw [eu];rfl
  have eD:[123,97,40,120,58]++t2++[41,125]=dpD i c:=by rw [eB];rfl
  have hA:=parseReadC s2 (by simp only [LimQ];omega)
  have hB:=parseValueC t2 true (by simp only [LimQ];omega)
  have hC:=parseTypeC u (by simp only [LimQ];omega)
  have hD:=parseReadC ([123,97,40,120,58]++t2++[41,125]) (by simp only [LimQ,List.length_append,List.length_cons,List.length_nil];omega)
  rw [← eA] at fA
  rw [← eB] at fB
  rw [← eC] at fC
  rw [← eD] at fD
  rw [fA] at hA
  rw [fB] at hB
  rw [fC] at hC
  rw [fD] at hD
  generalize (docR s2).1=dA at hA
  generalize (valR true t2).1=vB at hB
  generalize (tyR u).1=tC at hC
  generalize (docR ([123,97,40,120,58]++t2++[41,125])).1=dD at hD
  have xA:cDoc dA=[.sl .no 5 (cOs dA.ops),.sl .no 4 (cFs dA.frags)]:=rfl
  have xC:cTy tC=[.str tC.nm,.int .i64 tC.lists,.int .i64 tC.musts]:=rfl
  have xD:cDoc dD=[.sl .no 5 (cOs dD.ops),.sl .no 4 (cFs dD.frags)]:=rfl
  rw [xA] at hA
  rw [xC] at hC
  rw [xD] at hD
  have k1:i≤4∨(4<i∧i≤15)∨i=16∨16<i:=by omega
  rcases k1 with k|k|k|k
  ·have r1:((16:Int)<i)=False:=eq_false (by omega)
   have r2:((4:Int)<i)=False:=eq_false (by omega)
   have r3:((15:Int)<i)=False:=eq_false (by omega)
   rw [if_neg (show ¬ (16<i) by omega)] at hA hB
   rw [if_neg (show ¬ (4<i) by omega)] at hC
   rw [if_neg (show ¬ (15<i) by omega)] at hD
   simp (disch:=first|omega|assumption) only [cV_len,cV_take,cV_splice,cM_len,cM_take,cM_splice,cM_mk,hz,Int.reduceSub,r1,r2,r3,go_sem,↓reduceIte]
   refine goK_pure hA ?_
   simp (disch:=first|omega|assumption) only [cV_len,cV_take,cV_splice,cM_len,cM_take,cM_splice,cM_mk,go_sem,↓reduceIte]
   refine goA_intro fun b1 hb1=>?_
   simp (disch:=first|omega|assumption) only [cV_len,cV_take,cV_splice,cM_len,cM_take,cM_splice,cM_mk,go_sem,↓reduceIte]
   refine goK_pure hB ?_
   simp (disch:=first|omega|assumption) only [cV_len,cV_take,cV_splice,cM_len,cM_take,cM_splice,cM_mk,go_sem,↓reduceIte]
   refine goA_intro fun b2 hb2=>?_
   simp (disch:=first|omega|assumption) only [cV_len,cV_take,cV_splice,cM_len,cM_take,cM_splice,cM_mk,go_sem,↓reduceIte]
   refine goK_pure hC ?_
   simp (disch:=first|omega|assumption) only [cV_len,cV_take,cV_splice,cM_len,cM_take,cM_splice,cM_mk,go_sem,↓reduceIte]
   refine goA_intro fun b3 hb3=>?_
   simp (disch:=first|omega|assumption) only [cV_len,cV_take,cV_splice,cM_len,cM_take,cM_splice,cM_mk,List.length_append,List.length_cons,List.length_nil,go_sem,↓reduceIte]
   refine goK_pure hD ?_
   simp (disch:=first|omega|assumption) only [cV_len,cV_take,cV_splice,cM_len,cM_take,cM_splice,cM_mk,go_sem,↓reduceIte]
   refine goA_intro fun b4 hb4=>?_
   simp (disch:=first|omega|assumption) only [cV_len,cV_take,cV_splice,cM_len,cM_take,cM_splice,cM_mk,r3,go_sem,↓reduceIte]
   refine goK_pure awakeP6 ?_
   simp (disch:=first|omega|assumption) only [go_sem,↓reduceIte]
   exact hQ _ _ _ _ nofun rfl (by simp [tupOf,envOf,AV.strip,AV.strip1])
  ·have r1:((16:Int)<i)=False:=eq_false (by omega)
   have r2:((4:Int)<i)=True:=eq_true (by omega)
   have r3:((15:Int)<i)=False:=eq_false (by omega)
   rw [if_neg (show ¬ (16<i) by omega)] at hA hB
   rw [if_pos (show 4<i by omega)] at hC
   rw [if_neg (show ¬ (15<i) by omega)] at hD
   simp (disch:=first|omega|assumption) only [cV_len,cV_take,cV_splice,cM_len,cM_take,cM_splice,cM_mk,hz,Int.reduceSub,r1,r2,r3,go_sem,↓reduceIte]
   refine goK_pure hA ?_
   simp (disch:=first|omega|assumption) only [cV_len,cV_take,cV_splice,cM_len,cM_take,cM_splice,cM_mk,go_sem,↓reduceIte]
   refine goA_intro fun b1 hb1=>?_
   simp (disch:=first|omega|assumption) only [cV_len,cV_take,cV_splice,cM_len,cM_take,cM_splice,cM_mk,go_sem,↓reduceIte]
   refine goK_pure hB ?_
   simp (disch:=first|omega|assumption) only [cV_len,cV_take,cV_splice,cM_len,cM_take,cM_splice,cM_mk,go_sem,↓reduceIte]
   refine goA_intro fun b2 hb2=>?_
   simp (disch:=first|omega|assumption) only [cV_len,cV_take,cV_splice,cM_len,cM_take,cM_splice,cM_mk,go_sem,↓reduceIte]
   refine goK_pure hC ?_
   simp (disch:=first|omega|assumption) only [cV_len,cV_take,cV_splice,cM_len,cM_take,cM_splice,cM_mk,go_sem,↓reduceIte]
   refine goA_intro fun b3 hb3=>?_
   simp (disch:=first|omega|assumption) only [cV_len,cV_take,cV_splice,cM_len,cM_take,cM_splice,cM_mk,List.length_append,List.length_cons,List.length_nil,go_sem,↓reduceIte]
   refine goK_pure hD ?_
   simp (disch:=first|omega|assumption) only [cV_len,cV_take,cV_splice,cM_len,cM_take,cM_splice,cM_mk,go_sem,↓reduceIte]
   refine goA_intro fun b4 hb4=>?_
   simp (disch:=first|omega|assumption) only [cV_len,cV_take,cV_splice,cM_len,cM_take,cM_splice,cM_mk,r3,go_sem,↓reduceIte]
   refine goK_pure awakeP6 ?_
   simp (disch:=first|omega|assumption) only [go_sem,↓reduceIte]
   exact hQ _ _ _ _ nofun rfl (by simp [tupOf,envOf,AV.strip,AV.strip1])
  ·have r1:((16:Int)<i)=False:=eq_false (by omega)
   have r2:((4:Int)<i)=True:=eq_true (by omega)
   have r3:((15:Int)<i)=True:=eq_true (by omega)
   rw [if_neg (show ¬ (16<i) by omega)] at hA hB
   rw [if_pos (show 4<i by omega)] at hC
   rw [if_pos (show 15<i by omega)] at hD
   simp (disch:=first|omega|assumption) only [cV_len,cV_take,cV_splice,cM_len,cM_take,cM_splice,cM_mk,hz,Int.reduceSub,r1,r2,r3,go_sem,↓reduceIte]
   refine goK_pure hA ?_
   simp (disch:=first|omega|assumption) only [cV_len,cV_take,cV_splice,cM_len,cM_take,cM_splice,cM_mk,go_sem,↓reduceIte]
   refine goA_intro fun b1 hb1=>?_
   simp (disch:=first|omega|assumption) only [cV_len,cV_take,cV_splice,cM_len,cM_take,cM_splice,cM_mk,go_sem,↓reduceIte]
   refine goK_pure hB ?_
   simp (disch:=first|omega|assumption) only [cV_len,cV_take,cV_splice,cM_len,cM_take,cM_splice,cM_mk,go_sem,↓reduceIte]
   refine goA_intro fun b2 hb2=>?_
   simp (disch:=first|omega|assumption) only [cV_len,cV_take,cV_splice,cM_len,cM_take,cM_splice,cM_mk,go_sem,↓reduceIte]
   refine goK_pure hC ?_
   simp (disch:=first|omega|assumption) only [cV_len,cV_take,cV_splice,cM_len,cM_take,cM_splice,cM_mk,go_sem,↓reduceIte]
   refine goA_intro fun b3 hb3=>?_
   simp (disch:=first|omega|assumption) only [cV_len,cV_take,cV_splice,cM_len,cM_take,cM_splice,cM_mk,List.length_append,List.length_cons,List.length_nil,go_sem,↓reduceIte]
   refine goK_pure hD ?_
   simp (disch:=first|omega|assumption) only [cV_len,cV_take,cV_splice,cM_len,cM_take,cM_splice,cM_mk,go_sem,↓reduceIte]
   refine goA_intro fun b4 hb4=>?_
   simp (disch:=first|omega|assumption) only [cV_len,cV_take,cV_splice,cM_len,cM_take,cM_splice,cM_mk,r3,go_sem,↓reduceIte]
   refine goK_pure awakeP6 ?_
   simp (disch:=first|omega|assumption) only [go_sem,↓reduceIte]
   exact hQ _ _ _ _ nofun rfl (by simp [tupOf,envOf,AV.strip,AV.strip1])
  ·have r1:((16:Int)<i)=True:=eq_true (by omega)
   have r2:((4:Int)<i)=True:=eq_true (by omega)
   have r3:((15:Int)<i)=True:=eq_true (by omega)
   rw [if_pos (show 16<i by omega)] at hA hB
   rw [if_pos (show 4<i by omega)] at hC
   rw [if_pos (show 15<i by omega)] at hD
   simp (disch:=first|omega|assumption) only [cV_len,cV_take,cV_splice,cM_len,cM_take,cM_splice,cM_mk,hz,Int.reduceSub,r1,r2,r3,go_sem,↓reduceIte]
   refine goK_pure hA ?_
   simp (disch:=first|omega|assumption) only [cV_len,cV_take,cV_splice,cM_len,cM_take,cM_splice,cM_mk,go_sem,↓reduceIte]
   refine goA_intro fun b1 hb1=>?_
   simp (disch:=first|omega|assumption) only [cV_len,cV_take,cV_splice,cM_len,cM_take,cM_splice,cM_mk,go_sem,↓reduceIte]
   refine goK_pure hB ?_
   simp (disch:=first|omega|assumption) only [cV_len,cV_take,cV_splice,cM_len,cM_take,cM_splice,cM_mk,go_sem,↓reduceIte]
   refine goA_intro fun b2 hb2=>?_
   simp (disch:=first|omega|assumption) only [cV_len,cV_take,cV_splice,cM_len,cM_take,cM_splice,cM_mk,go_sem,↓reduceIte]
   refine goK_pure hC ?_
   simp (disch:=first|omega|assumption) only [cV_len,cV_take,cV_splice,cM_len,cM_take,cM_splice,cM_mk,go_sem,↓reduceIte]
   refine goA_intro fun b3 hb3=>?_
   simp (disch:=first|omega|assumption) only [cV_len,cV_take,cV_splice,cM_len,cM_take,cM_splice,cM_mk,List.length_append,List.length_cons,List.length_nil,go_sem,↓reduceIte]
   refine goK_pure hD ?_
   simp (disch:=first|omega|assumption) only [cV_len,cV_take,cV_splice,cM_len,cM_take,cM_splice,cM_mk,go_sem,↓reduceIte]
   refine goA_intro fun b4 hb4=>?_
   simp (disch:=first|omega|assumption) only [cV_len,cV_take,cV_splice,cM_len,cM_take,cM_splice,cM_mk,r3,go_sem,↓reduceIte]
   refine goK_pure awakeP6 ?_
   simp (disch:=first|omega|assumption) only [go_sem,↓reduceIte]
   exact hQ _ _ _ _ nofun rfl (by simp [tupOf,envOf,AV.strip,AV.strip1])
end Go.Proofs.YticbbfbpeimkbaaGreatDoor
namespace Go.Proofs.YticbbfbpeimkbaaGreatDoor
open Go.Ab
theorem okB_at (n:Nat) (h1:1≤n) (h2:n≤40):(okB n 0 && upTo 1 n (okB n))=true:=by
 by_cases g1:n≤9
 ·exact upTo_at okB_1 n (by omega) g1 h1 h2
 by_cases g10:n≤15
 ·exact upTo_at okB_10 n (by omega) g10 h1 h2
 by_cases g16:n≤20
 ·exact upTo_at okB_16 n (by omega) g16 h1 h2
 by_cases g21:n≤24
 ·exact upTo_at okB_21 n (by omega) g21 h1 h2
 by_cases g25:n≤28
 ·exact upTo_at okB_25 n (by omega) g25 h1 h2
 by_cases g29:n≤31
 ·exact upTo_at okB_29 n (by omega) g29 h1 h2
 by_cases g32:n≤34
 ·exact upTo_at okB_32 n (by omega) g32 h1 h2
 by_cases g35:n≤37
 ·exact upTo_at okB_35 n (by omega) g35 h1 h2
 exact upTo_at okB_38 n (by omega) h2 h1 h2
theorem okB_nk (n k:Nat) (h1:1≤n) (h2:n≤40) (h3:k≤n):okB n k=true:=by
 have h:=okB_at n h1 h2
 rw [Bool.and_eq_true] at h
 by_cases g:k=0
 ·rw [g];exact h.1
 ·exact upTo_at h.2 k (by omega) h3 (by omega) (by omega)
theorem okD_at (n:Nat) (h1:1≤n) (h2:n≤40):(okD n 0 && upTo 1 n (okD n))=true:=by
 by_cases g1:n≤9
 ·exact upTo_at okD_1 n (by omega) g1 h1 h2
 by_cases g10:n≤15
 ·exact upTo_at okD_10 n (by omega) g10 h1 h2
 by_cases g16:n≤20
 ·exact upTo_at okD_16 n (by omega) g16 h1 h2
 by_cases g21:n≤24
 ·exact upTo_at okD_21 n (by omega) g21 h1 h2
 by_cases g25:n≤28
 ·exact upTo_at okD_25 n (by omega) g25 h1 h2
 by_cases g29:n≤31
 ·exact upTo_at okD_29 n (by omega) g29 h1 h2
 by_cases g32:n≤34
 ·exact upTo_at okD_32 n (by omega) g32 h1 h2
 by_cases g35:n≤37
 ·exact upTo_at okD_35 n (by omega) g35 h1 h2
 exact upTo_at okD_38 n (by omega) h2 h1 h2
theorem okD_nk (n k:Nat) (h1:1≤n) (h2:n≤40) (h3:k≤n):okD n k=true:=by
 have h:=okD_at n h1 h2
 rw [Bool.and_eq_true] at h
 by_cases g:k=0
 ·rw [g];exact h.1
 ·exact upTo_at h.2 k (by omega) h3 (by omega) (by omega)
theorem pdeep (n k:Int):Pure Tryz.prog 10 [.int .i64 n,.int .i64 k] (.bool true):=by
 by_cases h:1≤n∧n≤40∧0≤k∧k≤n
 ·obtain ⟨h1,h2,h3,h4⟩:=h
  obtain ⟨m,rfl⟩:∃ m:Nat,n=m:=⟨n.toNat,by omega⟩
  obtain ⟨c,rfl⟩:∃ c:Nat,k=c:=⟨k.toNat,by omega⟩
  exact pdeep0 m c (by omega) (by omega) (by omega) (okA_r (upTo_at okA_all m (by omega) (by omega) (by omega) (by omega)))
   (okB_r (okB_nk m c (by omega) (by omega) (by omega))) (okC_r (upTo_at okC_all m (by omega) (by omega) (by omega) (by omega)))
   (okD_r (okD_nk m c (by omega) (by omega) (by omega)))
 ·refine Pure.go ir10 ck10 (Nat.le_refl _) fun KP Q hQ=>?_
  by_cases g1:n<1
  ·simp (disch:=first|omega|assumption) only [ir10,g1,go_sem,↓reduceIte]
   refine goK_pure awakeP6 ?_
   simp (disch:=first|omega|assumption) only [go_sem,↓reduceIte]
   exact hQ _ _ _ _ nofun rfl (by simp [tupOf,envOf,AV.strip,AV.strip1])
  by_cases g2:40<n
  ·simp (disch:=first|omega|assumption) only [ir10,g1,g2,go_sem,↓reduceIte]
   refine goK_pure awakeP6 ?_
   simp (disch:=first|omega|assumption) only [go_sem,↓reduceIte]
   exact hQ _ _ _ _ nofun rfl (by simp [tupOf,envOf,AV.strip,AV.strip1])
  by_cases g3:k<0
  ·simp (disch:=first|omega|assumption) only [ir10,g1,g2,g3,go_sem,↓reduceIte]
   refine goK_pure awakeP6 ?_
   simp (disch:=first|omega|assumption) only [go_sem,↓reduceIte]
   exact hQ _ _ _ _ nofun rfl (by simp [tupOf,envOf,AV.strip,AV.strip1])
  have g4:n<k:=by omega
  simp (disch:=first|omega|assumption) only [ir10,g1,g2,g3,g4,go_sem,↓reduceIte]
  refine goK_pure awakeP6 ?_
  simp (disch:=first|omega|assumption) only [go_sem,↓reduceIte]
  exact hQ _ _ _ _ nofun rfl (by simp [tupOf,envOf,AV.strip,AV.strip1])
end Go.Proofs.YticbbfbpeimkbaaGreatDoor
