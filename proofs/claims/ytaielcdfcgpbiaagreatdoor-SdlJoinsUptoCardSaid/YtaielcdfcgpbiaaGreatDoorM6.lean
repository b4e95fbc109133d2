import Derived.Test.YtaielcdfcgpbiaaGreatDoorRows
import Derived.Test.YtaielcdfcgpbiaaGreatDoorM1
import Derived.Test.YtaielcdfcgpbiaaGreatDoorM2
import Derived.Test.YtaielcdfcgpbiaaGreatDoorM3
import Derived.Test.YtaielcdfcgpbiaaGreatDoorM4
import Derived.Test.YtaielcdfcgpbiaaGreatDoorM5
set_option maxRecDepth 100000
set_option linter.all false
namespace Go.Proofs.YtaielcdfcgpbiaaGreatDoor
open Go.Ab Go.Lib
theorem zhm (c:UInt8):Pure Tryz.prog 121 [.int .u8 (c.toNat:Int)] (.bool (Zn c)):=by
 refine Pure.go ir121 ck121 (Al4 _) fun KP Q hQ=>?_
 by_cases h10:c=10
 ·subst h10
  have hc:((10:UInt8).toNat:Int)=10:=rfl
  simp(disch:=first|omega|assumption) only[ir121,hc,go_sem]
  exact hQ _ _ _ _ nofun rfl (by simp[tupOf,envOf,AV.strip,AV.strip1,Zn])
 have g10:¬ ((c.toNat:Int)=10):=fun e=>h10 (UInt8.toNat_inj.1 (by show c.toNat=10;omega))
 by_cases h13:c=13
 ·subst h13
  have hc:((13:UInt8).toNat:Int)=13:=rfl
  simp(disch:=first|omega|assumption) only[ir121,hc,go_sem]
  exact hQ _ _ _ _ nofun rfl (by simp[tupOf,envOf,AV.strip,AV.strip1,Zn])
 have g13:¬ ((c.toNat:Int)=13):=fun e=>h13 (UInt8.toNat_inj.1 (by show c.toNat=13;omega))
 simp(disch:=first|omega|assumption) only[ir121,g10,g13,go_sem]
 exact hQ _ _ _ _ nofun rfl (by simp[tupOf,envOf,AV.strip,AV.strip1,Zn,h10,h13])
theorem zbM (c:UInt8) (r:List UInt8):yl (c::r)=if zM.isPrefixOf (c::r) then (yv (r.length+1) [] (r.drop 2)).map fun x=>(⟨5,z7 x.1⟩,x.2)
  else if c=34 then (Zp Zn r).map fun x=>(⟨5,x.1⟩,x.2)
  else if Zy.isPrefixOf (c::r) then some (⟨1,Zy⟩,r.drop 2)
  else if 0≤Lib.indexByte Yw c then some (⟨1,[c]⟩,r)
  else if isL c then some (⟨2,(c::r).take (yc (c::r))⟩,(c::r).drop (yc (c::r)))
  else if (yb (c::r)).1=0 then none
  else if ((c::r).drop (yb (c::r)).1).head?.any fun d=>isL d||isD d||decide (d=46) then none
  else some (⟨(yb (c::r)).2,(c::r).take (yb (c::r)).1⟩,(c::r).drop (yb (c::r)).1):=rfl
def zcU (s:List UInt8):AV:=match yl s with
 | some (x,t)=>.tup [yG x,.int .i64 ((s.length-t.length:Nat):Int)]
 | none=>.tup [yG ⟨if s.head?=some 34 then 5 else 0,[]⟩,.int .i64 0]
theorem yJ {s t:List UInt8} {x:Tok} (h:yl s=some (x,t)):zcU s=.tup [yG x,.int .i64 ((s.length-t.length:Nat):Int)]:=by unfold zcU;rw[h]
theorem Zt {s:List UInt8} (h:yl s=none):zcU s=.tup [yG ⟨if s.head?=some 34 then 5 else 0,[]⟩,.int .i64 0]:=by unfold zcU;rw[h]
theorem zig (c:UInt8) (r:List UInt8) (hs:(c::r).length≤yX):Pure Tryz.prog 60 [.str (c::r)] (zcU (c::r)):=by
 have hcl:(c::r).length=r.length+1:=rfl
 have hg0:(c::r).getD 0 0=c:=rfl
 have ht1:(c::r).take 1=[c]:=rfl
 have ed:(c::r).drop 3=r.drop 2:=rfl
 have hhd:(c::r).head?=some c:=rfl
 have hquo:=fun h34:c=34=>(by rw[h34];exact zgU 121 (by decide +kernel) Zn zhm 34 r (by simpa[h34] using hs):Pure Tryz.prog 120 [.str (c::r),.clo 121 [] []] (zc6 Zn r))
 have ot:=zbM c r
 have hpl3:zM.isPrefixOf (c::r)=true→c=34:=fun p1=>by
  simp only[zM,List.isPrefixOf,Al0,beq_iff_eq] at p1
  exact p1.1.symm
 generalize hsc:c::r=s at *
 refine Pure.go ir60 ck60 (Al4 _) fun KP Q hQ=>?_
 have hsq:=hs
 simp only[yX] at hs
 have hsl:s.length≤Lim:=by simp only[Lim];omega
 have hl:((0:Int)<(s.length:Int))=True:=eq_true (by omega)
 have hl1:((1:Int)≤(s.length:Int))=True:=eq_true (by omega)
 simp(disch:=first|omega|assumption) only[ir60,go_sem]
 refine goA_intro fun b0 hb0=>?_
 simp(disch:=first|omega|assumption) only[hl,hg0,go_sem]
 refine goK_pure (Zm s [34,34,34]) ?_
 by_cases p1:zM.isPrefixOf s=true
 ·have p1':([34,34,34]:List UInt8).isPrefixOf s=true:=p1
  have hl3:=yq _ _ p1
  simp only[zM,Al2,Al3] at hl3
  have h34:c=34:=hpl3 p1
  simp(disch:=first|omega|assumption) only[p1',go_sem]
  refine goK_pure (zfU s hl3 hsq) ?_
  have ef:yv (s.length-2) [] (r.drop 2)=yv (r.length+1) [] (r.drop 2):=Yf _ _ _ _ (by rw[yQ];omega) (by rw[yQ];omega)
  rw[ed,ef]
  have e1:yl s=(yv (r.length+1) [] (r.drop 2)).map fun x=>(⟨5,z7 x.1⟩,x.2):=by
   rw[ot,if_pos p1]
  cases hx:yv (r.length+1) [] (r.drop 2) with
  | none =>
   rw[hx] at e1
   have e:=Zt e1
   rw[if_pos (by rw[hhd,h34])] at e
   simp(disch:=first|omega|assumption) only[zfP,go_sem]
   exact hQ _ _ _ [.agg [.int .i64 5,.str []],.int .i64 0] nofun (by simp(disch:=first|omega|assumption) only[ir60,resvs,resv,go_sem]) (by simp[tupOf,AV.strip,AV.strip1,e,yG])
  | some x =>
   obtain⟨raw,t⟩:=x
   rw[hx] at e1
   have e:=yJ e1
   simp(disch:=first|omega|assumption) only[zfP,go_sem]
   exact hQ _ _ _ [.agg [.int .i64 5,.str (z7 raw)],.int .i64 (((s.length-t.length:Nat)):Int)] nofun (by simp(disch:=first|omega|assumption) only[ir60,resvs,resv,go_sem]) (by simp[tupOf,AV.strip,AV.strip1,e,yG])
 have p1':([34,34,34]:List UInt8).isPrefixOf s=false:=Bool.eq_false_iff.2 p1
 by_cases c34:c=34
 ·have hc:(c.toNat:Int)=34:=by rw[c34];rfl
  simp(disch:=first|omega|assumption) only[p1',hc,go_sem]
  refine goK_pure (hquo c34) ?_
  have e1:yl s=(Zp Zn r).map fun x=>(⟨5,x.1⟩,x.2):=by
   rw[ot,if_neg p1,if_pos c34]
  cases hx:Zp Zn r with
  | none =>
   rw[hx] at e1
   have e:=Zt e1
   rw[if_pos (by rw[hhd,c34])] at e
   simp(disch:=first|omega|assumption) only[zc6,hx,go_sem]
   exact hQ _ _ _ [.agg [.int .i64 5,.str []],.int .i64 0] nofun (by simp(disch:=first|omega|assumption) only[ir60,resvs,resv,go_sem]) (by simp[tupOf,AV.strip,AV.strip1,e,yG])
  | some x =>
   obtain⟨b,t⟩:=x
   rw[hx] at e1
   have e:=yJ e1
   rw[hcl] at e
   simp(disch:=first|omega|assumption) only[zc6,hx,go_sem]
   exact hQ _ _ _ [.agg [.int .i64 5,.str b],.int .i64 (((r.length+1-t.length:Nat)):Int)] nofun (by simp(disch:=first|omega|assumption) only[ir60,resvs,resv,go_sem]) (by simp[tupOf,AV.strip,AV.strip1,e,yG])
 have g34:¬ ((c.toNat:Int)=34):=fun e=>c34 (UInt8.toNat_inj.1 (by show c.toNat=34;omega))
 have hno:¬ (s.head?=some 34):=by rw[hhd];simpa using c34
 simp(disch:=first|omega|assumption) only[p1',g34,go_sem]
 refine goK_pure (Zm s [46,46,46]) ?_
 by_cases p2:Zy.isPrefixOf s=true
 ·have p2':([46,46,46]:List UInt8).isPrefixOf s=true:=p2
  have hl3:=yq _ _ p2
  have hd3:Zy.length=3:=rfl
  rw[hd3] at hl3
  have e1:yl s=some (⟨1,Zy⟩,r.drop 2):=by
   rw[ot,if_neg p1,if_neg c34,if_pos p2]
  have e:=yJ e1
  have e2:s.length-(r.drop 2).length=3:=by rw[yQ];omega
  rw[e2] at e
  have e3:Zy=[46,46,46]:=rfl
  simp(disch:=first|omega|assumption) only[p2',go_sem]
  exact hQ _ _ _ [.agg [.int .i64 1,.str [46,46,46]],.int .i64 3] nofun (by simp(disch:=first|omega|assumption) only[ir60,resvs,resv,go_sem]) (by simp[tupOf,AV.strip,AV.strip1,e,yG,e3])
 have p2':([46,46,46]:List UInt8).isPrefixOf s=false:=Bool.eq_false_iff.2 p2
 simp(disch:=first|omega|assumption) only[p2',go_sem]
 refine goK_pure (zaJ Yw c) ?_
 by_cases hm:0≤Lib.indexByte Yw c
 ·have e1:yl s=some (⟨1,[c]⟩,r):=by
   rw[ot,if_neg p1,if_neg c34,if_neg p2,if_pos hm]
  have e:=yJ e1
  have e2:s.length-r.length=1:=by omega
  rw[e2] at e
  have e3:=ht1
  simp(disch:=first|omega|assumption) only[hm,hl1,e3,go_sem]
  exact hQ _ _ _ [.agg [.int .i64 1,.str [c]],.int .i64 1] nofun (by simp(disch:=first|omega|assumption) only[ir60,resvs,resv,go_sem]) (by simp[tupOf,AV.strip,AV.strip1,e,yG])
 simp(disch:=first|omega|assumption) only[hm,go_sem]
 refine goK_pure (zcv c) ?_
 by_cases hL:isL c=true
 ·have e1:yl s=some (⟨2,s.take (yc s)⟩,s.drop (yc s)):=by
   rw[ot,if_neg p1,if_neg c34,if_neg p2,if_neg hm,if_pos hL]
  have e:=yJ e1
  have hwl:=za9 s
  have e2:s.length-(s.drop (yc s)).length=yc s:=by rw[yQ];omega
  rw[e2] at e
  have h2:((yc s:Int)≤(s.length:Int))=True:=eq_true (by omega)
  simp(disch:=first|omega|assumption) only[hL,go_sem]
  refine goK_pure (zhq s hsl (by rw[hg0];exact hL)) ?_
  simp(disch:=first|omega|assumption) only[h2,go_sem]
  exact hQ _ _ _ [.agg [.int .i64 2,.str (s.take (yc s))],.int .i64 (yc s:Int)] nofun (by simp(disch:=first|omega|assumption) only[ir60,resvs,resv,go_sem]) (by simp[tupOf,AV.strip,AV.strip1,e,yG])
 have hL':isL c=false:=by simpa using hL
 simp(disch:=first|omega|assumption) only[hL',go_sem]
 refine goK_pure (zd5 s hsl) ?_
 have hnl:=zdd s
 have hn2:(yb s).1=0→(yb s).2=0:=fun h=>by
  unfold yb at h ⊢
  split at h
  ·rename_i h0;rw[if_pos h0]
  ·rename_i h0;simp only at h;omega
 have e0:yl s=if (yb s).1=0 then none
   else if (s.drop (yb s).1).head?.any fun d=>isL d||isD d||decide (d=46) then none
   else some (⟨(yb s).2,s.take (yb s).1⟩,s.drop (yb s).1):=by
  rw[ot,if_neg p1,if_neg c34,if_neg p2,if_neg hm,if_neg hL]
 generalize hnn:(yb s).1=n at *
 generalize hkk:(yb s).2=k at *
 have hnle:((n:Int)≤(s.length:Int))=True:=eq_true (by omega)
 have fin:(n≠0→yl s=some (⟨k,s.take n⟩,s.drop n))→zcU s=.tup [yG ⟨k,s.take n⟩,.int .i64 (n:Int)]:=fun h=>by
  by_cases hz:n=0
  ·rw[if_pos hz] at e0
   rw[Zt e0,if_neg hno,hz,hn2 hz];rfl
  ·rw[yJ (h hz)]
   have e2:s.length-(s.drop n).length=n:=by rw[yQ];omega
   rw[e2]
 have bad:(s.drop n).head?.any (fun d=>isL d||isD d||decide (d=46))=true→zcU s=.tup [yG ⟨0,[]⟩,.int .i64 0]:=fun h=>by
  have:yl s=none:=by
   rw[e0]
   split
   ·rfl
   ·first|rfl|exact if_pos h
  rw[Zt this,if_neg hno]
 rcases YB s n with ⟨h1,h2⟩|⟨h1,h2⟩
 ·have hlt:¬ ((n:Int)<(s.length:Int)):=by omega
  have e:=fin fun hz=>by rw[e0,if_neg hz,h1];rfl
  simp(disch:=first|omega|assumption) only[hlt,hnle,go_sem]
  exact hQ _ _ _ [.agg [.int .i64 k,.str (s.take n)],.int .i64 (n:Int)] nofun (by simp(disch:=first|omega|assumption) only[ir60,resvs,resv,go_sem]) (by simp[tupOf,AV.strip,AV.strip1,e,yG])
 ·have hlt:((n:Int)<(s.length:Int))=True:=eq_true (by omega)
  generalize hdd:s.getD n 0=d at *
  have ha:(s.drop n).head?.any (fun d=>isL d||isD d||decide (d=46))=(isL d||isD d||decide (d=46)):=by rw[h2];rfl
  rw[ha] at bad
  simp(disch:=first|omega|assumption) only[hlt,hdd,go_sem]
  refine goK_pure (zcv d) ?_
  cases hld:isL d with
  | true =>
   have e:=bad (by rw[hld];rfl)
   simp(disch:=first|omega|assumption) only[hld,go_sem]
   exact hQ _ _ _ [.agg [.int .i64 0,.str []],.int .i64 0] nofun (by simp(disch:=first|omega|assumption) only[ir60,resvs,resv,go_sem]) (by simp[tupOf,AV.strip,AV.strip1,e,yG])
  | false =>
   simp(disch:=first|omega|assumption) only[hld,hlt,hdd,go_sem]
   refine goK_pure (zdo d) ?_
   cases hdg:isD d with
   | true =>
    have e:=bad (by rw[hdg];simp)
    simp(disch:=first|omega|assumption) only[hdg,go_sem]
    exact hQ _ _ _ [.agg [.int .i64 0,.str []],.int .i64 0] nofun (by simp(disch:=first|omega|assumption) only[ir60,resvs,resv,go_sem]) (by simp[tupOf,AV.strip,AV.strip1,e,yG])
   | false =>
    by_cases h46:d=46
    ·have e:=bad (by rw[h46];simp)
     have g46:(d.toNat:Int)=46:=by rw[h46];rfl
     simp(disch:=first|omega|assumption) only[hdg,hlt,hdd,g46,go_sem]
     exact hQ _ _ _ [.agg [.int .i64 0,.str []],.int .i64 0] nofun (by simp(disch:=first|omega|assumption) only[ir60,resvs,resv,go_sem]) (by simp[tupOf,AV.strip,AV.strip1,e,yG])
    ·have g46:¬ ((d.toNat:Int)=46):=fun e=>h46 (UInt8.toNat_inj.1 (by show d.toNat=46;omega))
     have e:=fin fun hz=>by rw[e0,if_neg hz,ha,hld,hdg];simp[h46]
     simp(disch:=first|omega|assumption) only[hdg,hlt,hdd,g46,hnle,go_sem]
     exact hQ _ _ _ [.agg [.int .i64 k,.str (s.take n)],.int .i64 (n:Int)] nofun (by simp(disch:=first|omega|assumption) only[ir60,resvs,resv,go_sem]) (by simp[tupOf,AV.strip,AV.strip1,e,yG])
theorem zgO {l:List UInt8} (hne:l≠[]):(zl l).2≤l.length∧(zl l).1≤1114111:=by
 by_cases h:(zl l).2=0
 ·refine⟨by omega,?_⟩
  unfold zl at h ⊢
  split at h
  ·rename_i h0;rw[if_pos h0];decide
  ·split at h
   ·rename_i h0 h1;rw[if_neg h0,if_pos h1];decide
   ·rename_i h0 h1
    have:=zdQ h0 h1
    have:=this.pos
    omega
 ·obtain⟨e,h1⟩:=zbI hne h
  have hd:=zdQ hne h1
  rw[e]
  refine⟨?_,hd.le⟩
  have hl:=hd.len
  exact hl
theorem zgE (s:List UInt8) (hs:s.length≤Lim):Pure Tryz.prog 58 [.str s] (.bool (Yx s)):=by
 refine Pure.go ir58 ck58 (Al4 _) fun KP Q hQ=>?_
 have hs':=hs
 simp only[Lim] at hs
 simp(disch:=first|omega|assumption) only[ir58,go_sem]
 refine goL_st (fun i:Nat=>[(3,.int .i64 i)]) (fun i H=>Yx s=Yx (s.drop i)∧i≤s.length) (fun i=>s.length-i) 0 (by simp(disch:=first|omega|assumption) only[go_sem]) ⟨by simp,by omega⟩ ?_
 rintro i H J ⟨hn,hle⟩ hJ
 by_cases hlt:i<s.length
 case neg =>
  have hlt':¬ ((i:Int)<s.length):=by omega
  rw[List.drop_of_length_le (by omega)] at hn
  simp(disch:=first|omega|assumption) only[hlt',go_sem]
  exact hQ _ _ _ _ nofun rfl (by simp[tupOf,envOf,AV.strip,AV.strip1,hn,zcB])
 have hlt':((i:Int)<s.length)=True:=eq_true (by omega)
 have hne:s.drop i≠[]:=fun e=>by have:=congrArg List.length e;simp at this;omega
 obtain⟨hk,hcm⟩:=zgO hne
 rw[yQ] at hk
 simp(disch:=first|omega|assumption) only[hlt',go_sem]
 refine goK_pure (zh5 s i hlt hs') ?_
 rw[Yl hne,List.drop_drop] at hn
 generalize (zl (s.drop i)).1=c at *
 generalize (zl (s.drop i)).2=k at *
 by_cases hk0:0<k
 ·have hk0':((0:Int)<(k:Int))=True:=eq_true (by omega)
  simp(disch:=first|omega|assumption) only[hk0',go_sem]
  refine goK_pure (zhG c hcm) ?_
  cases hsg:Zl c with
  | true =>
   rw[hsg] at hn
   simp only[hk0,decide_true,Bool.true_and] at hn
   simp(disch:=first|omega|assumption) only[wrap64,go_sem]
   exact goJ (hJ (i+k) _ (by omega) ⟨hn,by omega⟩) (by simp(disch:=first|omega|assumption) only[Int.natCast_add,go_sem])
  | false =>
   rw[hsg] at hn
   simp only[Bool.false_and,Bool.and_false] at hn
   simp(disch:=first|omega|assumption) only[go_sem]
   exact hQ _ _ _ _ nofun rfl (by simp[tupOf,envOf,AV.strip,AV.strip1,hn])
 ·have hk0':¬ ((0:Int)<(k:Int)):=by omega
  simp only[hk0,decide_false,Bool.false_and] at hn
  simp(disch:=first|omega|assumption) only[hk0',go_sem]
  exact hQ _ _ _ _ nofun rfl (by simp[tupOf,envOf,AV.strip,AV.strip1,hn])
def readA:Except Int (List Tok)→AV
 | .ok l=>.tup [.sl .no 2 (cKs l),.int .i64 0]
 | .error e=>.tup [.sl .no 2 [],.int .i64 e]
def ZD (l:List Tok) (t:List UInt8):Except Int (List Tok):=yd (t.length+1) l t
theorem ze4 (l:List Tok):ZD l []=.ok l:=rfl
theorem zeY {l:List Tok} {t:List UInt8} (hne:t≠[]) (h:yL t≠0):ZD l t=ZD l (t.drop (yL t)):=by
 have h1:=zaw t
 have h2:0<t.length:=List.length_pos_iff.2 hne
 unfold ZD
 conv=>lhs;unfold yd
 rw[if_neg hne,if_pos h]
 exact y9 _ _ _ _ (by simp;omega) (Nat.lt_succ_self _)
theorem zdh {l:List Tok} {t:List UInt8} (hne:t≠[]) (h:yL t=0) (h1:yl t=none):ZD l t=.error 2:=by
 unfold ZD
 conv=>lhs;unfold yd
 rw[if_neg hne,if_neg (by omega),h1]
theorem zdN {l:List Tok} {t t':List UInt8} {x:Tok} (hne:t≠[]) (h:yL t=0) (h1:yl t=some (x,t')):ZD l t=ZD (l++[x]) t':=by
 have h2:=Y1 h1
 unfold ZD
 conv=>lhs;unfold yd
 rw[if_neg hne,if_neg (by omega),h1]
 exact y9 _ _ _ _ (by omega) (Nat.lt_succ_self _)
theorem zaS:∀(n:Nat) (raw t b t':List UInt8),yv n raw t=some (b,t')→t' <:+ t
 | 0,_,_,_,_,h=>by cases h
 | n+1,raw,[],_,_,h=>by cases h
 | n+1,raw,c::r,b,t',h=>by
  simp only[yv] at h
  split at h
  ·cases h;exact(List.drop_suffix _ _).trans (List.suffix_cons ..)
  split at h
  ·exact(zaS n _ _ _ _ h).trans ((List.drop_suffix _ _).trans (List.suffix_cons ..))
  ·exact(zaS n _ _ _ _ h).trans (List.suffix_cons ..)
theorem zcS {s t:List UInt8} {x:Tok} (h:yl s=some (x,t)):t <:+ s:=by
 cases s with
 | nil=>cases h
 | cons c r =>
  simp only[yl] at h
  split at h
  ·cases hr:yv (r.length+1) [] (r.drop 2) with
   | none=>rw[hr] at h;cases h
   | some y =>
    rw[hr] at h
    simp only[zQ,Al1,Al8] at h
    obtain⟨_,rfl⟩:=h
    exact(zaS _ _ _ _ _ (show yv _ _ _=some (y.1,y.2) from hr)).trans ((List.drop_suffix _ _).trans (List.suffix_cons ..))
  split at h
  ·cases hr:Zp Zn r with
   | none=>rw[hr] at h;cases h
   | some y =>
    rw[hr] at h
    simp only[zQ,Al1,Al8] at h
    obtain⟨_,rfl⟩:=h
    exact(zcP (t':=y.2) (b:=y.1) hr).1.trans (List.suffix_cons ..)
  split at h
  ·cases h;exact(List.drop_suffix _ _).trans (List.suffix_cons ..)
  split at h
  ·cases h;exact List.suffix_cons ..
  split at h
  ·cases h;exact List.drop_suffix _ _
  split at h
  ·cases h
  split at h
  ·cases h
  ·cases h;exact List.drop_suffix _ _
theorem zf8 {s t:List UInt8} {x:Tok} (h:yl s=some (x,t)):s.drop (s.length-t.length)=t:=by
 obtain⟨p,hp⟩:=zcS h
 rw[← hp];simp
theorem zio {u:List UInt8} (hne:u≠[]) (hs:u.length≤1000000):Pure Tryz.prog 59 [.str u] (.int .i64 (yL u)):=by
 cases u with
 | nil=>exact absurd rfl hne
 | cons c r=>exact zif c r hs
theorem zim {u:List UInt8} (hne:u≠[]) (hs:u.length≤yX):Pure Tryz.prog 60 [.str u] (zcU u):=by
 cases u with
 | nil=>exact absurd rfl hne
 | cons c r=>exact zig c r hs
theorem zfn (s:List UInt8) (hs:s.length≤yX):Pure Tryz.prog 24 [.str s] (readA (zZ s)):=by
 refine Pure.go ir24 ck24 (Al4 _) fun KP Q hQ=>?_
 have hsq:=hs
 simp only[yX] at hs
 by_cases h8:8192<s.length
 ·have g8:((8192:Int)<(s.length:Int))=True:=eq_true (by omega)
  simp(disch:=first|omega|assumption) only[ir24,g8,go_sem]
  exact hQ _ _ _ _ nofun rfl (by simp[tupOf,envOf,AV.strip,AV.strip1,zZ,h8,readA])
 have g8:¬ ((8192:Int)<(s.length:Int)):=by omega
 simp(disch:=first|omega|assumption) only[ir24,g8,go_sem]
 refine goK_pure (zgE s (by simp only[Lim];omega)) ?_
 cases hsb:Yx s with
 | false =>
  simp(disch:=first|omega|assumption) only[go_sem]
  exact hQ _ _ _ _ nofun rfl (by simp[tupOf,envOf,AV.strip,AV.strip1,zZ,h8,hsb,readA])
 | true =>
  have e0:zZ s=ZD [] s:=by unfold zZ ZD;rw[if_neg h8,if_pos hsb]
  rw[e0] at hQ
  simp(disch:=first|omega|assumption) only[go_sem]
  refine goL_st (fun x:Own×List Tok×Nat=>[(4,.sl x.1 2 (cKs x.2.1)),(5,.int .i64 x.2.2)]) (fun x H=>x.2.2≤s.length∧x.2.1.length≤x.2.2∧ZD [] s=ZD x.2.1 (s.drop x.2.2)∧OwnS Heap.emp .nil H x.1 x.2.1.length 2) (fun x=>s.length-x.2.2) (.nil,[],0) (by simp(disch:=first|omega|assumption) only[cKs,List.map_nil,go_sem]) ⟨Nat.zero_le _,Al4 _,rfl,OwnS.refl rfl⟩ ?_
  rintro⟨o,l,i⟩ H J ⟨hi,hll,hr,hso⟩ hJ
  simp only at hi hll hr hso
  have hcl:=zas l
  by_cases hlt:i<s.length
  case neg =>
   have hlt':¬ ((i:Int)<s.length):=by omega
   rw[List.drop_of_length_le (by omega),ze4] at hr
   simp(disch:=first|omega|assumption) only[hlt',go_sem]
   exact hQ _ _ _ _ nofun rfl (by simp[tupOf,envOf,AV.strip,AV.strip1,hr,readA,zeK])
  have hlt':((i:Int)<s.length)=True:=eq_true (by omega)
  have hle':((i:Int)≤s.length)=True:=eq_true (by omega)
  obtain⟨u,hd⟩:∃ u,s.drop i=u:=⟨_,rfl⟩
  have hdl:s.length=i+u.length:=by have:=congrArg List.length hd;rw[yQ] at this;omega
  have hne:u≠[]:=fun e=>by rw[e] at hdl;simp at hdl;omega
  rw[hd] at hr
  simp(disch:=first|omega|assumption) only[hlt',hle',hd,go_sem]
  refine goK_pure (zio hne (by omega)) ?_
  have hgl:=zaw u
  by_cases hg:yL u=0
  case neg =>
   have hg':((0:Int)<(yL u:Int))=True:=eq_true (by omega)
   simp(disch:=first|omega|assumption) only[hg',wrap64,go_sem]
   refine goJ (hJ (o,l,i+yL u) _ (by simp only;omega) ⟨by simp only;omega,by simp only;omega,?_,hso⟩) (by simp(disch:=first|omega|assumption) only[Int.natCast_add,go_sem])
   simp only
   rw[hr,zeY hne hg,← List.drop_drop,hd]
  have hg':¬ ((0:Int)<(yL u:Int)):=by omega
  simp(disch:=first|omega|assumption) only[hg',hle',hd,go_sem]
  refine goK_pure (zim hne (by simp only[yX];omega)) ?_
  cases ho:yl u with
  | none =>
   rw[zdh hne hg ho] at hr
   rw[Zt ho]
   simp(disch:=first|omega|assumption) only[yG,go_sem]
   refine goA_intro fun b1 hb1=>?_
   simp(disch:=first|omega|assumption) only[go_sem]
   exact hQ _ _ _ _ nofun rfl (by simp[tupOf,envOf,AV.strip,AV.strip1,hr,readA])
  | some x =>
   obtain⟨x,t⟩:=x
   have hlt2:=Y1 ho
   have hsf:=zf8 ho
   rw[zdN hne hg ho] at hr
   rw[yJ ho]
   have hz:¬ (((u.length-t.length:Nat):Int)=0):=by omega
   simp(disch:=first|omega|assumption) only[yG,go_sem]
   refine goA_intro fun b1 hb1=>?_
   simp(disch:=first|omega|assumption) only[hz,go_sem]
   refine goP_ownS (by rw[hcl];exact(hso.upd hb1).own) (by simp only[hcl,Al2,Al3];omega) (by simp only[hcl,Al2,Al3,maxLen];omega) fun o' H' hs2=>?_
   simp(disch:=first|omega|assumption) only[wrap64,go_sem]
   refine goJ (hJ (o',l++[x],i+(u.length-t.length)) H' (by simp only;omega) ⟨by simp only;omega,by simp;omega,?_,(hso.upd (x:=.cells [.int .i64 x.k,.str x.s]) hb1).trans (by simpa[hcl] using hs2)⟩) (by simp(disch:=first|omega|assumption) only[← zgK,Int.natCast_add,go_sem])
   simp only
   rw[hr,← List.drop_drop,hd,hsf]
end Go.Proofs.YtaielcdfcgpbiaaGreatDoor
namespace Go.Proofs.YtaielcdfcgpbiaaGreatDoor
open Go.Ab
def sp31 : ASp := ⟨27, 2, 5, (.reg [] [⟨some 4, none, .alloc [.int .i64 0], []⟩]), (.seq (.reg [] [⟨some 13, none, .mv (.t 6), []⟩, ⟨some 14, none, .bi .neq .i64 (.t 13) (.k (.int .i64 0)), []⟩])
 (.cond (.t 14) (.seq (.reg [] [⟨some 15, none, .mv (.t 6), []⟩, ⟨none, none, .st 1 (.t 4) (.t 15), []⟩])
 (.ret)) (.skip))), [⟨some 16, none, .mkfn 74 [] [(.t 4)], []⟩], 16, (.seq (.reg [] [⟨some 17, none, .mv (.t 5), []⟩, ⟨some 18, none, .bld [.sl .nil 2 [], .int .i64 0, .int .i64 0] [(0, 1, (.t 17))], []⟩, ⟨some 19, none, .box (.t 18), []⟩, ⟨some 7, none, .mv (.t 19), []⟩])
 (.seq (.reg [] [⟨some 20, none, .mv (.t 1), []⟩, ⟨some 21, none, .mv (.t 7), []⟩, ⟨some 22, none, .callv (.t 20) [(.t 21)], []⟩])
 (.seq (.seq (.reg [] [⟨some 23, none, .mv (.t 7), []⟩, ⟨some 24, none, .call 43 [(.t 23)], []⟩])
 (.cond (.t 24) (.reg [] [⟨some 25, none, .mv (.t 7), []⟩, ⟨some 26, none, .call 75 [(.t 25), (.k (.int .i64 2))], []⟩]) (.skip)))
 (.seq (.reg [] [⟨none, none, .st 1 (.t 4) (.k (.int .i64 0)), []⟩])
 (.ret))))), [.c 4 1 false], some (.reg [] [⟨some 9, none, .mv (.t 0), []⟩, ⟨some 10, none, .call 24 [(.t 9)], []⟩, ⟨some 8, none, .mv (.t 10), []⟩, ⟨some 11, none, .ext (.t 8) 0, []⟩, ⟨some 12, none, .ext (.t 8) 1, []⟩, ⟨some 5, none, .mv (.t 11), []⟩, ⟨some 6, none, .mv (.t 12), []⟩])⟩
theorem ckS31:chkSp Tryz.prog 31 sp31=true:=by kernel_rfl
def df74 : ADfn := ⟨16, 1, 4, [⟨some 1, none, .mv (.t 4), []⟩], (.seq (.reg [] [⟨some 6, none, .mv (.t 1), []⟩, ⟨some 7, none, .tas 120 (.agg [.int .i64 0]) (.t 6), []⟩, ⟨some 5, none, .mv (.t 7), []⟩, ⟨some 8, none, .ext (.t 5) 0, []⟩, ⟨some 9, none, .ext (.t 5) 1, []⟩, ⟨some 2, none, .alloc [.int .i64 0], []⟩, ⟨none, none, .st 1 (.t 2) (.t 8), []⟩, ⟨some 3, none, .mv (.t 9), []⟩])
 (.seq (.reg [] [⟨some 10, none, .mv (.t 3), []⟩])
 (.cond (.t 10) (.reg [] [⟨some 11, none, .fa 0 (.t 2), []⟩, ⟨some 12, none, .ld 1 false (.t 11), []⟩, ⟨none, none, .st 1 (.t 0) (.t 12), []⟩]) (.seq (.reg [] [⟨some 13, none, .mv (.t 1), []⟩, ⟨some 14, none, .ifnil true (.t 13), []⟩])
 (.cond (.t 14) (.reg [] [⟨some 15, none, .mv (.t 1), []⟩, ⟨none, none, .pan (.t 15), []⟩]) (.skip))))))⟩
theorem ckD74:chkDfn Tryz.prog 74 df74=true:=by kernel_rfl
theorem zad {P:Program} {KP:AV→Heap→Prop} {items:List AItem} {ρ:Env} {H:Heap} {K:Env→Heap→Prop} (h:∀ Q:AExit→Env→Heap→Prop,(∀ ρ' H',K ρ' H'→Q .normal ρ' H')→goI P KP Q items items [] ρ H):awpItems P KP (annot items) ρ H K :=
 h (fun e ρ H=>match e with|.normal=>K ρ H|_=>True) (fun _ _ h=>h)
theorem ZH {P:Program} {KP:AV→Heap→Prop} {c:AC} {ρ:Env} {H:Heap} {K:AExit→Env→Heap→Prop} (h:∀(KP':AV→Heap→Prop) (Q:AExit→Env→Heap→Prop),(∀ v H',KP v H'→KP' v H')→(∀ e ρ' H',K e ρ' H'→Q e ρ' H')→goC P KP' Q c [] ρ H):awp P KP c K ρ H :=
 h KP K (fun _ _ h=>h) (fun _ _ _ h=>h)
theorem zhu (H:Heap) (r:Nat) (n:Int):ACalls Tryz.prog 75 [.ptr r 0,.int .i64 n] H (fun e H'=>match e with|.ret v=>False|.pan v=>v=zP n∧H'=H):=by
 refine ACalls.goO (R:=fun _ _=>False) (RP:=fun v H'=>v=zP n∧H'=H) ir75 ck75 (Al4 _) fun KP Q hQ hP=>?_
 simp(disch:=first|omega|assumption) only[ir75,go_sem]
 exact hP _ _ H (Low.refl _) ⟨rfl,rfl⟩
theorem zh4 {H:Heap} {b4:Nat} {Q:Heap→Prop} (hq:∀ b x,H b=none→Q (H.upd b x)):ACallsD Tryz.prog 74 [.ptr b4 0] none H Q:=by
 refine ACallsD.of_fn df74 ckD74 (Al4 _) (zad fun Q1 hQ1=>?_)
 simp(disch:=first|omega|assumption) only[df74,Option.getD_none,go_sem]
 refine hQ1 _ _ (ZH fun KP' Q2 hKP hQ2=>?_)
 simp(disch:=first|omega|assumption) only[df74,go_sem]
 refine goA_intro fun b hb=>?_
 simp(disch:=first|omega|assumption) only[go_sem]
 exact hQ2 _ _ _ (hq _ _ hb)
theorem zgZ {H:Heap} {b4:Nat} {c4:List AV} {n:Int} {Q:Heap→Prop} (h4:H b4=some (.cells c4)) (l4:c4.length=1)
  (hq:∀ b x,H b=none→Q ((H.upd b x).upd b4 (.cells [.int .i64 n]))):ACallsD Tryz.prog 74 [.ptr b4 0] (some (zP n)) H Q:=by
 refine ACallsD.of_fn df74 ckD74 (Al4 _) (zad fun Q1 hQ1=>?_)
 simp(disch:=first|omega|assumption) only[df74,Option.getD_some,zP,go_sem]
 refine hQ1 _ _ (ZH fun KP' Q2 hKP hQ2=>?_)
 simp(disch:=first|omega|assumption) only[df74,go_sem]
 refine goA_intro fun b hb=>?_
 have n1:b4≠b:=fun e=>by subst e;rw[hb] at h4;cases h4
 simp(disch:=first|omega|assumption) only[h4,n1,l4,go_sem]
 have e4:splice c4 0 [.int .i64 n]=[.int .i64 n]:=by
  unfold splice;simp only[List.take_zero,YN,Al2,Al3];rw[List.drop_eq_nil_of_le (by rw[l4];decide),List.append_nil]
 rw[e4]
 exact hQ2 _ _ _ (hq _ _ hb)
theorem zae:∀(n:Nat) (l:List Tok) (s:List UInt8) (e:Int),s.length<n→yd n l s=.error e→e=2
 | 0,_,_,_,h,_=>absurd h (Nat.not_lt_zero _)
 | n+1,l,s,e,h,hr=>by
  simp only[yd] at hr
  split at hr
  ·cases hr
  split at hr
  ·rename_i hne hg
   have h1:=zaw s
   have h2:0<s.length:=List.length_pos_iff.2 hne
   exact zae n _ _ _ (by simp;omega) hr
  ·cases ho:yl s with
   | none=>rw[ho] at hr;cases hr;rfl
   | some x =>
    rw[ho] at hr
    have:=Y1 (show yl s=some (x.1,x.2) from ho)
    exact zae n _ _ _ (by omega) hr
theorem zab {s:List UInt8} {e:Int} (h:zZ s=.error e):e≠0:=by
 unfold zZ at h
 split at h
 ·cases h;decide
 split at h
 ·rw[zae _ _ _ _ (Nat.lt_succ_self _) h];decide
 ·cases h;decide
def zhj (Out:Int→Heap→Prop):AEnd→Heap→Prop:=fun e H'=>match e with|.ret v=>∃ n:Int,v=.int .i64 n∧Out n H'|.pan _=>False
theorem res_run {ρ:Env} {H:Heap} {b4:Nat} {e:Int} (r4:ρ 4=.ptr b4 0) (h4:H b4=some (.cells [.int .i64 e])):resvs ρ H sp31.res=some [.int .i64 e]:=by
 simp(disch:=first|omega|assumption) only[sp31,resvs,resv,r4,h4,go_sem]
theorem zh8 {s:List UInt8} {Hc:Heap} {clo:FuncId} {caps:List AV} (hl:s.length≤yX) (hcal:Program.callable Tryz.prog clo=true) (Out:Int→Heap→Prop)
  (h1:∀ n,zZ s=.error n→Out n Hc)
  (h2:∀ L,zZ s=.ok L→∀ r,Hc r=none→ACalls Tryz.prog clo (.ptr r 0::caps) (Hc.upd r (prc L [] 0)) (fun e H'=>match e with
   | .ret _=>∃ p t dp,p++t=L∧H' r=some (prc L p dp)∧Out (if t=[] then 0 else 2) H'
   | .pan v=>∃ n,v=zP n∧∀ H,Out n H)) :
  ACalls Tryz.prog 31 [.str s,.clo clo [] caps] Hc (zhj Out):=by
 refine ACalls.of_sp sp31 ckS31 (Al4 _) ?_
 unfold awpD
 refine ZH fun KP Q hKP hQ=>?_
 simp(disch:=first|omega|assumption) only[sp31,go_sem]
 refine goA_intro fun b4 hb4=>?_
 simp(disch:=first|omega|assumption) only[go_sem]
 refine hQ _ _ _ (ZH fun KP1 Q1 hKP1 hQ1=>?_)
 simp(disch:=first|omega|assumption) only[sp31,go_sem]
 refine goK_pure (Pure.low (zfn s hl)) ?_
 cases hR:zZ s with
 | error n =>
  have hn:¬ (n=0):=zab hR
  simp(disch:=first|omega|assumption) only[readA,go_sem]
  refine hQ1 _ _ _ (ZH fun KP2 Q2 hKP2 hQ2=>?_)
  simp(disch:=first|omega|assumption) only[sp31,hn,go_sem]
  refine hQ2 _ _ _ ?_
  show finQ sp31.res (zhj Out) .ret _ _
  simp only[finQ]
  rw[res_run (b4:=b4) (e:=n) rfl (upd_same ..)]
  exact⟨Hc,(Low.refl _).upd hb4,n,rfl,h1 n hR⟩
 | ok L =>
  simp(disch:=first|omega|assumption) only[readA,go_sem]
  refine hQ1 _ _ _ (ZH fun KP2 Q2 hKP2 hQ2=>?_)
  simp(disch:=first|omega|assumption) only[sp31,go_sem]
  refine hQ2 _ _ _ (zad fun Q3 hQ3=>?_)
  simp(disch:=first|omega|assumption) only[sp31,go_sem]
  refine hQ3 _ _ ⟨74,_,rfl,by decide +kernel,ZH fun KP4 Q4 hKP4 hQ4=>?_⟩
  have fin:∀(ρ1:Env) (H H2:Heap) (e:Int),ρ1 4=.ptr b4 0→H b4=some (.cells [.int .i64 e])→Low H2 H→Out e H2→finS sp31 (zhj Out) ρ1 H:=by
   intro ρ1 H H2 e r4 g4 hlow ho
   refine⟨_,res_run (b4:=b4) (e:=e) ?_ g4,H2,hlow,e,rfl,ho⟩
   rw[keep_get,if_pos (by decide)];exact r4
  have hpan:∀(n:Int) (H0 H':Heap) (c4:List AV),Low H0 H'→H0 b4=some (.cells c4)→c4.length=1→(∀ H,Out n H)→KP4 (zP n) H':=by
   intro n H0 H' c4 hlow g4 l4 ho
   exact hKP4 _ _ ⟨H0,hlow,zgZ g4 l4 fun b x hb=>fin _ _ Heap.emp n rfl (upd_same ..) (Low.of_sub (sub_emp _)) (ho _)⟩
  simp(disch:=first|omega|assumption) only[sp31,go_sem]
  refine goA_intro fun br hbr=>?_
  have hbr4:br≠b4:=fun e=>by subst e;rw[upd_same] at hbr;cases hbr
  have hbrH:Hc br=none:=by rw[upd_ne hbr4] at hbr;exact hbr
  simp(disch:=first|omega|assumption) only[hcal,go_sem]
  obtain⟨x4,hx4⟩:∃ x4:AObj,x4=.cells [.int .i64 0]:=⟨_,rfl⟩
  have hun:(Hc.upd b4 (.cells [.int .i64 0])).upd br (.cells [.sl .no 2 (cKs L),.int .i64 0,.int .i64 0])=Heap.union (Hc.upd br (prc L [] 0)) (Heap.one b4 x4):=by
   funext c
   by_cases e1:c=br
   ·subst e1;rw[upd_same];simp[Heap.union,Heap.upd,prc]
   ·rw[upd_ne e1]
    by_cases e2:c=b4
    ·subst e2;rw[upd_same];simp[Heap.union,Heap.upd,Heap.one,e1,hb4,hx4]
    ·rw[upd_ne e2];simp[Heap.union,Heap.upd,Heap.one,e1,e2]
  have hd:Heap.Disj (Hc.upd br (prc L [] 0)) (Heap.one b4 x4):=fun c=>by
   by_cases e:c=b4
   ·subst e;exact .inl (by rw[upd_ne (Ne.symm hbr4)];exact hb4)
   ·exact .inr (by simp[Heap.one,e])
  have hc:=ACalls.frame hd (h2 L hR br hbrH)
  rw[hun]
  refine goK_calls hc fun e H' ⟨A',hq,hd',hH'⟩=>?_
  subst hH'
  have hB4:Heap.one b4 x4 b4=some (.cells [.int .i64 0]):=by simp[Heap.one,hx4]
  have hA4:A' b4=none:=by
   rcases hd' b4 with h|h
   ·exact h
   ·rw[hB4] at h;cases h
  have g4:Heap.union A' (Heap.one b4 x4) b4=some (.cells [.int .i64 0]):=by simp[Heap.union,hA4,hB4]
  cases e with
  | pan v =>
   obtain⟨n,hv,ho⟩:=hq
   subst hv
   exact hpan n (Heap.one b4 x4) _ _ (Low.of_sub fun c x hc=>by
    rcases hd' c with h|h
    ·simp[Heap.union,h,hc]
    ·rw[hc] at h;cases h) hB4 rfl ho
  | ret v =>
   obtain⟨p,t,dp,hp,hr,ho⟩:=hq
   have gr:Heap.union A' (Heap.one b4 x4) br=some (prc L p dp):=by simp[Heap.union,hr]
   have lowA:∀ b x (Hx:Heap),(∀ c y,A' c=some y→Hx c=some y)→Hx b=none→Low A' ((Hx.upd b x).upd b4 (.cells [.int .i64 0]))∧Low A' ((Hx.upd b x).upd b4 (.cells [.int .i64 2])):=fun b x Hx hs hb=>by
    have sub:∀ z,∀ c y,A' c=some y→((Hx.upd b x).upd b4 z) c=some y:=fun z c y hcy=>by
     rw[upd_ne (fun e=>by rw[e,hA4] at hcy;cases hcy),upd_ne (fun e=>by rw[← e,hs _ _ hcy] at hb;cases hb)]
     exact hs _ _ hcy
    exact⟨Low.of_sub (sub _),Low.of_sub (sub _)⟩
   have subU:∀ c y,A' c=some y→Heap.union A' (Heap.one b4 x4) c=some y:=fun c y hc=>by simp[Heap.union,hc]
   show goR _ _ _ _ _ _ _ _ _
   simp(disch:=first|omega|assumption) only[go_sem]
   refine goK_ret (zgb hp gr) fun v5 H5 ⟨hv5,hH5⟩=>?_
   subst hv5;subst hH5
   cases t with
   | nil =>
    simp only[if_true] at ho
    simp(disch:=first|omega|assumption) only[g4,go_sem]
    refine hQ4 _ _ _ ⟨_,Low.refl _,zh4 fun b y hb=>?_⟩
    have n4:b4≠b:=fun e=>by subst e;rw[upd_same] at hb;cases hb
    refine fin _ _ A' 0 rfl (by rw[upd_ne n4,upd_same]) ?_ ho
    refine Low.of_sub fun c z hcz=>?_
    have hc4:c≠b4:=fun e=>by rw[e,hA4] at hcz;cases hcz
    have hcb:c≠b:=fun e=>by rw[← e,upd_ne hc4,subU _ _ hcz] at hb;cases hb
    rw[upd_ne hcb,upd_ne hc4];exact subU _ _ hcz
   | cons a u =>
    rw[if_neg (by simp)] at ho
    simp(disch:=first|omega|assumption) only[go_sem]
    exact goK_both (zhu _ br 2) (fun _ _ h=>h.elim) fun v H6 ⟨h6,h7⟩=>by
     subst h6;subst h7
     exact hKP4 _ _ ⟨_,Low.refl _,zgZ g4 rfl fun b y hb=>fin _ _ A' 2 rfl (upd_same ..) (lowA b y _ subU hb).2 ho⟩
theorem zfH (p:List UInt8→Bool):∀ l:List (List UInt8),wL (l.dropWhile p)≤wL l
 | []=>Al4 _
 | x::r=>by
  rw[List.dropWhile_cons]
  split
  ·have:=zfH p r;rw[yz];omega
  ·exact Al4 _
theorem zf9 (l:List (List UInt8)):wL l.reverse=wL l:=by
 induction l with
 | nil=>rfl
 | cons x r ih=>rw[List.reverse_cons,zdy,ih,yz,yz];simp[wL];omega
theorem zdG (raw:List UInt8):(z7 raw).length≤raw.length+1:=by
 have h1:=Yh raw []
 have h2:wL (Yr (zo raw))≤wL (zo raw):=by
  cases hx:zo raw with
  | nil=>exact Al4 _
  | cons x r =>
   simp only[Yr]
   rw[yz,yz]
   have:=zcr (indM (x::r)).toNat r
   omega
 unfold z7 YW
 have h3:=zaq ((((Yr (zo raw)).dropWhile zD).reverse.dropWhile zD).reverse)
 rw[zf9] at h3
 have h4:=zfH zD ((Yr (zo raw)).dropWhile zD).reverse
 rw[zf9] at h4
 have h5:=zfH zD (Yr (zo raw))
 have h6:wL (zo raw)≤raw.length+1:=by simpa[wL,zo] using h1
 omega
theorem zhn {s t:List UInt8} {x:Tok} (h:yl s=some (x,t)):x.s.length+t.length≤s.length+1:=by
 cases s with
 | nil=>cases h
 | cons c r =>
  rw[zbM] at h
  split at h
  ·cases hr:yv (r.length+1) [] (r.drop 2) with
   | none=>rw[hr] at h;cases h
   | some y =>
    rw[hr] at h
    simp only[zQ,Al1,Al8] at h
    obtain⟨rfl,rfl⟩:=h
    have h1:=(zay _ _ _ _ _ (show yv _ _ _=some (y.1,y.2) from hr)).1
    have h2:=zdG y.1
    simp at h1 ⊢
    omega
  split at h
  ·cases hr:Zp Zn r with
   | none=>rw[hr] at h;cases h
   | some y =>
    rw[hr] at h
    simp only[zQ,Al1,Al8] at h
    obtain⟨rfl,rfl⟩:=h
    have h1:=zg6 (show Zp Zn r=some (y.1,y.2) from hr)
    simp only[Al2]
    omega
  split at h
  ·rename_i hp
   have hl:=yq _ _ hp
   have hd3:Zy.length=3:=rfl
   rw[hd3] at hl
   cases h;simp[hd3] at hl ⊢;omega
  split at h
  ·cases h;simp;omega
  split at h
  ·cases h;simp;omega
  split at h
  ·cases h
  split at h
  ·cases h
  ·cases h;simp;omega
theorem zb6:∀(n:Nat) (l:List Tok) (s:List UInt8) (l':List Tok),yd n l s=.ok l'→wT l'≤wT l+6*s.length
 | 0,_,_,_,h=>by cases h
 | n+1,l,s,l',h=>by
  simp only[yd] at h
  split at h
  ·cases h;omega
  split at h
  ·have:=zb6 n _ _ _ h
   simp at this;omega
  ·cases ho:yl s with
   | none=>rw[ho] at h;cases h
   | some x =>
    rw[ho] at h
    have h1:=Y1 (show yl s=some (x.1,x.2) from ho)
    have h2:=zhn (show yl s=some (x.1,x.2) from ho)
    have h3:=zb6 n _ _ _ h
    have h4:wT (l++[x.1])=wT l+wK x.1:=by simp[wT]
    rw[h4,wK] at h3
    omega
theorem zcd {s:List UInt8} {L:List Tok} (h:zZ s=.ok L):wT L≤zq:=by
 obtain⟨h1,_,h3⟩:=zaO h
 have h4:=zb6 _ _ _ _ h3
 have e:wT ([]:List Tok)=0:=rfl
 rw[e] at h4
 simp only[zq];omega
theorem zhw {b4 b6:Nat} {x y:AObj} (h:b6≠b4):(Heap.emp.upd b4 x).upd b6 y=Heap.union (Heap.one b6 y) (Heap.one b4 x):=by
 funext c
 by_cases e1:c=b6
 ·subst e1;simp[Heap.union,Heap.upd,Heap.one]
 ·by_cases e2:c=b4
  ·subst e2;simp[Heap.union,Heap.upd,Heap.one,e1]
  ·simp[Heap.union,Heap.upd,Heap.one,e1,e2,Heap.emp]
theorem zgP {b4 b6:Nat} {x y:AObj} (h:b6≠b4):Heap.Disj (Heap.one b6 y) (Heap.one b4 x):=fun c=>by
 by_cases e:c=b4
 ·subst e;exact .inl (by simp[Heap.one,Ne.symm h])
 ·exact .inr (by simp[Heap.one,e])
theorem zhY {A:Heap} {b4:Nat} {x:AObj} (h:Heap.Disj A (Heap.one b4 x)):Heap.union A (Heap.one b4 x) b4=some x:=by
 have hB:Heap.one b4 x b4=some x:=by simp[Heap.one]
 rcases h b4 with h|h
 ·simp[Heap.union,h,hB]
 ·rw[hB] at h;cases h
theorem zin {A B:Heap} {b:Nat} {x:AObj} (h:A b=some x):Heap.union A B b=some x:=by simp[Heap.union,h]
def rq (r:Nat) (d:SR) (o:Own):List AV:=[.ptr r 0,.sl o 6 (cEs d.defs),.str d.q,.str d.m,.bool d.told]
structure EI (L:TS) (r q:Nat) (H:Heap) (t:TS) (d:SR) (o:Own):Prop where
 rd:ZF H r L t (16-16)
 box:H q=some (.cells (rq r d o))
 own:Owned H o d.defs.length 6
 ne:q≠r
section
variable {L t t':TS} {r q b:Nat} {H H':Heap} {d d':SR} {o o':Own}
theorem EI.call (h:EI L r q H t d o) (ha:Pat H r L t' (16-16) H'):EI L r q H' t' d o:=by
 obtain⟨p,_,hr⟩:=h.rd
 have hb:=ha.other h.ne
 obtain⟨p',hp',rfl⟩:=ha
 exact⟨⟨p',hp',upd_same ..⟩,by rw[hb];exact h.box,yr h.own hr,h.ne⟩
theorem EI.new (h:EI L r q H t d o) (hb:H b=none) (x:AObj):EI L r q (H.upd b x) t d o:=by
 obtain⟨p,hp,hr⟩:=h.rd
 exact⟨⟨p,hp,by rw[upd_ne (fun e=>by rw[e,hb] at hr;cases hr)];exact hr⟩,by rw[upd_ne (fun e=>by have:=h.box;rw[e,hb] at this;cases this)];exact h.box,h.own.upd hb,h.ne⟩
theorem EI.cell {cs:List AV} (h:EI L r q H t d o) (hb:H b=some (.cells cs)) (h1:r≠b) (h2:q≠b) (x:AObj):EI L r q (H.upd b x) t d o:=by
 obtain⟨p,hp,hr⟩:=h.rd
 exact⟨⟨p,hp,by rw[upd_ne h1];exact hr⟩,by rw[upd_ne h2];exact h.box,yr h.own hb,h.ne⟩
theorem EI.set (h:EI L r q H t d o) (he:d'.defs=d.defs):EI L r q (H.upd q (.cells (rq r d' o))) t d' o:=by
 obtain⟨p,hp,hr⟩:=h.rd
 exact⟨⟨p,hp,by rw[upd_ne (Ne.symm h.ne)];exact hr⟩,upd_same ..,by rw[he];exact yr h.own h.box,h.ne⟩
theorem EI.put {n:Nat} {xs:List (List AV)} (h:EI L r q H t d o) (x:DefD) (hs:OwnS H o H' o' n 6) (hn:n=(d.defs++[x]).length) (hx:xs=cEs (d.defs++[x])) :
  EI L r q (H'.upd q (.cells [.ptr r 0,.sl o' 6 xs,.str d.q,.str d.m,.bool d.told])) t (yj d x) o':=by
 obtain⟨p,hp,hr⟩:=h.rd
 have hb:=zA h.own h.box hs.kept
 have hr2:=zA h.own hr hs.kept
 subst hn;subst hx
 exact⟨⟨p,hp,by rw[upd_ne (Ne.symm h.ne)];exact hr2⟩,upd_same ..,yr hs.own hb,h.ne⟩
theorem EI.del {cs:List AV} (h:EI L r q H t d o) (hb:H b=some (.cells cs)) (h1:r≠b) (h2:q≠b):EI L r q (H.del b) t d o:=by
 obtain⟨p,hp,hr⟩:=h.rd
 have ho:=h.own
 refine⟨⟨p,hp,by simp[Heap.del,h1,hr]⟩,by simp[Heap.del,h2,h.box],?_,h.ne⟩
 cases o with
 | tip c y =>
  have h5:H c=some _:=ho
  have:c≠b:=fun e=>by rw[e,hb] at h5;cases h5
  show (H.del b) c=_
  simp[Heap.del,this,h5]
 | no=>exact ho
 | nil=>exact ho
 | full=>exact ho
theorem EI.un {B:Heap} (h:EI L r q H t d o):EI L r q (Heap.union H B) t d o:=by
 obtain⟨p,hp,hr⟩:=h.rd
 have ho:=h.own
 refine⟨⟨p,hp,by simp[Heap.union,hr]⟩,by simp[Heap.union,h.box],?_,h.ne⟩
 cases o with
 | tip c y =>
  have h5:H c=some _:=ho
  show (Heap.union H B) c=_
  simp[Heap.union,h5]
 | no=>exact ho
 | nil=>exact ho
 | full=>exact ho
end
def EQ (L:TS) (r q:Nat) (x:PR SR) (v:AV) (H':Heap):Prop:=v=.tup []∧∃ d' t' o',x=.ok (d',t')∧EI L r q H' t' d' o'
def EX (x:PR SR) (v:AV) (_:Heap):Prop:=∃ n,v=zP n∧x=.error n
abbrev EE (L:TS) (r q:Nat) (x:PR SR):AEnd→Heap→Prop:=fun e H'=>match e with|.ret v=>EQ L r q x v H'|.pan v=>EX x v H'
theorem zhl {L t:TS} {r q:Nat} {H:Heap} {d:SR} {o:Own} (h:EI L r q H t d o) (hl:wT L≤zq) (ht:d.told=false) (hi:SI d) :
  ACalls Tryz.prog 101 [.ptr q 0] H (EE L r q (ZQ d t)):=by
 refine ACalls.goO (R:=EQ L r q (ZQ d t)) (RP:=EX (ZQ d t)) ir101 ck101 (Al4 _) fun KP Q hQ hP=>?_
 have pan:∀(v:AV) (H1:Heap) (n:Int),v=zP n→ZQ d t=.error n→KP v H1:=fun v H1 n h1 h2=>hP v H1 H1 (Low.refl _) ⟨n,h1,h2⟩
 have hx:=Eq.refl (ZQ d t)
 conv at hx=>rhs;unfold ZQ
 obtain⟨hq0,hm0⟩:=hi ht
 have b0:=h.box
 simp only[rq] at b0
 have E0:EI L r q (H.upd q (.cells (rq r ⟨d.defs,d.q,d.m,true⟩ o))) t ⟨d.defs,d.q,d.m,true⟩ o:=h.set rfl
 have nqr:=h.ne
 simp only[rq] at E0
 simp(disch:=first|omega|assumption) only[ir101,b0,go_sem]
 refine goK_both (Zu E0.rd hl [123]) (fun v H1 ⟨_,t1,e1,hv1,a1⟩=>?_) fun v H1 ⟨n,e1,hv1⟩=>pan v H1 n hv1 (by rw[hx,e1];rfl)
 subst hv1
 rw[e1,zd] at hx
 have E1:=E0.call a1
 have b1:=E1.box
 simp only[rq] at b1
 simp(disch:=first|omega|assumption) only[b1,go_sem]
 refine goK_ret (y5 E1.rd hl [113,117,101,114,121]) fun v H2 ⟨hv2,a2⟩=>?_
 subst hv2
 have E2:=E1.call a2
 unfold zy at E2
 have b2:=E2.box
 simp only[rq] at b2
 cases hw:isW [113,117,101,114,121] t1 with
 | false =>
  rw[hw] at hx
  simp(disch:=first|omega|assumption) only[b2,go_sem]
  exact goK_both (Z3 _ r 2) (fun _ _ h=>h.elim) fun v H3 h=>pan v H3 2 h hx
 | true =>
  rw[hw] at hx E2
  simp only[if_true,zd] at hx E2
  simp(disch:=first|omega|assumption) only[b2,go_sem]
  refine goK_both (Zu E2.rd hl [58]) (fun v H3 ⟨_,t3,e3,hv3,a3⟩=>?_) fun v H3 ⟨n,e3,hv3⟩=>pan v H3 n hv3 (by rw[hx,e3];rfl)
  subst hv3
  rw[e3,zd] at hx
  have E3:=E2.call a3
  have b3:=E3.box
  simp only[rq] at b3
  simp(disch:=first|omega|assumption) only[b3,go_sem]
  refine goK_both (ZT E3.rd hl) (fun v H4 ⟨qn,t4,e4,hv4,a4⟩=>?_) fun v H4 ⟨n,e4,hv4⟩=>pan v H4 n hv4 (by rw[hx,e4];rfl)
  subst hv4
  rw[e4,zd] at hx
  have E4':=E3.call a4
  have b4:=E4'.box
  have E4:EI L r q (H4.upd q (.cells (rq r ⟨d.defs,qn,d.m,true⟩ o))) t4 ⟨d.defs,qn,d.m,true⟩ o:=E4'.set rfl
  simp only[rq] at b4 E4
  simp(disch:=first|omega|assumption) only[b4,go_sem]
  refine goK_ret (y5 E4.rd hl [109,117,116,97,116,105,111,110]) fun v H5 ⟨hv5,a5⟩=>?_
  subst hv5
  have E5:=E4.call a5
  unfold zy at E5
  have b5:=E5.box
  simp only[rq] at b5
  cases hmw:isW [109,117,116,97,116,105,111,110] t4 with
  | false =>
   rw[hmw] at hx E5
   simp only[Al7,if_false,zd] at hx E5
   simp(disch:=first|omega|assumption) only[b5,go_sem]
   refine goK_both (Zu E5.rd hl [125]) (fun v H6 ⟨_,t6,e6,hv6,a6⟩=>?_) fun v H6 ⟨n,e6,hv6⟩=>pan v H6 n hv6 (by rw[hx,e6];rfl)
   subst hv6
   rw[e6,zd] at hx
   have E6:=E5.call a6
   rw[hm0] at E6
   simp(disch:=first|omega|assumption) only[go_sem]
   exact hQ _ _ _ _ [] nofun rfl (Low.refl _) ⟨rfl,_,_,o,hx,E6⟩
  | true =>
   rw[hmw] at hx E5
   simp only[if_true] at hx E5
   simp(disch:=first|omega|assumption) only[b5,go_sem]
   refine goK_both (Zu E5.rd hl [58]) (fun v H6 ⟨_,t6,e6,hv6,a6⟩=>?_) fun v H6 ⟨n,e6,hv6⟩=>pan v H6 n hv6 (by rw[hx,e6];rfl)
   subst hv6
   rw[e6,zd] at hx
   have E6:=E5.call a6
   have b6:=E6.box
   simp only[rq] at b6
   simp(disch:=first|omega|assumption) only[b6,go_sem]
   refine goK_both (ZT E6.rd hl) (fun v H7 ⟨mn,t7,e7,hv7,a7⟩=>?_) fun v H7 ⟨n,e7,hv7⟩=>pan v H7 n hv7 (by rw[hx,e7];rfl)
   subst hv7
   rw[e7,zd] at hx
   have E7':=E6.call a7
   have b7:=E7'.box
   have E7:EI L r q (H7.upd q (.cells (rq r ⟨d.defs,qn,mn,true⟩ o))) t7 ⟨d.defs,qn,mn,true⟩ o:=E7'.set rfl
   simp only[rq] at b7 E7
   simp(disch:=first|omega|assumption) only[b7,go_sem]
   refine goK_both (Zu E7.rd hl [125]) (fun v H8 ⟨_,t8,e8,hv8,a8⟩=>?_) fun v H8 ⟨n,e8,hv8⟩=>pan v H8 n hv8 (by rw[hx,e8];rfl)
   subst hv8
   rw[e8,zd] at hx
   have E8:=E7.call a8
   simp(disch:=first|omega|assumption) only[go_sem]
   exact hQ _ _ _ _ [] nofun rfl (Low.refl _) ⟨rfl,_,_,o,hx,E8⟩
theorem ye (a b c d e f:AV) (x:DefD):splice [a,b,c,d,e,f] 0 (cE x)=cE x:=rfl
theorem zaj {L t:TS} {r q:Nat} {H:Heap} {d:SR} {o:Own} (h:EI L r q H t d o) (hl:wT L≤zq) (hi:SI d) (hlen:d.defs.length≤L.length) :
  ACalls Tryz.prog 42 [.ptr q 0] H (EE L r q (zn d t)):=by
 refine ACalls.goO (R:=EQ L r q (zn d t)) (RP:=EX (zn d t)) ir42 ck42 (Al4 _) fun KP Q hQ hP=>?_
 have pan:∀(v:AV) (H1:Heap) (n:Int),v=zP n→zn d t=.error n→KP v H1:=fun v H1 n h1 h2=>hP v H1 H1 (Low.refl _) ⟨n,h1,h2⟩
 have hll:=Z2 hl
 simp only[zq] at hll
 have hcl:=YK d.defs
 have b0:=h.box
 simp only[rq] at b0
 simp(disch:=first|omega|assumption) only[ir42,b0,go_sem]
 refine goK_ret (Yi h.rd hl) fun v H1 ⟨hv1,a1⟩=>?_
 subst hv1
 have E1:=h.call a1
 simp(disch:=first|omega|assumption) only[go_sem]
 refine goA_intro fun b2 hb2=>?_
 have n2:r≠b2:=fun e=>by obtain⟨p,_,hr⟩:=E1.rd;rw[e,hb2] at hr;cases hr
 have n2s:=Ne.symm n2
 have nq2:q≠b2:=fun e=>by have:=E1.box;rw[e,hb2] at this;cases this
 have E2:=E1.new hb2 (.cells zE)
 have g2:(H1.upd b2 (.cells zE)) b2=some (.cells zE):=upd_same ..
 have b2':=E2.box
 simp only[rq] at b2'
 by_cases hr:d.told=false∧isW [115,99,104,101,109,97] (zg t)=true
 ·obtain⟨ht,hw⟩:=hr
  have hx:zn d t=ZQ d (zg t).tail:=by unfold zn yD;rw[if_pos ⟨ht,hw⟩]
  rw[ht] at b2'
  simp(disch:=first|omega|assumption) only[b2',go_sem]
  refine goK_ret (y5 E2.rd hl [115,99,104,101,109,97]) fun v H3 ⟨hv3,a3⟩=>?_
  subst hv3
  have E3:=E2.call a3
  unfold zy at E3
  rw[hw,if_pos rfl] at E3
  rw[hw]
  simp(disch:=first|omega|assumption) only[go_sem]
  refine goK_both (zhl E3 hl ht hi) (fun v H4 ⟨hv4,d',t',o',e4,E4⟩=>?_) fun v H4 ⟨n,hv4,e4⟩=>pan v H4 n hv4 (by rw[hx,e4])
  subst hv4
  simp(disch:=first|omega|assumption) only[go_sem]
  exact hQ _ _ _ _ [] nofun rfl (Low.refl _) ⟨rfl,d',t',o',by rw[hx,e4],E4⟩
 have h0:¬ (d.told=false∧isW [115,99,104,101,109,97] (zg t)=true):=hr
 have hc:d.told=true∨(d.told=false∧isW [115,99,104,101,109,97] (zg t)=false):=by
  cases h1:d.told with
  | true=>exact .inl rfl
  | false=>exact .inr ⟨rfl,by cases h2:isW [115,99,104,101,109,97] (zg t) with|true=>exact absurd ⟨h1,h2⟩ h0|false=>rfl⟩
 rcases hc with ht|⟨ht,hw⟩
 ·rw[ht] at b2'
  simp(disch:=first|omega|assumption) only[b2',go_sem]
  have bC0:=E2.box
  simp only[rq] at bC0
  try simp(disch:=first|omega|assumption) only[bC0,go_sem]
  refine goK_ret (y5 E2.rd hl [116,121,112,101]) fun v HA0 ⟨hvA,aA⟩=>?_
  subst hvA
  have EA0:=E2.call aA
  have gA0:=(aA.other n2s).trans g2
  unfold zy at EA0
  cases hw0:isW [116,121,112,101] (zg t) with
  | true =>
   rw[hw0,if_pos rfl] at EA0
   have hx:zn d t=pb (Ym 1 (zg t).tail) fun x t=>.ok (yj d x,t):=by unfold zn yD;rw[if_neg h0,if_pos hw0]
   have bA:=EA0.box
   have qA:=EA0.box
   simp only[rq] at bA qA
   simp(disch:=first|omega|assumption) only[bA,go_sem]
   refine goK_both (zau 1 qA EA0.ne EA0.rd hl) (fun v HB ⟨x,tB,eB,hvB,aB⟩=>?_) fun v HB ⟨n,eB,hvB⟩=>pan v HB n hvB (by rw[hx,eB];rfl)
   subst hvB
   rw[eB,zd] at hx
   have EB:=EA0.call aB
   have gB:=(aB.other n2s).trans gA0
   have bB:=EB.box
   simp only[rq] at bB
   simp(disch:=first|omega|assumption) only[gB,bB,nq2,Ne.symm nq2,yR,yt,ye,go_sem]
   have EC:=EB.cell gB n2 nq2 (.cells (cE x))
   refine goP_ownS (by rw[hcl];exact EC.own) (by simp only[hcl,Al2,Al3];omega) (by simp only[hcl,Al2,Al3,maxLen];omega) fun oD HD hsD=>?_
   have bD:=zA EC.own EC.box hsD.kept
   simp only[rq] at bD
   simp(disch:=first|omega|assumption) only[bD,go_sem]
   exact hQ _ _ _ _ [] nofun rfl (Low.refl _) ⟨rfl,_,_,oD,hx,EC.put x (by simpa[hcl] using hsD) (by simp) (by simp[cEs,yo])⟩
  | false =>
   rw[hw0] at EA0
   simp only[Al7,if_false] at EA0
   have bC1:=EA0.box
   simp only[rq] at bC1
   simp(disch:=first|omega|assumption) only[bC1,go_sem]
   refine goK_ret (y5 EA0.rd hl [105,110,116,101,114,102,97,99,101]) fun v HA1 ⟨hvA,aA⟩=>?_
   subst hvA
   have EA1:=EA0.call aA
   have gA1:=(aA.other n2s).trans gA0
   unfold zy at EA1
   cases hw1:isW [105,110,116,101,114,102,97,99,101] (zg t) with
   | true =>
    rw[hw1,if_pos rfl] at EA1
    have hx:zn d t=pb (Ym 2 (zg t).tail) fun x t=>.ok (yj d x,t):=by unfold zn yD;rw[if_neg h0,if_neg (by rw[hw0];decide),if_pos hw1]
    have bA:=EA1.box
    have qA:=EA1.box
    simp only[rq] at bA qA
    simp(disch:=first|omega|assumption) only[bA,go_sem]
    refine goK_both (zau 2 qA EA1.ne EA1.rd hl) (fun v HB ⟨x,tB,eB,hvB,aB⟩=>?_) fun v HB ⟨n,eB,hvB⟩=>pan v HB n hvB (by rw[hx,eB];rfl)
    subst hvB
    rw[eB,zd] at hx
    have EB:=EA1.call aB
    have gB:=(aB.other n2s).trans gA1
    have bB:=EB.box
    simp only[rq] at bB
    simp(disch:=first|omega|assumption) only[gB,bB,nq2,Ne.symm nq2,yR,yt,ye,go_sem]
    have EC:=EB.cell gB n2 nq2 (.cells (cE x))
    refine goP_ownS (by rw[hcl];exact EC.own) (by simp only[hcl,Al2,Al3];omega) (by simp only[hcl,Al2,Al3,maxLen];omega) fun oD HD hsD=>?_
    have bD:=zA EC.own EC.box hsD.kept
    simp only[rq] at bD
    simp(disch:=first|omega|assumption) only[bD,go_sem]
    exact hQ _ _ _ _ [] nofun rfl (Low.refl _) ⟨rfl,_,_,oD,hx,EC.put x (by simpa[hcl] using hsD) (by simp) (by simp[cEs,yo])⟩
   | false =>
    rw[hw1] at EA1
    simp only[Al7,if_false] at EA1
    have bC2:=EA1.box
    simp only[rq] at bC2
    simp(disch:=first|omega|assumption) only[bC2,go_sem]
    refine goK_ret (y5 EA1.rd hl [117,110,105,111,110]) fun v HA2 ⟨hvA,aA⟩=>?_
    subst hvA
    have EA2:=EA1.call aA
    have gA2:=(aA.other n2s).trans gA1
    unfold zy at EA2
    cases hw2:isW [117,110,105,111,110] (zg t) with
    | true =>
     rw[hw2,if_pos rfl] at EA2
     have hx:zn d t=pb (yK (zg t).tail) fun x t=>.ok (yj d x,t):=by unfold zn yD;rw[if_neg h0,if_neg (by rw[hw0];decide),if_neg (by rw[hw1];decide),if_pos hw2]
     have bA:=EA2.box
     have qA:=EA2.box
     simp only[rq] at bA qA
     simp(disch:=first|omega|assumption) only[bA,go_sem]
     refine goK_both (zfX qA EA2.ne EA2.rd hl) (fun v HB ⟨x,tB,eB,hvB,aB⟩=>?_) fun v HB ⟨n,eB,hvB⟩=>pan v HB n hvB (by rw[hx,eB];rfl)
     subst hvB
     rw[eB,zd] at hx
     have EB:=EA2.call aB
     have gB:=(aB.other n2s).trans gA2
     have bB:=EB.box
     simp only[rq] at bB
     simp(disch:=first|omega|assumption) only[gB,bB,nq2,Ne.symm nq2,yR,yt,ye,go_sem]
     have EC:=EB.cell gB n2 nq2 (.cells (cE x))
     refine goP_ownS (by rw[hcl];exact EC.own) (by simp only[hcl,Al2,Al3];omega) (by simp only[hcl,Al2,Al3,maxLen];omega) fun oD HD hsD=>?_
     have bD:=zA EC.own EC.box hsD.kept
     simp only[rq] at bD
     simp(disch:=first|omega|assumption) only[bD,go_sem]
     exact hQ _ _ _ _ [] nofun rfl (Low.refl _) ⟨rfl,_,_,oD,hx,EC.put x (by simpa[hcl] using hsD) (by simp) (by simp[cEs,yo])⟩
    | false =>
     rw[hw2] at EA2
     simp only[Al7,if_false] at EA2
     have bC3:=EA2.box
     simp only[rq] at bC3
     simp(disch:=first|omega|assumption) only[bC3,go_sem]
     refine goK_ret (y5 EA2.rd hl [101,110,117,109]) fun v HA3 ⟨hvA,aA⟩=>?_
     subst hvA
     have EA3:=EA2.call aA
     have gA3:=(aA.other n2s).trans gA2
     unfold zy at EA3
     cases hw3:isW [101,110,117,109] (zg t) with
     | true =>
      rw[hw3,if_pos rfl] at EA3
      have hx:zn d t=pb (ZP (zg t).tail) fun x t=>.ok (yj d x,t):=by unfold zn yD;rw[if_neg h0,if_neg (by rw[hw0];decide),if_neg (by rw[hw1];decide),if_neg (by rw[hw2];decide),if_pos hw3]
      have bA:=EA3.box
      have qA:=EA3.box
      simp only[rq] at bA qA
      simp(disch:=first|omega|assumption) only[bA,go_sem]
      refine goK_both (zgV qA EA3.ne EA3.rd hl) (fun v HB ⟨x,tB,eB,hvB,aB⟩=>?_) fun v HB ⟨n,eB,hvB⟩=>pan v HB n hvB (by rw[hx,eB];rfl)
      subst hvB
      rw[eB,zd] at hx
      have EB:=EA3.call aB
      have gB:=(aB.other n2s).trans gA3
      have bB:=EB.box
      simp only[rq] at bB
      simp(disch:=first|omega|assumption) only[gB,bB,nq2,Ne.symm nq2,yR,yt,ye,go_sem]
      have EC:=EB.cell gB n2 nq2 (.cells (cE x))
      refine goP_ownS (by rw[hcl];exact EC.own) (by simp only[hcl,Al2,Al3];omega) (by simp only[hcl,Al2,Al3,maxLen];omega) fun oD HD hsD=>?_
      have bD:=zA EC.own EC.box hsD.kept
      simp only[rq] at bD
      simp(disch:=first|omega|assumption) only[bD,go_sem]
      exact hQ _ _ _ _ [] nofun rfl (Low.refl _) ⟨rfl,_,_,oD,hx,EC.put x (by simpa[hcl] using hsD) (by simp) (by simp[cEs,yo])⟩
     | false =>
      rw[hw3] at EA3
      simp only[Al7,if_false] at EA3
      have bC4:=EA3.box
      simp only[rq] at bC4
      simp(disch:=first|omega|assumption) only[bC4,go_sem]
      refine goK_ret (y5 EA3.rd hl [105,110,112,117,116]) fun v HA4 ⟨hvA,aA⟩=>?_
      subst hvA
      have EA4:=EA3.call aA
      have gA4:=(aA.other n2s).trans gA3
      unfold zy at EA4
      cases hw4:isW [105,110,112,117,116] (zg t) with
      | true =>
       rw[hw4,if_pos rfl] at EA4
       have hx:zn d t=pb (yU (zg t).tail) fun x t=>.ok (yj d x,t):=by unfold zn yD;rw[if_neg h0,if_neg (by rw[hw0];decide),if_neg (by rw[hw1];decide),if_neg (by rw[hw2];decide),if_neg (by rw[hw3];decide),if_pos hw4]
       have bA:=EA4.box
       have qA:=EA4.box
       simp only[rq] at bA qA
       simp(disch:=first|omega|assumption) only[bA,go_sem]
       refine goK_both (zfh qA EA4.ne EA4.rd hl) (fun v HB ⟨x,tB,eB,hvB,aB⟩=>?_) fun v HB ⟨n,eB,hvB⟩=>pan v HB n hvB (by rw[hx,eB];rfl)
       subst hvB
       rw[eB,zd] at hx
       have EB:=EA4.call aB
       have gB:=(aB.other n2s).trans gA4
       have bB:=EB.box
       simp only[rq] at bB
       simp(disch:=first|omega|assumption) only[gB,bB,nq2,Ne.symm nq2,yR,yt,ye,go_sem]
       have EC:=EB.cell gB n2 nq2 (.cells (cE x))
       refine goP_ownS (by rw[hcl];exact EC.own) (by simp only[hcl,Al2,Al3];omega) (by simp only[hcl,Al2,Al3,maxLen];omega) fun oD HD hsD=>?_
       have bD:=zA EC.own EC.box hsD.kept
       simp only[rq] at bD
       simp(disch:=first|omega|assumption) only[bD,go_sem]
       exact hQ _ _ _ _ [] nofun rfl (Low.refl _) ⟨rfl,_,_,oD,hx,EC.put x (by simpa[hcl] using hsD) (by simp) (by simp[cEs,yo])⟩
      | false =>
       rw[hw4] at EA4
       simp only[Al7,if_false] at EA4
       have bF:=EA4.box
       simp only[rq] at bF
       simp(disch:=first|omega|assumption) only[bF,go_sem]
       exact goK_both (Z3 _ r 2) (fun _ _ h=>h.elim) fun v H3 h=>pan v H3 2 h (by unfold zn yD;rw[if_neg h0,if_neg (by rw[hw0];decide),if_neg (by rw[hw1];decide),if_neg (by rw[hw2];decide),if_neg (by rw[hw3];decide),if_neg (by rw[hw4];decide)])
 ·rw[ht] at b2'
  simp(disch:=first|omega|assumption) only[b2',go_sem]
  refine goK_ret (y5 E2.rd hl [115,99,104,101,109,97]) fun v H3 ⟨hv3,a3⟩=>?_
  subst hv3
  have E2:=E2.call a3
  have g2:=(a3.other n2s).trans g2
  unfold zy at E2
  rw[hw] at E2
  simp only[Al7,if_false] at E2
  rw[hw]
  simp(disch:=first|omega|assumption) only[go_sem]
  have bC0:=E2.box
  simp only[rq] at bC0
  try simp(disch:=first|omega|assumption) only[bC0,go_sem]
  refine goK_ret (y5 E2.rd hl [116,121,112,101]) fun v HA0 ⟨hvA,aA⟩=>?_
  subst hvA
  have EA0:=E2.call aA
  have gA0:=(aA.other n2s).trans g2
  unfold zy at EA0
  cases hw0:isW [116,121,112,101] (zg t) with
  | true =>
   rw[hw0,if_pos rfl] at EA0
   have hx:zn d t=pb (Ym 1 (zg t).tail) fun x t=>.ok (yj d x,t):=by unfold zn yD;rw[if_neg h0,if_pos hw0]
   have bA:=EA0.box
   have qA:=EA0.box
   simp only[rq] at bA qA
   simp(disch:=first|omega|assumption) only[bA,go_sem]
   refine goK_both (zau 1 qA EA0.ne EA0.rd hl) (fun v HB ⟨x,tB,eB,hvB,aB⟩=>?_) fun v HB ⟨n,eB,hvB⟩=>pan v HB n hvB (by rw[hx,eB];rfl)
   subst hvB
   rw[eB,zd] at hx
   have EB:=EA0.call aB
   have gB:=(aB.other n2s).trans gA0
   have bB:=EB.box
   simp only[rq] at bB
   simp(disch:=first|omega|assumption) only[gB,bB,nq2,Ne.symm nq2,yR,yt,ye,go_sem]
   have EC:=EB.cell gB n2 nq2 (.cells (cE x))
   refine goP_ownS (by rw[hcl];exact EC.own) (by simp only[hcl,Al2,Al3];omega) (by simp only[hcl,Al2,Al3,maxLen];omega) fun oD HD hsD=>?_
   have bD:=zA EC.own EC.box hsD.kept
   simp only[rq] at bD
   simp(disch:=first|omega|assumption) only[bD,go_sem]
   exact hQ _ _ _ _ [] nofun rfl (Low.refl _) ⟨rfl,_,_,oD,hx,EC.put x (by simpa[hcl] using hsD) (by simp) (by simp[cEs,yo])⟩
  | false =>
   rw[hw0] at EA0
   simp only[Al7,if_false] at EA0
   have bC1:=EA0.box
   simp only[rq] at bC1
   simp(disch:=first|omega|assumption) only[bC1,go_sem]
   refine goK_ret (y5 EA0.rd hl [105,110,116,101,114,102,97,99,101]) fun v HA1 ⟨hvA,aA⟩=>?_
   subst hvA
   have EA1:=EA0.call aA
   have gA1:=(aA.other n2s).trans gA0
   unfold zy at EA1
   cases hw1:isW [105,110,116,101,114,102,97,99,101] (zg t) with
   | true =>
    rw[hw1,if_pos rfl] at EA1
    have hx:zn d t=pb (Ym 2 (zg t).tail) fun x t=>.ok (yj d x,t):=by unfold zn yD;rw[if_neg h0,if_neg (by rw[hw0];decide),if_pos hw1]
    have bA:=EA1.box
    have qA:=EA1.box
    simp only[rq] at bA qA
    simp(disch:=first|omega|assumption) only[bA,go_sem]
    refine goK_both (zau 2 qA EA1.ne EA1.rd hl) (fun v HB ⟨x,tB,eB,hvB,aB⟩=>?_) fun v HB ⟨n,eB,hvB⟩=>pan v HB n hvB (by rw[hx,eB];rfl)
    subst hvB
    rw[eB,zd] at hx
    have EB:=EA1.call aB
    have gB:=(aB.other n2s).trans gA1
    have bB:=EB.box
    simp only[rq] at bB
    simp(disch:=first|omega|assumption) only[gB,bB,nq2,Ne.symm nq2,yR,yt,ye,go_sem]
    have EC:=EB.cell gB n2 nq2 (.cells (cE x))
    refine goP_ownS (by rw[hcl];exact EC.own) (by simp only[hcl,Al2,Al3];omega) (by simp only[hcl,Al2,Al3,maxLen];omega) fun oD HD hsD=>?_
    have bD:=zA EC.own EC.box hsD.kept
    simp only[rq] at bD
    simp(disch:=first|omega|assumption) only[bD,go_sem]
    exact hQ _ _ _ _ [] nofun rfl (Low.refl _) ⟨rfl,_,_,oD,hx,EC.put x (by simpa[hcl] using hsD) (by simp) (by simp[cEs,yo])⟩
   | false =>
    rw[hw1] at EA1
    simp only[Al7,if_false] at EA1
    have bC2:=EA1.box
    simp only[rq] at bC2
    simp(disch:=first|omega|assumption) only[bC2,go_sem]
    refine goK_ret (y5 EA1.rd hl [117,110,105,111,110]) fun v HA2 ⟨hvA,aA⟩=>?_
    subst hvA
    have EA2:=EA1.call aA
    have gA2:=(aA.other n2s).trans gA1
    unfold zy at EA2
    cases hw2:isW [117,110,105,111,110] (zg t) with
    | true =>
     rw[hw2,if_pos rfl] at EA2
     have hx:zn d t=pb (yK (zg t).tail) fun x t=>.ok (yj d x,t):=by unfold zn yD;rw[if_neg h0,if_neg (by rw[hw0];decide),if_neg (by rw[hw1];decide),if_pos hw2]
     have bA:=EA2.box
     have qA:=EA2.box
     simp only[rq] at bA qA
     simp(disch:=first|omega|assumption) only[bA,go_sem]
     refine goK_both (zfX qA EA2.ne EA2.rd hl) (fun v HB ⟨x,tB,eB,hvB,aB⟩=>?_) fun v HB ⟨n,eB,hvB⟩=>pan v HB n hvB (by rw[hx,eB];rfl)
     subst hvB
     rw[eB,zd] at hx
     have EB:=EA2.call aB
     have gB:=(aB.other n2s).trans gA2
     have bB:=EB.box
     simp only[rq] at bB
     simp(disch:=first|omega|assumption) only[gB,bB,nq2,Ne.symm nq2,yR,yt,ye,go_sem]
     have EC:=EB.cell gB n2 nq2 (.cells (cE x))
     refine goP_ownS (by rw[hcl];exact EC.own) (by simp only[hcl,Al2,Al3];omega) (by simp only[hcl,Al2,Al3,maxLen];omega) fun oD HD hsD=>?_
     have bD:=zA EC.own EC.box hsD.kept
     simp only[rq] at bD
     simp(disch:=first|omega|assumption) only[bD,go_sem]
     exact hQ _ _ _ _ [] nofun rfl (Low.refl _) ⟨rfl,_,_,oD,hx,EC.put x (by simpa[hcl] using hsD) (by simp) (by simp[cEs,yo])⟩
    | false =>
     rw[hw2] at EA2
     simp only[Al7,if_false] at EA2
     have bC3:=EA2.box
     simp only[rq] at bC3
     simp(disch:=first|omega|assumption) only[bC3,go_sem]
     refine goK_ret (y5 EA2.rd hl [101,110,117,109]) fun v HA3 ⟨hvA,aA⟩=>?_
     subst hvA
     have EA3:=EA2.call aA
     have gA3:=(aA.other n2s).trans gA2
     unfold zy at EA3
     cases hw3:isW [101,110,117,109] (zg t) with
     | true =>
      rw[hw3,if_pos rfl] at EA3
      have hx:zn d t=pb (ZP (zg t).tail) fun x t=>.ok (yj d x,t):=by unfold zn yD;rw[if_neg h0,if_neg (by rw[hw0];decide),if_neg (by rw[hw1];decide),if_neg (by rw[hw2];decide),if_pos hw3]
      have bA:=EA3.box
      have qA:=EA3.box
      simp only[rq] at bA qA
      simp(disch:=first|omega|assumption) only[bA,go_sem]
      refine goK_both (zgV qA EA3.ne EA3.rd hl) (fun v HB ⟨x,tB,eB,hvB,aB⟩=>?_) fun v HB ⟨n,eB,hvB⟩=>pan v HB n hvB (by rw[hx,eB];rfl)
      subst hvB
      rw[eB,zd] at hx
      have EB:=EA3.call aB
      have gB:=(aB.other n2s).trans gA3
      have bB:=EB.box
      simp only[rq] at bB
      simp(disch:=first|omega|assumption) only[gB,bB,nq2,Ne.symm nq2,yR,yt,ye,go_sem]
      have EC:=EB.cell gB n2 nq2 (.cells (cE x))
      refine goP_ownS (by rw[hcl];exact EC.own) (by simp only[hcl,Al2,Al3];omega) (by simp only[hcl,Al2,Al3,maxLen];omega) fun oD HD hsD=>?_
      have bD:=zA EC.own EC.box hsD.kept
      simp only[rq] at bD
      simp(disch:=first|omega|assumption) only[bD,go_sem]
      exact hQ _ _ _ _ [] nofun rfl (Low.refl _) ⟨rfl,_,_,oD,hx,EC.put x (by simpa[hcl] using hsD) (by simp) (by simp[cEs,yo])⟩
     | false =>
      rw[hw3] at EA3
      simp only[Al7,if_false] at EA3
      have bC4:=EA3.box
      simp only[rq] at bC4
      simp(disch:=first|omega|assumption) only[bC4,go_sem]
      refine goK_ret (y5 EA3.rd hl [105,110,112,117,116]) fun v HA4 ⟨hvA,aA⟩=>?_
      subst hvA
      have EA4:=EA3.call aA
      have gA4:=(aA.other n2s).trans gA3
      unfold zy at EA4
      cases hw4:isW [105,110,112,117,116] (zg t) with
      | true =>
       rw[hw4,if_pos rfl] at EA4
       have hx:zn d t=pb (yU (zg t).tail) fun x t=>.ok (yj d x,t):=by unfold zn yD;rw[if_neg h0,if_neg (by rw[hw0];decide),if_neg (by rw[hw1];decide),if_neg (by rw[hw2];decide),if_neg (by rw[hw3];decide),if_pos hw4]
       have bA:=EA4.box
       have qA:=EA4.box
       simp only[rq] at bA qA
       simp(disch:=first|omega|assumption) only[bA,go_sem]
       refine goK_both (zfh qA EA4.ne EA4.rd hl) (fun v HB ⟨x,tB,eB,hvB,aB⟩=>?_) fun v HB ⟨n,eB,hvB⟩=>pan v HB n hvB (by rw[hx,eB];rfl)
       subst hvB
       rw[eB,zd] at hx
       have EB:=EA4.call aB
       have gB:=(aB.other n2s).trans gA4
       have bB:=EB.box
       simp only[rq] at bB
       simp(disch:=first|omega|assumption) only[gB,bB,nq2,Ne.symm nq2,yR,yt,ye,go_sem]
       have EC:=EB.cell gB n2 nq2 (.cells (cE x))
       refine goP_ownS (by rw[hcl];exact EC.own) (by simp only[hcl,Al2,Al3];omega) (by simp only[hcl,Al2,Al3,maxLen];omega) fun oD HD hsD=>?_
       have bD:=zA EC.own EC.box hsD.kept
       simp only[rq] at bD
       simp(disch:=first|omega|assumption) only[bD,go_sem]
       exact hQ _ _ _ _ [] nofun rfl (Low.refl _) ⟨rfl,_,_,oD,hx,EC.put x (by simpa[hcl] using hsD) (by simp) (by simp[cEs,yo])⟩
      | false =>
       rw[hw4] at EA4
       simp only[Al7,if_false] at EA4
       have bF:=EA4.box
       simp only[rq] at bF
       simp(disch:=first|omega|assumption) only[bF,go_sem]
       exact goK_both (Z3 _ r 2) (fun _ _ h=>h.elim) fun v H3 h=>pan v H3 2 h (by unfold zn yD;rw[if_neg h0,if_neg (by rw[hw0];decide),if_neg (by rw[hw1];decide),if_neg (by rw[hw2];decide),if_neg (by rw[hw3];decide),if_neg (by rw[hw4];decide)])
def Zr (s:List UInt8):SchD×Int:=match zZ s with
 | .error n=>(⟨[],[],[]⟩,n)
 | .ok L=>match ZU L with
  | .error n=>(⟨[],[],[]⟩,n)
  | .ok (d,_)=>(YE d,0)
abbrev zan:List AV:=[.sl .nil 6 [],.str [],.str []]
def zfd (s:List UInt8) (b:Nat) (n:Int) (H:Heap):Prop:=(n≠0∧Zr s=(⟨[],[],[]⟩,n))∨(n=0∧∃ d o,Zr s=(d,0)∧H b=some (.cells [.sl o 6 (cEs d.defs),.str d.q,.str d.m]))
def yT (l:List DefD):List UInt8:=if l.any fun x=>decide (x.nm=[77,117,116,97,116,105,111,110]) then [77,117,116,97,116,105,111,110] else []
theorem zeF (l:List DefD) (x:DefD):yT (l++[x])=if x.nm=[77,117,116,97,116,105,111,110] then [77,117,116,97,116,105,111,110] else yT l:=by
 unfold yT
 rw[List.any_append]
 by_cases h:x.nm=[77,117,116,97,116,105,111,110]
 ·simp[h]
 ·simp[h]
set_option maxHeartbeats 1000000 in
theorem zgT {s:List UInt8} {L:List Tok} (hR:zZ s=.ok L) {Hc:Heap} {b6 r:Nat} (h6:Hc b6=some (.cells zan)) (hr:Hc r=none) :
  ACalls Tryz.prog 41 [.ptr r 0,.ptr b6 0] (Hc.upd r (prc L [] 0)) (fun e H'=>match e with
   | .ret _=>∃ p t dp,p++t=L∧H' r=some (prc L p dp)∧zfd s b6 (if t=[] then 0 else 2) H'
   | .pan v=>∃ n,v=zP n∧∀ H,zfd s b6 n H):=by
 refine ACalls.goO (R:=fun _ H'=>∃ p t dp,p++t=L∧H' r=some (prc L p dp)∧zfd s b6 (if t=[] then 0 else 2) H') (RP:=fun v _=>∃ n,v=zP n∧∀ H,zfd s b6 n H) ir41 ck41 (Al4 _) fun KP Q hQ hP=>?_
 have n6:b6≠r:=fun e=>by subst e;rw[hr] at h6;cases h6
 have hw:=zcd hR
 have hll:=Z2 hw
 simp only[zq] at hll
 have pan:∀(v:AV) (H1:Heap) (n:Int),v=zP n→ZU L=.error n→KP v H1:=fun v H1 n h1 h2=>hP v H1 H1 (Low.refl _) ⟨n,h1,fun H=>.inl ⟨zei _ _ h2,by unfold Zr;rw[hR];simp only[h2]⟩⟩
 simp(disch:=first|omega|assumption) only[ir41,go_sem]
 refine goA_intro fun q hq=>?_
 have nqr:q≠r:=fun e=>by subst e;rw[upd_same] at hq;cases hq
 have nq6:q≠b6:=fun e=>by subst e;rw[upd_ne n6,h6] at hq;cases hq
 have E0:EI L r q ((Hc.upd r (prc L [] 0)).upd q (.cells (rq r sr0 .nil))) L sr0 .nil:=⟨⟨[],rfl,by rw[upd_ne (Ne.symm nqr),upd_same]⟩,upd_same ..,rfl,nqr⟩
 have g6:((Hc.upd r (prc L [] 0)).upd q (.cells (rq r sr0 .nil))) b6=some (.cells zan):=by rw[upd_ne (Ne.symm nq6),upd_ne n6,h6]
 simp(disch:=first|omega|assumption) only[go_sem]
 refine goK_calls (YL g6 (zaj (E0.del g6 (Ne.symm n6) nq6) hw (fun _=>⟨rfl,rfl⟩) (Nat.zero_le _))) fun e H1 ⟨A1,hq1,hA1,hH1⟩=>?_
 cases e with
 | pan v =>
  obtain⟨n,hv,he⟩:=hq1
  exact pan v H1 n hv (by unfold ZU;rw[he];rfl)
 | ret v =>
  obtain⟨hv,d1,t1,o1,e1,E1⟩:=hq1
  subst hv
  have E1:EI L r q H1 t1 d1 o1:=by rw[hH1];exact E1.un
  have g61:H1 b6=some (.cells zan):=by rw[hH1];simp[Heap.union,hA1,Heap.one]
  have hlt1:=zbf e1
  obtain⟨hl1,hi1⟩:=zbz e1
  obtain⟨R,hRR⟩:∃ R,zI (t1.length+1) d1 t1=R:=⟨_,rfl⟩
  have hx:ZU L=R:=by unfold ZU;rw[e1];exact hRR
  show goR _ _ _ _ _ _ _ _ _
  simp(disch:=first|omega|assumption) only[go_sem]
  refine goL_st (fun x:SR×TS×Own=>[]) (fun x H'=>EI L r q H' x.2.1 x.1 x.2.2∧H' b6=some (.cells zan)∧(∃ m,x.2.1.length<m∧zI m x.1 x.2.1=R)∧SI x.1∧x.1.defs.length+x.2.1.length≤L.length) (fun x=>x.2.1.length) (d1,t1,o1) (by simp(disch:=first|omega|assumption) only[go_sem]) ⟨E1,g61,⟨_,Nat.lt_succ_self _,hRR⟩,hi1 fun _=>⟨rfl,rfl⟩,by have:sr0.defs.length=0:=rfl;simp only;omega⟩ ?_
  rintro⟨d,t,o⟩ H2 J ⟨E2,g62,⟨m,hm,hR2⟩,hsi,hlen⟩ hJ
  simp only at E2 g62 hm hR2 hsi hlen
  obtain⟨m,rfl⟩:∃ j,m=j+1:=⟨m-1,by omega⟩
  obtain⟨p,hp,hr2⟩:=E2.rd
  have b2:=E2.box
  simp only[rq] at b2
  rw[zI] at hR2
  simp(disch:=first|omega|assumption) only[b2,go_sem]
  refine goK_ret (zgb hp hr2) fun v3 H3 ⟨hv3,hH3⟩=>?_
  subst hv3;subst hH3
  by_cases ht:t=[]
  ·rw[if_pos ht] at hR2
   have hd:decide (t≠[])=false:=by simp[ht]
   have es:Zr s=(YE d,0):=by unfold Zr;rw[hR];simp only[hx,← hR2]
   have hif:(if t=[] then (0:Int) else 2)=0:=if_pos ht
   have hcl:=YK d.defs
   rw[hd]
   simp only[zan] at g62
   cases htd:d.told with
   | true =>
    rw[htd] at b2
    simp(disch:=first|omega|assumption) only[b2,g62,nq6,Ne.symm nq6,go_sem]
    refine hQ _ _ _ _ [] nofun rfl (Low.refl _) ⟨p,t,16-16,hp,by rw[upd_ne (Ne.symm n6)];exact hr2,?_⟩
    rw[hif]
    exact .inr ⟨rfl,YE d,o,es,by rw[upd_same];simp[YE,htd]⟩
   | false =>
    obtain⟨hq0,hm0⟩:=hsi htd
    have ef:YE d=⟨d.defs,[81,117,101,114,121],yT d.defs⟩:=by simp[YE,htd,yT]
    rw[ef] at es
    rw[htd,hq0,hm0] at b2
    simp(disch:=first|omega|assumption) only[b2,g62,nq6,Ne.symm nq6,go_sem]
    refine goL_range d.defs 30 (fun x:Unit=>[]) (fun done rest x H'=>H' b6=some (.cells [.sl o 6 (cEs d.defs),.str [81,117,101,114,121],.str (yT done)])∧H' r=some (prc L p (16-16))) () (by simp(disch:=first|omega|assumption) only[go_sem]) ⟨by rw[upd_same];rfl,by rw[upd_ne (Ne.symm n6)];exact hr2⟩ ?_ ?_
    ·rintro _ H4 J4 ⟨g64,hr4⟩ hlt4
     simp(disch:=first|omega|assumption) only[hcl,hlt4,go_sem]
     refine hQ _ _ _ _ [] nofun rfl (Low.refl _) ⟨p,t,16-16,hp,hr4,?_⟩
     rw[hif]
     exact .inr ⟨rfl,_,o,es,g64⟩
    ·rintro done x rest _ H4 J4 hdd hlt4 hlt4' ⟨g64,hr4⟩ hJ4
     have hg:=zgz hdd
     have hms:=zeF done x
     obtain⟨k,nm,faces,flds,parts,ps⟩:=x
     rw[zg0] at hg
     simp only at hms
     simp(disch:=first|omega|assumption) only[hcl,hlt4,hg,go_sem]
     refine goA_intro fun b5 hb5=>?_
     have h56:b5≠b6:=fun e=>by subst e;rw[g64] at hb5;cases hb5
     have h5r:b5≠r:=fun e=>by subst e;rw[hr4] at hb5;cases hb5
     by_cases hnm:nm=[77,117,116,97,116,105,111,110]
     ·rw[if_pos hnm] at hms
      have hnm':=eq_true hnm
      simp(disch:=first|omega|assumption) only[hg,hnm',g64,h56,Ne.symm h56,wrap64,go_sem]
      refine goJ (hJ4 () _ ⟨by rw[upd_same,hms],by rw[upd_ne (Ne.symm n6),upd_ne (Ne.symm h5r)];exact hr4⟩) (by simp(disch:=first|omega|assumption) only[hcl,go_sem])
     ·rw[if_neg hnm] at hms
      simp(disch:=first|omega|assumption) only[hg,hnm,g64,h56,Ne.symm h56,wrap64,go_sem]
      refine goJ (hJ4 () _ ⟨by rw[upd_ne (Ne.symm h56),hms];exact g64,by rw[upd_ne (Ne.symm h5r)];exact hr4⟩) (by simp(disch:=first|omega|assumption) only[hcl,go_sem])
  ·rw[if_neg ht] at hR2
   have hd:decide (t≠[])=true:=by simp[ht]
   rw[hd]
   simp(disch:=first|omega|assumption) only[go_sem]
   refine goK_calls (YL g62 (zaj (E2.del g62 (Ne.symm n6) nq6) hw hsi (by omega))) fun e H4 ⟨A4,hq4,hA4,hH4⟩=>?_
   cases e with
   | pan v =>
    obtain⟨n,hv,he⟩:=hq4
    exact pan v H4 n hv (by rw[hx,← hR2,he];rfl)
   | ret v =>
    obtain⟨hv,d4,t4,o4,e4,E4⟩:=hq4
    subst hv
    have E4:EI L r q H4 t4 d4 o4:=by rw[hH4];exact E4.un
    have g64:H4 b6=some (.cells zan):=by rw[hH4];simp[Heap.union,hA4,Heap.one]
    have hlt4:=zbf e4
    obtain⟨hl4,hi4⟩:=zbz e4
    rw[e4,zd] at hR2
    show goR _ _ _ _ _ _ _ _ _
    simp(disch:=first|omega|assumption) only[go_sem]
    exact goJ (hJ (d4,t4,o4) _ (by simp only;omega) ⟨E4,g64,⟨m,by simp only;omega,hR2⟩,hi4 hsi,by simp only;omega⟩) (by simp(disch:=first|omega|assumption) only[go_sem])
theorem ZZ (s:List UInt8) (hl:s.length≤yX):Pure Tryz.prog 17 [.str s] (.tup [.agg (zcT (Zr s).1),.int .i64 (Zr s).2]):=by
 refine Pure.go ir17 ck17 (Al4 _) fun KP Q hQ=>?_
 simp(disch:=first|omega|assumption) only[ir17,go_sem]
 refine goA_intro fun b4 hb4=>?_
 simp(disch:=first|omega|assumption) only[go_sem]
 refine goA_intro fun b6 hb6=>?_
 have h64:b6≠b4:=fun e=>by subst e;rw[upd_same] at hb6;cases hb6
 have h6c:(Heap.one b6 (.cells zan)) b6=some (.cells zan):=by simp[Heap.one]
 have hc:=ACalls.frame (zgP (x:=.cells zan) h64) (zh8 (s:=s) (Hc:=Heap.one b6 (.cells zan)) (clo:=41) (caps:=[.ptr b6 0]) hl (by decide +kernel) (zfd s b6)
  (fun n h=>.inl ⟨zab h,by unfold Zr;rw[h]⟩) (fun L hR r hr=>zgT hR h6c hr))
 rw[← zhw h64] at hc
 simp(disch:=first|omega|assumption) only[go_sem]
 refine goK_calls hc fun e H' ⟨A',hq,hd',hH'⟩=>?_
 subst hH'
 cases e with
 | pan v=>exact hq.elim
 | ret v =>
  obtain⟨n,hv,ho⟩:=hq
  subst hv
  have g4:=zhY hd'
  simp only[zan] at g4
  show goR _ _ _ _ _ _ _ _ _
  rcases ho with ⟨hn,he⟩|⟨hn,x,o1,he,h6⟩
  ·rw[he] at hQ
   simp(disch:=first|omega|assumption) only[hn,g4,go_sem]
   exact hQ _ _ _ [.agg [.sl .nil 6 [],.str [],.str []],.int .i64 n] nofun (by simp(disch:=first|omega|assumption) only[ir17,resvs,resv,go_sem]) (by simp[tupOf,AV.strip,AV.strip1,zcT,cEs])
  ·subst hn
   rw[he] at hQ
   have g6:=zin (B:=Heap.one b4 (.cells zan)) h6
   simp(disch:=first|omega|assumption) only[g4,g6,go_sem]
   exact hQ _ _ _ [.agg [.sl o1 6 (cEs x.defs),.str x.q,.str x.m],.int .i64 0] nofun (by simp(disch:=first|omega|assumption) only[ir17,resvs,resv,go_sem]) (by simp[tupOf,AV.strip,AV.strip1,zcT])
end Go.Proofs.YtaielcdfcgpbiaaGreatDoor

namespace Go.Proofs.YtaielcdfcgpbiaaGreatDoor
open Go.Ab
theorem zeP (a b:List DirD) (ha:bDs a≤Lim):Pure Tryz.prog 109 [.sl .no 2 (cDs a),.sl .no 2 (cDs b)] (.bool (eqd a b)):=by
 refine Pure.go ir109 ck109 (Al4 _) fun KP Q hQ=>?_
 have h1:=zcl a
 have h2:=zcl b
 have hla:=zgS a
 simp only[Lim] at ha
 by_cases hl:a.length=b.length
 case neg =>
  have hl':¬ ((a.length:Int)=b.length):=by omega
  have hne:a≠b:=fun e=>hl (by rw[e])
  simp(disch:=first|omega|assumption) only[ir109,h1,h2,hl',go_sem]
  exact hQ _ _ _ _ nofun rfl (by simp[tupOf,envOf,AV.strip,AV.strip1,zz hne])
 have hl':((a.length:Int)=b.length)=True:=eq_true (by omega)
 simp(disch:=first|omega|assumption) only[ir109,h1,h2,hl',go_sem]
 refine goL_range a 5 (fun _:Unit=>[]) (fun done rest n H=>b.take done.length=done) () (by simp(disch:=first|omega|assumption) only[go_sem]) rfl ?_ ?_
 ·rintro n H J hp hlt
  simp(disch:=first|omega|assumption) only[h1,hlt,go_sem]
  exact hQ _ _ _ _ nofun rfl (by simp[tupOf,envOf,AV.strip,AV.strip1,yA (zb8 hl hp)])
 ·rintro done x rest n H J hd hlt _ hp hJ
  obtain⟨y,r,hb⟩:=zb5 hd hl hp
  have g1:=zeo hd
  have g2:=zeo hb
  have hlt2:(done.length:Int)<b.length:=by omega
  have hbm:=zgR done x rest
  rw[← hd] at hbm
  have hst:=zbh hb
  have hne:x≠y→a≠b:=zdz hd hb
  obtain⟨s,v⟩:=x
  obtain⟨t,u⟩:=y
  simp only[bD] at hbm
  by_cases hs:s=t
  case neg =>
   have hne2:=hne (by simp[hs])
   simp(disch:=first|omega|assumption) only[h1,h2,hlt,hlt2,g1,g2,hs,cD,go_sem]
   exact hQ _ _ _ _ nofun rfl (by simp[tupOf,envOf,AV.strip,AV.strip1,zz hne2])
  simp(disch:=first|omega|assumption) only[h1,h2,hlt,hlt2,g1,g2,hs,cD,go_sem]
  refine goK_pure (zf5 v u (by simp only[Lim];omega)) ?_
  by_cases hv:v=u
  ·simp(disch:=first|omega|assumption) only[yA hv,go_sem]
   exact goJ (hJ () _ (by rw[hs,hv];exact hst)) (by simp(disch:=first|omega|assumption) only[wrap64,go_sem])
  ·have:=hne (by simp[hv])
   simp(disch:=first|omega|assumption) only[zz hv,go_sem]
   exact hQ _ _ _ _ nofun rfl (by simp[tupOf,envOf,AV.strip,AV.strip1,zz this])
theorem zf7 (l:List (List UInt8)) (hl:l.length≤Lim):Pure Tryz.prog 51 [.sl .no 1 (cT l),.sl .no 1 (cT l)] (.bool true):=by
 refine Pure.go ir51 ck51 (Al4 _) fun KP Q hQ=>?_
 have hcl:=zck l
 simp only[Lim] at hl
 simp(disch:=first|omega|assumption) only[ir51,hcl,go_sem]
 refine goL_range l 5 (fun x:Unit=>[]) (fun done rest x H=>True) () (by simp(disch:=first|omega|assumption) only[go_sem]) trivial ?_ ?_
 ·rintro _ H J _ hlt
  simp(disch:=first|omega|assumption) only[hcl,hlt,go_sem]
  exact hQ _ _ _ _ nofun rfl (by simp[tupOf,envOf,AV.strip,AV.strip1])
 ·rintro done x rest _ H J hd hlt hlt' _ hJ
  have hg:(cT l).getD done.length []=[.str x]:=by rw[hd];simp[cT]
  simp(disch:=first|omega|assumption) only[hcl,hlt,hg,wrap64,go_sem]
  exact goJ (hJ () H trivial) (by simp(disch:=first|omega|assumption) only[go_sem])
theorem zek (l:List VarD) (hl:bWs l≤Lim):Pure Tryz.prog 52 [.sl .no 10 (cWs l),.sl .no 10 (cWs l)] (.bool true):=by
 refine Pure.go ir52 ck52 (Al4 _) fun KP Q hQ=>?_
 have hcl:=zeg l
 have hml:=zgx l
 have hl':=hl
 simp only[Lim] at hl'
 simp(disch:=first|omega|assumption) only[ir52,hcl,go_sem]
 refine goL_range l 5 (fun x:Unit=>[]) (fun done rest x H=>True) () (by simp(disch:=first|omega|assumption) only[go_sem]) trivial ?_ ?_
 ·rintro _ H J _ hlt
  simp(disch:=first|omega|assumption) only[hcl,hlt,go_sem]
  exact hQ _ _ _ _ nofun rfl (by simp[tupOf,envOf,AV.strip,AV.strip1])
 ·rintro done x rest _ H J hd hlt hlt' _ hJ
  have hg:=zgJ hd
  have hbm:=zgG done x rest
  rw[← hd] at hbm
  obtain⟨nm,⟨tn,tl,tm⟩,h,v⟩:=x
  simp only[bW] at hbm
  rw[zf0] at hg
  have hs:=zgY v (by simp only[Lim];omega) v
  rw[yA rfl] at hs
  simp(disch:=first|omega|assumption) only[zi,ze,zb,zj,zf,za,zp,hcl,hlt,hg,fitsAll,K1.fits,keqs,AV.keq1,Bool.and_true,go_sem]
  refine goK_pure hs ?_
  simp(disch:=first|omega|assumption) only[zi,ze,zb,zj,zf,za,zp,hcl,hlt,hg,wrap64,go_sem]
  exact goJ (hJ () H trivial) (by simp(disch:=first|omega|assumption) only[go_sem])
theorem zg9 (x:FldD) (hl:bL x≤Lim):Pure Tryz.prog 53 [.agg (cL x),.agg (cL x)] (.bool true):=by
 refine Pure.go ir53 ck53 (Al4 _) fun KP Q hQ=>?_
 obtain⟨nm,ps,⟨tn,tl,tm⟩,dirs⟩:=x
 simp only[bL] at hl
 have h1:=zeP dirs dirs (by omega)
 rw[yA rfl] at h1
 simp(disch:=first|omega|assumption) only[ir53,zh0,fitsAll,K1.fits,keqs,AV.keq1,Bool.and_true,go_sem]
 refine goK_pure (zek ps (by omega)) ?_
 simp(disch:=first|omega|assumption) only[go_sem]
 refine goK_pure h1 ?_
 simp(disch:=first|omega|assumption) only[go_sem]
 exact hQ _ _ _ _ nofun rfl (by simp[tupOf,envOf,AV.strip,AV.strip1])
theorem zhP (x:DefD) (hl:bE x≤Lim):Pure Tryz.prog 21 [.agg (cE x),.agg (cE x)] (.bool true):=by
 refine Pure.go ir21 ck21 (Al4 _) fun KP Q hQ=>?_
 obtain⟨k,nm,faces,flds,parts,ps⟩:=x
 simp only[bE] at hl
 have hcl:=zcn flds
 have hlf:=zgo flds
 have htf:=zfy faces
 have htp:=zfy parts
 have hl':=hl
 simp only[Lim] at hl'
 simp(disch:=first|omega|assumption) only[ir21,zg0,go_sem]
 refine goK_pure (zf7 faces (by omega)) ?_
 simp(disch:=first|omega|assumption) only[go_sem]
 refine goK_pure (zf7 parts (by omega)) ?_
 simp(disch:=first|omega|assumption) only[go_sem]
 refine goK_pure (zek ps (by omega)) ?_
 simp(disch:=first|omega|assumption) only[hcl,go_sem]
 refine goL_range flds 5 (fun x:Unit=>[]) (fun done rest x H=>True) () (by simp(disch:=first|omega|assumption) only[go_sem]) trivial ?_ ?_
 ·rintro _ H J _ hlt
  simp(disch:=first|omega|assumption) only[hcl,hlt,go_sem]
  exact hQ _ _ _ _ nofun rfl (by simp[tupOf,envOf,AV.strip,AV.strip1])
 ·rintro done x rest _ H J hd hlt hlt' _ hJ
  have hg:=zgp hd
  have hbm:=zgI done x rest
  rw[← hd] at hbm
  have hf:=zg9 x (by omega)
  have h6:(cL x).length=6:=rfl
  have t6:(cL x).take 6=cL x:=rfl
  simp(disch:=first|omega|assumption) only[hcl,hlt,hg,h6,t6,go_sem]
  refine goK_pure hf ?_
  simp(disch:=first|omega|assumption) only[wrap64,go_sem]
  exact goJ (hJ () H trivial) (by simp(disch:=first|omega|assumption) only[go_sem])
def Y0 (t t':TS):Prop:=hdT t'=hdT t∨hdT t'=⟨0,[]⟩
theorem Y0.pre {c t t':TS} (h:c≠[]∨Y0 t t'):Y0 (c++t) (c++t'):=by
 cases c with
 | nil=>exact h.resolve_left (fun e=>e rfl)
 | cons x c=>exact .inl rfl
theorem zdi {m:List UInt8} {t t':TS} (h:Y0 t t') (hp:isP m t=false):isP m t'=false:=by
 unfold isP at hp ⊢
 rcases h with h|h
 ·rw[h];exact hp
 ·rw[h];simp
theorem zha {m:List UInt8} {t t':TS} (h:Y0 t t') (hp:isW m t=false):isW m t'=false:=by
 unfold isW at hp ⊢
 rcases h with h|h
 ·rw[h];exact hp
 ·rw[h];simp
def Lk {α:Type} (one:Bool) (f:TS→PR α):Prop:=∀ t a t',f t=.ok (a,t')→∃ c,(one=true→c≠[])∧t=c++t'∧∀ t'',Y0 t' t''→f (c++t'')=.ok (a,t'')
def Cl {α:Type} (f:TS→PR α):Prop:=∀ t a t',f t=.ok (a,t')→∃ c,c≠[]∧t=c++t'∧∀ t'',f (c++t'')=.ok (a,t'')
theorem Cl.lk {α:Type} {f:TS→PR α} (h:Cl f) (one:Bool):Lk one f:=fun t a t' e=>let ⟨c,h1,h2,h3⟩:=h t a t' e;⟨c,fun _=>h1,h2,fun t'' _=>h3 t''⟩
theorem Lk.weak {α:Type} {f:TS→PR α} {one:Bool} (h:Lk one f):Lk false f:=fun t a t' e=>let ⟨c,h1,h2,h3⟩:=h t a t' e;⟨c,fun e=>(nomatch e),h2,h3⟩
theorem zaC {c t:TS} (h:c≠[]) (t':TS):Y0 (c++t) (c++t'):=Y0.pre (.inl h)
theorem Lk.bind {α β:Type} {one two:Bool} {f:TS→PR α} {g:α→TS→PR β} (hf:Lk one f) (hg:∀ a,Lk two (g a)):Lk (one||two) (fun t=>pb (f t) g):=fun t b t' h=>by
 obtain⟨a,t1,h1,h2⟩:=zc h
 obtain⟨c1,n1,e1,k1⟩:=hf _ _ _ h1
 obtain⟨c2,n2,e2,k2⟩:=hg a _ _ _ h2
 subst e2
 refine⟨c1++c2,fun e=>?_,by rw[e1,yn],fun t'' ht=>?_⟩
 ·rw[Yp] at e
  rcases e with e|e
  ·have:=n1 e;simp[this]
  ·have:=n2 e;simp[this]
 ·rw[yn]
  simp only
  rw[k1 (c2++t'') (Y0.pre (.inr ht)),zd]
  exact k2 t'' ht
theorem Lk.bindC {α β:Type} {one:Bool} {f:TS→PR α} {g:α→TS→PR β} (hf:Lk one f) (hg:∀ a,Cl (g a)):Cl (fun t=>pb (f t) g):=fun t b t' h=>by
 obtain⟨a,t1,h1,h2⟩:=zc h
 obtain⟨c1,n1,e1,k1⟩:=hf _ _ _ h1
 obtain⟨c2,n2,e2,k2⟩:=hg a _ _ _ h2
 subst e2
 refine⟨c1++c2,by simp[n2],by rw[e1,yn],fun t''=>?_⟩
 rw[yn]
 simp only
 rw[k1 (c2++t'') (zaC n2 _),zd]
 exact k2 t''
theorem Lk.ret {α:Type} (a:α):Lk false (fun t=>(.ok (a,t):PR α)):=fun t b t' h=>by
 simp only[Yu,Al8] at h
 obtain⟨rfl,rfl⟩:=h
 exact⟨[],fun e=>(nomatch e),rfl,fun t'' _=>rfl⟩
theorem Cl.map {α β:Type} {f:TS→PR α} {F:α→β} (hf:Cl f):Cl (fun t=>pb (f t) fun a t=>.ok (F a,t)):=fun t b t' h=>by
 obtain⟨a,t1,h1,h2⟩:=zc h
 simp only[Yu,Al8] at h2
 obtain⟨rfl,rfl⟩:=h2
 obtain⟨c1,n1,e1,k1⟩:=hf _ _ _ h1
 exact⟨c1,n1,e1,fun t''=>by simp only;rw[k1,zd]⟩
theorem za4 {t:TS} (h:(hdT t).k≠0):t=[hdT t]++t.tail:=zS h
theorem z8 (m:List UInt8):Cl (zG m):=fun t a t' h=>by
 unfold zG at h
 split at h
 ·rename_i hp
  simp only[Yu,Al8] at h
  obtain⟨_,rfl⟩:=h
  refine⟨[hdT t],by simp,za4 (yS hp),fun t''=>?_⟩
  have:isP m ([hdT t]++t'')=true:=hp
  unfold zG
  rw[if_pos this];rfl
 ·cases h
theorem zw:Cl zv:=fun t a t' h=>by
 unfold zv at h
 split at h
 ·rename_i hp
  simp only[Yu,Al8] at h
  obtain⟨rfl,rfl⟩:=h
  refine⟨[hdT t],by simp,za4 (by rw[hp];decide),fun t''=>?_⟩
  have:(hdT ([hdT t]++t'')).k=2:=hp
  unfold zv
  rw[if_pos this];rfl
 ·cases h
theorem Lk.iteP {α:Type} {one:Bool} {m:List UInt8} {f g:TS→PR α} (hf:Lk one f) (hg:Lk one g):Lk one (fun t=>if isP m t then f t.tail else g t):=fun t a t' h=>by
 simp only at h
 split at h
 ·rename_i hp
  obtain⟨c,n,e,k⟩:=hf _ _ _ h
  refine⟨hdT t::c,by simp,by rw[Al6,← e];exact zS (yS hp),fun t'' ht=>?_⟩
  have:isP m (hdT t::c++t'')=true:=hp
  show (if isP m (hdT t::c++t'') then f (hdT t::c++t'').tail else g (hdT t::c++t''))=_
  rw[if_pos this]
  exact k t'' ht
 ·rename_i hp
  obtain⟨c,n,e,k⟩:=hg _ _ _ h
  refine⟨c,n,e,fun t'' ht=>?_⟩
  have hp2:isP m (c++t'')=false:=zdi (t:=c++t') (Y0.pre (.inr ht)) (by rw[← e];simpa using hp)
  simp only[hp2]
  exact k t'' ht
theorem Lk.iteW {α:Type} {one:Bool} {m:List UInt8} {f g:TS→PR α} (hf:Lk one f) (hg:Lk one g):Lk one (fun t=>if isW m t then f t.tail else g t):=fun t a t' h=>by
 simp only at h
 split at h
 ·rename_i hp
  obtain⟨c,n,e,k⟩:=hf _ _ _ h
  refine⟨hdT t::c,by simp,by rw[Al6,← e];exact zS (Y4 hp),fun t'' ht=>?_⟩
  have:isW m (hdT t::c++t'')=true:=hp
  show (if isW m (hdT t::c++t'') then f (hdT t::c++t'').tail else g (hdT t::c++t''))=_
  rw[if_pos this]
  exact k t'' ht
 ·rename_i hp
  obtain⟨c,n,e,k⟩:=hg _ _ _ h
  refine⟨c,n,e,fun t'' ht=>?_⟩
  have hp2:isW m (c++t'')=false:=zha (t:=c++t') (Y0.pre (.inr ht)) (by rw[← e];simpa using hp)
  simp only[hp2]
  exact k t'' ht
theorem Lk.error {α:Type} {one:Bool} (e:Int):Lk one (fun _=>(.error e:PR α)):=fun t a t' h=>by cases h
theorem Cl.error {α:Type} (e:Int):Cl (fun _=>(.error e:PR α)):=fun t a t' h=>by cases h
theorem zde {α:Type} {m:List UInt8} {f:TS→PR α} (hf:Lk true f):∀(n:Nat) (l:List α) (t:TS) (l':List α) (t':TS),zr m f n l t=.ok (l',t')→∃ c,c≠[]∧t=c++t'∧∀ t'' k,c.length≤k→zr m f k l (c++t'')=.ok (l',t'')
 | 0,_,_,_,_,h=>by cases h
 | n+1,l,t,l',t',h=>by
  simp only[zr] at h
  split at h
  ·rename_i hp
   simp only[Yu,Al8] at h;obtain⟨rfl,rfl⟩:=h
   refine⟨[hdT t],by simp,za4 (yS hp),fun t'' k hk=>?_⟩
   obtain⟨j,rfl⟩:∃ j,k=j+1:=⟨k-1,by simp at hk;omega⟩
   have:isP m ([hdT t]++t'')=true:=hp
   rw[zr,if_pos this];rfl
  ·rename_i hp
   obtain⟨x,t1,h1,h2⟩:=zc h
   obtain⟨c1,n1,e1,k1⟩:=hf _ _ _ h1
   obtain⟨c2,n2,e2,k2⟩:=zde hf n _ _ _ _ h2
   subst e2
   have n1:=n1 rfl
   refine⟨c1++c2,by simp[n1],by rw[e1,yn],fun t'' k hk=>?_⟩
   have l1:0<c1.length:=List.length_pos_iff.2 n1
   simp only[Al5] at hk
   obtain⟨j,rfl⟩:∃ j,k=j+1:=⟨k-1,by omega⟩
   have hp2:isP m (c1++c2++t'')=false:=by
    rw[yn]
    exact zdi (t:=c1++(c2++t')) (zaC n1 _) (by rw[← e1];simpa using hp)
   rw[zr,hp2,if_neg (by decide),yn,k1 _ (zaC n2 _),zd]
   exact k2 t'' j (by omega)
theorem zbe {α:Type} {m:List UInt8} {f:TS→PR α} (hf:Lk true f) (l:List α):Cl (fun t=>zr m f (t.length+1) l t):=fun t a t' h=>by
 obtain⟨c,n,e,k⟩:=zde hf _ _ _ _ _ h
 exact⟨c,n,e,fun t''=>k t'' _ (by simp;omega)⟩
theorem Zv {α:Type} {m:List UInt8} {f:TS→PR α} (hf:Lk true f):Cl (ya m f):=Lk.bindC hf fun a=>zbe hf [a]
theorem zbN {α:Type} {m:List UInt8} {f:TS→PR α} (hf:Lk true f):∀(n:Nat) (l:List α) (t:TS) (l':List α) (t':TS),zH m f n l t=.ok (l',t')→∃ c,t=c++t'∧∀ t'' k,Y0 t' t''→c.length<k→zH m f k l (c++t'')=.ok (l',t'')
 | 0,_,_,_,_,h=>by cases h
 | n+1,l,t,l',t',h=>by
  simp only[zH] at h
  split at h
  ·rename_i hp
   obtain⟨x,t1,h1,h2⟩:=zc h
   obtain⟨c1,n1,e1,k1⟩:=hf _ _ _ h1
   obtain⟨c2,e2,k2⟩:=zbN hf n _ _ _ _ h2
   subst e2
   refine⟨hdT t::(c1++c2),by rw[Al6,yn,← e1];exact zS (yS hp),fun t'' k ht hk=>?_⟩
   simp only[Al2,Al5] at hk
   obtain⟨j,rfl⟩:∃ j,k=j+1:=⟨k-1,by omega⟩
   have:isP m (hdT t::(c1++c2)++t'')=true:=hp
   rw[zH,if_pos this,Al6,List.tail_cons,yn,k1 _ (Y0.pre (.inr ht)),zd]
   exact k2 t'' j ht (by omega)
  ·rename_i hp
   simp only[Yu,Al8] at h;obtain⟨rfl,rfl⟩:=h
   refine⟨[],rfl,fun t'' k ht hk=>?_⟩
   obtain⟨j,rfl⟩:∃ j,k=j+1:=⟨k-1,by omega⟩
   rw[YN,zH,zdi ht (by simpa using hp)];rfl
theorem zeW {α:Type} {m:List UInt8} {f:TS→PR α} (hf:Lk true f) (l:List α:=[]):Lk false (fun t=>zH m f (t.length+1) l t):=fun t a t' h=>by
 obtain⟨c,e,k⟩:=zbN hf _ _ _ _ _ h
 exact⟨c,fun e=>(nomatch e),e,fun t'' ht=>k t'' _ ht (by simp;omega)⟩
theorem zaF (ty:TyD):Lk false (Ys ty):=Lk.iteP (f:=fun t=>.ok (_,t)) (Lk.ret _) (Lk.ret _)
theorem zb3:∀ n,Lk true (Zo n)
 | 0=>Lk.iteP (f:=fun _=>.error 4) (Lk.error _) ((zw.lk true).bind fun s=>zaF _)
 | n+1=>Lk.iteP (f:=fun t=>pb (Zo n t) fun ty t=>pb (zG [93] t) fun _ t=>Ys ⟨ty.nm,ty.lists+1,ty.musts*2⟩ t)
   ((zb3 n).bind fun ty=>((z8 _).lk true).bind fun _=>zaF _) ((zw.lk true).bind fun s=>zaF _)
theorem zaH {f:TS→PR Val} (hf:Cl f):Cl (zF f):=(zw.lk true).bindC fun s=>((z8 _).lk true).bindC fun _=>hf.map
theorem yZ {c:TS} (h:c≠[]) (t t':TS):hdT (c++t)=hdT (c++t'):=by
 cases c with
 | nil=>exact absurd rfl h
 | cons x c=>rfl
theorem Z1 {m:List UInt8} {c:TS} (h:c≠[]) (t t':TS):isP m (c++t)=isP m (c++t'):=by unfold isP;rw[yZ h t t']
theorem zdn {t:TS} (h:(hdT t).k≠0):t=[hdT t]++t.tail:=zS h
theorem zd0 (fixed:Bool) (k:Nat) (ih:∀ n,k=n+1→Cl (zX fixed n)):Cl (zX fixed k):=fun t v t' h=>by
 rw[zL,Zi.eq_def] at h
 split at h
 ·rename_i hk
  simp only[Yu,Al8] at h;obtain⟨rfl,rfl⟩:=h
  refine⟨[hdT t],by simp,zdn (by omega),fun t''=>?_⟩
  rw[zL,Zi.eq_def]
  have e:hdT ([hdT t]++t'')=hdT t:=rfl
  rw[e,if_pos hk];rfl
 rename_i a1
 split at h
 ·rename_i hk
  simp only[Yu,Al8] at h;obtain⟨rfl,rfl⟩:=h
  refine⟨[hdT t],by simp,zdn (by omega),fun t''=>?_⟩
  rw[zL,Zi.eq_def]
  have e:hdT ([hdT t]++t'')=hdT t:=rfl
  rw[e,if_neg a1,if_pos hk];rfl
 rename_i a2
 split at h
 ·rename_i hk
  simp only[Yu,Al8] at h;obtain⟨rfl,rfl⟩:=h
  refine⟨[hdT t],by simp,zdn (by omega),fun t''=>?_⟩
  rw[zL,Zi.eq_def]
  have e:hdT ([hdT t]++t'')=hdT t:=rfl
  rw[e,if_neg a1,if_neg a2,if_pos hk];rfl
 rename_i a3
 split at h
 ·rename_i hp
  cases k with
  | zero=>cases h
  | succ n =>
   have g:Cl fun t=>pb (zr [93] (zX fixed n) (t.length+1) [] t) fun l t=>.ok (Val.mk 6 0 [] l [],t):=(zbe ((ih n rfl).lk true) []).map
   obtain⟨c,nc,e,kc⟩:=g _ _ _ h
   refine⟨hdT t::c,by simp,by rw[Al6,← e];exact zS (yS hp),fun t''=>?_⟩
   rw[zL,Zi.eq_def]
   have e2:hdT (hdT t::c++t'')=hdT t:=rfl
   have e3:isP [91] (hdT t::c++t'')=true:=hp
   rw[e2,if_neg a1,if_neg a2,if_neg a3,e3]
   exact kc t''
 rename_i a4
 split at h
 ·rename_i hp
  cases k with
  | zero=>cases h
  | succ n =>
   have g:Cl fun t=>pb (zr [125] (zF (zX fixed n)) (t.length+1) [] t) fun l t=>.ok (Val.mk 7 0 [] [] l,t):=(zbe ((zaH (ih n rfl)).lk true) []).map
   obtain⟨c,nc,e,kc⟩:=g _ _ _ h
   refine⟨hdT t::c,by simp,by rw[Al6,← e];exact zS (yS hp),fun t''=>?_⟩
   rw[zL,Zi.eq_def]
   have e2:hdT (hdT t::c++t'')=hdT t:=rfl
   have e3:isP [123] (hdT t::c++t'')=true:=hp
   have e4:isP [91] (hdT t::c++t'')=isP [91] t:=rfl
   rw[e2,if_neg a1,if_neg a2,if_neg a3,e4,if_neg a4,e3]
   exact kc t''
 rename_i a5
 split at h
 ·cases h
 rename_i a6
 have g:Cl fun t=>pb (zG [36] t) fun _ t=>pb (zv t) fun s t=>.ok (Val.mk 8 0 s [] [],t):=((z8 _).lk true).bindC fun _=>zw.map
 obtain⟨c,nc,e,kc⟩:=g _ _ _ h
 refine⟨c,nc,e,fun t''=>?_⟩
 rw[zL,Zi.eq_def]
 have e2:hdT (c++t'')=hdT t:=by rw[e];exact yZ nc _ _
 have e4:isP [91] (c++t'')=isP [91] t:=by rw[e];exact Z1 nc _ _
 have e5:isP [123] (c++t'')=isP [123] t:=by rw[e];exact Z1 nc _ _
 rw[e2,if_neg a1,if_neg a2,if_neg a3,e4,if_neg a4,e5,if_neg a5,if_neg a6]
 exact kc t''
theorem zcj (fixed:Bool):∀ k,Cl (zX fixed k)
 | 0=>zd0 fixed 0 fun n h=>by cases h
 | k+1=>zd0 fixed (k+1) fun n h=>by cases h;exact zcj fixed k
theorem zft (fixed:Bool) (k:Nat):Lk false (Zw fixed k):=Lk.iteP (f:=ya [41] (zF (zX fixed k))) ((Zv ((zaH (zcj fixed k)).lk true)).lk false) (Lk.ret _)
theorem zgv (fixed:Bool) (k:Nat):Lk true (zbq fixed k):=(zw.lk true).bind (two:=false) fun s=>(zft fixed k).bind (two:=false) fun a=>Lk.ret _
theorem zfA (fixed:Bool) (k:Nat):Lk false (Z0 fixed k):=zeW (zgv fixed k)
def zeA {α β:Type} (F:α→β) (x:PR α):PR β:=pb x fun a t=>.ok (F a,t)
theorem zal {α β γ:Type} (x:PR α) (f:α→TS→PR β) (g:β→TS→PR γ):pb (pb x f) g=pb x fun a t=>pb (f a t) g:=by
 rcases x with e|⟨a,t⟩<;>rfl
def Bk {α:Type} (m:List UInt8) (f:TS→PR α):Prop:=∀ t a t',f t=.ok (a,t')→∃ c,c≠[]∧t=c++t'∧∀ t'',isP m t''=false→f (c++t'')=.ok (a,t'')
theorem Cl.bk {α:Type} {f:TS→PR α} (h:Cl f) (m:List UInt8):Bk m f:=fun t a t' e=>let ⟨c,h1,h2,h3⟩:=h t a t' e;⟨c,h1,h2,fun t'' _=>h3 t''⟩
theorem Lk.said {α:Type} {f:TS→PR α} (hf:Lk true f):Lk true (fun t=>f (zg t)):=fun t a t' h=>by
 simp only at h
 by_cases hk:(hdT t).k=5
 ·have e0:zg t=t.tail:=by unfold zg;rw[if_pos hk]
  rw[e0] at h
  obtain⟨c,n,e,k⟩:=hf _ _ _ h
  refine⟨hdT t::c,by simp,by rw[Al6,← e];exact zS (by omega),fun t'' ht=>?_⟩
  have e1:zg (hdT t::c++t'')=c++t'':=by unfold zg;rw[if_pos (by exact hk)];rfl
  simp only[e1];exact k t'' ht
 ·have e0:zg t=t:=by unfold zg;rw[if_neg hk]
  rw[e0] at h
  obtain⟨c,n,e,k⟩:=hf _ _ _ h
  refine⟨c,n,e,fun t'' ht=>?_⟩
  have e1:zg (c++t'')=c++t'':=by unfold zg;rw[if_neg];rw[yZ (n rfl) t'' t',← e];exact hk
  simp only[e1];exact k t'' ht
theorem zbO:Lk true z6 :=
 Lk.said (f:=fun t=>pb (zv t) fun s t=>pb (zG [58] t) fun _ t=>pb (Zo 4 t) fun ty t=>if isP [61] t then pb (zX true 16 t.tail) fun v t=>(.ok (⟨s,ty,true,v⟩,t):PR VarD) else (.ok (⟨s,ty,false,zV⟩,t):PR VarD))
  ((zw.lk true).bind (two:=false) fun s=>((z8 _).lk false).bind (two:=false) fun _=>(zb3 4).weak.bind (two:=false) fun ty =>
   Lk.iteP (f:=fun t=>pb (zX true 16 t) fun v t=>(.ok (⟨s,ty,true,v⟩,t):PR VarD)) ((Cl.map (F:=fun v=>(⟨s,ty,true,v⟩:VarD)) (zcj true 16)).lk false) (Lk.ret (⟨s,ty,false,zV⟩:VarD)))
theorem zeE:Lk true yw :=
 Lk.said (f:=fun t=>pb (zv t) fun s t=>pb (if isP [40] t then ya [41] z6 t.tail else .ok ([],t)) fun ps t=>pb (zG [58] t) fun _ t=>pb (Zo 4 t) fun ty t=>pb (Z0 true 16 t) fun d t=>(.ok (⟨s,ps,ty,d⟩,t):PR FldD))
  ((zw.lk true).bind (two:=false) fun s=>(Lk.iteP (one:=false) (f:=ya [41] z6) ((Zv zbO).lk false) (Lk.ret _)).bind (two:=false) fun ps=>((z8 _).lk false).bind (two:=false) fun _ =>
   (zb3 4).weak.bind (two:=false) fun ty=>(zfA true 16).bind (two:=false) fun d=>Lk.ret _)
theorem Y5 (m:List UInt8):∀(n:Nat) (l:List (List UInt8)) (t:TS) (l':List (List UInt8)) (t':TS),zH m zv n l t=.ok (l',t')→isP m t'=false∧∃ c,t=c++t'∧∀ t'' k,isP m t''=false→c.length<k→zH m zv k l (c++t'')=.ok (l',t'')
 | 0,_,_,_,_,h=>by cases h
 | n+1,l,t,l',t',h=>by
  simp only[zH] at h
  split at h
  ·rename_i hp
   obtain⟨x,t1,h1,h2⟩:=zc h
   obtain⟨c1,n1,e1,k1⟩:=zw _ _ _ h1
   obtain⟨g,c2,e2,k2⟩:=Y5 m n _ _ _ _ h2
   subst e2
   refine⟨g,hdT t::(c1++c2),by rw[Al6,yn,← e1];exact zS (yS hp),fun t'' k ht hk=>?_⟩
   simp only[Al2,Al5] at hk
   obtain⟨j,rfl⟩:∃ j,k=j+1:=⟨k-1,by omega⟩
   have:isP m (hdT t::(c1++c2)++t'')=true:=hp
   rw[zH,if_pos this,Al6,List.tail_cons,yn,k1,zd]
   exact k2 t'' j ht (by omega)
  ·rename_i hp
   cases h
   refine⟨by simpa using hp,[],rfl,fun t'' k ht hk=>?_⟩
   obtain⟨j,rfl⟩:∃ j,k=j+1:=⟨k-1,by omega⟩
   rw[YN,zH,ht];rfl
theorem zbT (m:List UInt8):Bk m (yu m):=fun t a t' h=>by
 obtain⟨s,t1,h1,h2⟩:=zc h
 obtain⟨g,c2,e2,k2⟩:=Y5 m _ _ _ _ _ h2
 obtain⟨c1,n1,e1,k1⟩:=(Lk.iteP (one:=true) (m:=m) (f:=zv) (g:=zv) (zw.lk true) (zw.lk true)) t s t1 (by
  simp only
  split at h1
  ·rename_i hp;rw[if_pos hp];exact h1
  ·rename_i hp;rw[if_neg hp];exact h1)
 subst e2
 have n1:=n1 rfl
 refine⟨c1++c2,by simp[n1],by rw[e1,yn],fun t'' ht=>?_⟩
 rw[yn]
 unfold yu
 have hle:Y0 (c2++t') (c2++t'')∨c2=[]:=by
  cases c2 with
  | nil=>exact .inr rfl
  | cons x c=>exact .inl (.inl rfl)
 have k1':zv (if isP m (c1++(c2++t'')) then (c1++(c2++t'')).tail else c1++(c2++t''))=.ok (s,c2++t''):=by
  have hs:isP m (c1++(c2++t''))=isP m (c1++(c2++t')):=Z1 n1 _ _
  rw[hs]
  rw[e1] at h1
  by_cases hp:isP m (c1++(c2++t'))=true
  ·rw[if_pos hp] at h1 ⊢
   cases c1 with
   | nil=>exact absurd rfl n1
   | cons x c =>
    rw[Al6,List.tail_cons] at h1 ⊢
    obtain⟨c3,n3,e3,k3⟩:=zw _ _ _ h1
    have:c=c3:=List.append_cancel_right e3
    subst this
    exact k3 _
  ·rw[if_neg hp] at h1 ⊢
   obtain⟨c3,n3,e3,k3⟩:=zw _ _ _ h1
   have:c1=c3:=List.append_cancel_right e3
   subst this
   exact k3 _
 rw[k1',zd]
 exact k2 t'' _ ht (by simp;omega)
theorem Bk.bindC {α β:Type} {m:List UInt8} {f:TS→PR α} {g:α→TS→PR β} (hf:Bk m f) (hn:∀ t a t',f t=.ok (a,t')→isP m t'=false) (hg:∀ a,Cl (g a)):Cl (fun t=>pb (f t) g):=fun t b t' h=>by
 obtain⟨a,t1,h1,h2⟩:=zc h
 obtain⟨c1,n1,e1,k1⟩:=hf _ _ _ h1
 obtain⟨c2,n2,e2,k2⟩:=hg a _ _ _ h2
 have hp:=hn _ _ _ h1
 subst e2
 refine⟨c1++c2,by simp[n2],by rw[e1,yn],fun t''=>?_⟩
 rw[yn]
 simp only
 rw[k1 (c2++t'') (by rw[Z1 n2 t'' t'];exact hp),zd]
 exact k2 t''
theorem zdD {m:List UInt8} {t:TS} {a:List (List UInt8)} {t':TS} (h:yu m t=.ok (a,t')):isP m t'=false:=by
 obtain⟨s,t1,h1,h2⟩:=zc h
 exact(Y5 m _ _ _ _ _ h2).1
theorem zfI:Cl yP:=fun t a t' h=>by
 have hk:Lk true fun u=>if isW [116,114,117,101] u∨isW [102,97,108,115,101] u∨isW [110,117,108,108] u then (.error 2:PR (List UInt8)) else zv u:=fun u b u' hu=>by
  simp only at hu
  split at hu
  ·cases hu
  ·rename_i hc
   obtain⟨c,n,e,k⟩:=zw _ _ _ hu
   refine⟨c,fun _=>n,e,fun u'' _=>?_⟩
   have hs:∀ w,isW w (c++u'')=isW w u:=fun w=>by unfold isW;rw[e,yZ n u'' u']
   simp only[hs,hc,if_false]
   exact k u''
 unfold yP at h
 split at h
 ·cases h
 ·rename_i hc
  have hs:∀(u u'':TS) (c:TS) (n:c≠[]) ,True:=fun _ _ _ _=>trivial
  by_cases hq:(hdT t).k=5
  ·have e0:zg t=t.tail:=by unfold zg;rw[if_pos hq]
   rw[e0] at h hc
   obtain⟨c,n,e,k⟩:=zw _ _ _ h
   refine⟨hdT t::c,by simp,by rw[Al6,← e];exact zS (by omega),fun t''=>?_⟩
   have e1:zg (hdT t::c++t'')=c++t'':=by unfold zg;rw[if_pos (by exact hq)];rfl
   have hs:∀ w,isW w (c++t'')=isW w t.tail:=fun w=>by unfold isW;rw[e,yZ n t'' t']
   unfold yP
   simp only[e1,hs,hc,if_false]
   exact k t''
  ·have e0:zg t=t:=by unfold zg;rw[if_neg hq]
   rw[e0] at h hc
   obtain⟨c,n,e,k⟩:=zw _ _ _ h
   refine⟨c,n,e,fun t''=>?_⟩
   have e1:zg (c++t'')=c++t'':=by unfold zg;rw[if_neg];rw[yZ n t'' t',← e];exact hq
   have hs:∀ w,isW w (c++t'')=isW w t:=fun w=>by unfold isW;rw[e,yZ n t'' t']
   unfold yP
   simp only[e1,hs,hc,if_false]
   exact k t''
theorem zfS:∀ t a t',(if isW [105,109,112,108,101,109,101,110,116,115] t then yu [38] t.tail else .ok ([],t))=(.ok (a,t'):PR (List (List UInt8)))→∃ c,t=c++t'∧∀ c2 t'',c2≠[]→(∃ t3,t'=c2++t3)→(if isW [105,109,112,108,101,109,101,110,116,115] (c++(c2++t'')) then yu [38] (c++(c2++t'')).tail else .ok ([],c++(c2++t'')))=(.ok (a,c2++t''):PR (List (List UInt8))):=fun t a t' h=>by
 split at h
 ·rename_i hw
  have hp:=zdD h
  obtain⟨c,n,e,k⟩:=zbT _ _ _ _ h
  refine⟨hdT t::c,by rw[Al6,← e];exact zS (Y4 hw),fun c2 t'' n2 ⟨t3,e3⟩=>?_⟩
  have:isW [105,109,112,108,101,109,101,110,116,115] (hdT t::c++(c2++t''))=true:=hw
  rw[if_pos this]
  rw[Al6,List.tail_cons]
  exact k _ (by rw[Z1 n2 t'' t3,← e3];exact hp)
 ·rename_i hw
  cases h
  refine⟨[],rfl,fun c2 t'' n2 ⟨t3,e3⟩=>?_⟩
  have:isW [105,109,112,108,101,109,101,110,116,115] ([]++(c2++t''))=isW [105,109,112,108,101,109,101,110,116,115] t:=by unfold isW;rw[e3,YN,yZ n2 t'' t3]
  rw[this,if_neg hw];rfl
theorem zd4 (k:Int):Cl (Ym k):=fun t a t' h=>by
 obtain⟨s,t1,h1,h2⟩:=zc h
 obtain⟨fs,t2,h3,h4⟩:=zc h2
 obtain⟨c1,n1,e1,k1⟩:=zw _ _ _ h1
 obtain⟨c2,e2,k2⟩:=zfS _ _ _ h3
 have g:Cl fun t=>pb (zG [123] t) fun _ t=>pb (ya [125] yw t) fun l t=>(.ok (⟨k,s,fs,l,[],[]⟩,t):PR DefD):=((z8 _).lk true).bindC fun _=>(Zv zeE).map
 obtain⟨c3,n3,e3,k3⟩:=g _ _ _ h4
 refine⟨c1++(c2++c3),by simp[n1],by rw[e1,e2,e3];simp,fun t''=>?_⟩
 unfold Ym
 rw[yn,yn,k1,zd,k2 c3 t'' n3 ⟨t',e3⟩,zd]
 exact k3 t''
theorem zge:Cl ZP:=(zw.lk true).bindC fun s=>((z8 _).lk true).bindC fun _=>(Zv (zfI.lk true)).map
theorem zeZ:Cl yU:=(zw.lk true).bindC fun s=>((z8 _).lk true).bindC fun _=>(Zv zbO).map
theorem zeX:Bk [124] yK:=fun t a t' h=>by
 obtain⟨s,t1,h1,h2⟩:=zc h
 obtain⟨_,t2,h3,h4⟩:=zc h2
 obtain⟨l,t3,h5,h6⟩:=zc h4
 cases h6
 obtain⟨c1,n1,e1,k1⟩:=zw _ _ _ h1
 obtain⟨c2,n2,e2,k2⟩:=z8 _ _ _ _ h3
 obtain⟨c3,n3,e3,k3⟩:=zbT _ _ _ _ h5
 refine⟨c1++(c2++c3),by simp[n1],by rw[e1,e2,e3];simp,fun t'' ht=>?_⟩
 unfold yK
 rw[yn,yn,k1,zd,k2,zd,k3 _ ht,zd]
theorem zgc (d:SR):Cl (ZQ d):=((z8 _).lk true).bindC fun _=>(Lk.iteW (one:=false) (f:=fun t=>.ok ((),t)) (g:=fun _=>.error 2) (Lk.ret _) (Lk.error _)).bindC fun _=>((z8 _).lk true).bindC fun _ =>
 (zw.lk true).bindC fun q=>(Lk.iteW (one:=false) (f:=fun t=>pb (zG [58] t) fun _ t=>zv t) ((((z8 _).lk true).bindC fun _=>zw).lk false) (Lk.ret _)).bindC fun m=>(z8 _).map
theorem YJ {d:SR} {f:TS→PR DefD} (hf:Bk [124] f) {t:TS} {d':SR} {t':TS} (h:pb (f t) (fun x t=>.ok (yj d x,t))=.ok (d',t')):∃ c,c≠[]∧t=c++t'∧∀ t'',isP [124] t''=false→pb (f (c++t'')) (fun x t=>.ok (yj d x,t))=.ok (d',t''):=by
 obtain⟨x,t1,h1,h2⟩:=zc h
 cases h2
 obtain⟨c,n,e,k⟩:=hf _ _ _ h1
 exact⟨c,n,e,fun t'' ht=>by rw[k t'' ht,zd]⟩
theorem zeq (d:SR):Bk [124] (yD d):=fun t a t' h=>by
 have hw:∀ w c t'',isW w (hdT t::c++t'')=isW w t:=fun w c t''=>rfl
 have tl:∀ w c,isW w t=true→t.tail=c++t'→t=hdT t::c++t':=fun w c h1 h2=>by rw[Al6,← h2];exact zS (Y4 h1)
 unfold yD at h
 split at h
 ·rename_i c0
  obtain⟨c,n,e,k⟩:=zgc d _ _ _ h
  refine⟨hdT t::c,by simp,tl _ c c0.2 e,fun t'' ht=>?_⟩
  unfold yD
  rw[hw,if_pos c0];exact k t''
 rename_i c0
 split at h
 ·rename_i c1
  obtain⟨c,n,e,k⟩:=YJ ((zd4 1).bk _) h
  refine⟨hdT t::c,by simp,tl _ c c1 e,fun t'' ht=>?_⟩
  unfold yD
  rw[hw,if_neg c0,hw,if_pos c1];exact k t'' ht
 rename_i c1
 split at h
 ·rename_i c2
  obtain⟨c,n,e,k⟩:=YJ ((zd4 2).bk _) h
  refine⟨hdT t::c,by simp,tl _ c c2 e,fun t'' ht=>?_⟩
  unfold yD
  rw[hw,if_neg c0,hw,if_neg c1,hw,if_pos c2];exact k t'' ht
 rename_i c2
 split at h
 ·rename_i c3
  obtain⟨c,n,e,k⟩:=YJ zeX h
  refine⟨hdT t::c,by simp,tl _ c c3 e,fun t'' ht=>?_⟩
  unfold yD
  rw[hw,if_neg c0,hw,if_neg c1,hw,if_neg c2,hw,if_pos c3];exact k t'' ht
 rename_i c3
 split at h
 ·rename_i c4
  obtain⟨c,n,e,k⟩:=YJ (zge.bk _) h
  refine⟨hdT t::c,by simp,tl _ c c4 e,fun t'' ht=>?_⟩
  unfold yD
  rw[hw,if_neg c0,hw,if_neg c1,hw,if_neg c2,hw,if_neg c3,hw,if_pos c4];exact k t'' ht
 rename_i c4
 split at h
 ·rename_i c5
  obtain⟨c,n,e,k⟩:=YJ (zeZ.bk _) h
  refine⟨hdT t::c,by simp,tl _ c c5 e,fun t'' ht=>?_⟩
  unfold yD
  rw[hw,if_neg c0,hw,if_neg c1,hw,if_neg c2,hw,if_neg c3,hw,if_neg c4,hw,if_pos c5];exact k t'' ht
 ·cases h
theorem YY (d:SR):Bk [124] (zn d):=fun t a t' h=>by
 unfold zn at h
 by_cases hq:(hdT t).k=5
 ·have e0:zg t=t.tail:=by unfold zg;rw[if_pos hq]
  rw[e0] at h
  obtain⟨c,n,e,k⟩:=zeq d _ _ _ h
  refine⟨hdT t::c,by simp,by rw[Al6,← e];exact zS (by omega),fun t'' ht=>?_⟩
  have e1:zg (hdT t::c++t'')=c++t'':=by unfold zg;rw[if_pos (by exact hq)];rfl
  unfold zn
  rw[e1];exact k t'' ht
 ·have e0:zg t=t:=by unfold zg;rw[if_neg hq]
  rw[e0] at h
  obtain⟨c,n,e,k⟩:=zeq d _ _ _ h
  refine⟨c,n,e,fun t'' ht=>?_⟩
  have e1:zg (c++t'')=c++t'':=by unfold zg;rw[if_neg];rw[yZ n t'' t',← e];exact hq
  unfold zn
  rw[e1];exact k t'' ht
theorem za6 {d:SR} {t:TS} {d':SR} {t':TS} (h:zn d t=.ok (d',t')):isP [124] t=false∧t≠[]:=by
 have hk:(hdT t).k=5∨(hdT t).k=2:=by
  by_cases hq:(hdT t).k=5
  ·exact .inl hq
  ·right
   have e0:zg t=t:=by unfold zg;rw[if_neg hq]
   unfold zn at h
   rw[e0] at h
   have w2:∀ w,isW w t=true→(hdT t).k=2:=fun w hw=>by simp only[isW,Al0,zm] at hw;exact hw.1
   unfold yD at h
   split at h
   ·rename_i c;exact w2 _ c.2
   split at h
   ·rename_i c;exact w2 _ c
   split at h
   ·rename_i c;exact w2 _ c
   split at h
   ·rename_i c;exact w2 _ c
   split at h
   ·rename_i c;exact w2 _ c
   split at h
   ·rename_i c;exact w2 _ c
   ·cases h
 refine⟨?_,fun e=>by subst e;revert hk;decide⟩
 simp only[isP]
 rcases hk with h|h<;>rw[h]<;>rfl
def Y7 (l:List DefD) (d:SR):SR:=⟨l++d.defs,d.q,d.m,d.told⟩
theorem zbF (l:List DefD) (d:SR) (t:TS):zn (Y7 l d) t=zeA (Y7 l) (zn d t):=by
 unfold zn zeA
 generalize zg t=u
 unfold yD
 have ht:(Y7 l d).told=d.told:=rfl
 rw[ht]
 split
 ·unfold ZQ
  simp only[zal,zd]
  rfl
 split
 ·rw[zal];simp only[zd,Y7,yj,yn]
 split
 ·rw[zal];simp only[zd,Y7,yj,yn]
 split
 ·rw[zal];simp only[zd,Y7,yj,yn]
 split
 ·rw[zal];simp only[zd,Y7,yj,yn]
 split
 ·rw[zal];simp only[zd,Y7,yj,yn]
 ·rfl
theorem za0 (l:List DefD):∀(n:Nat) (d:SR) (t:TS),zI n (Y7 l d) t=zeA (Y7 l) (zI n d t)
 | 0,_,_=>rfl
 | n+1,d,t=>by
  simp only[zI]
  split
  ·rfl
  ·rw[zbF]
   unfold zeA
   rw[zal,zal]
   congr 1
   funext d' t'
   rw[zd]
   exact za0 l n d' t'
theorem Z4:∀(n k:Nat) (d:SR) (t:TS),t.length<n→t.length<k→zI n d t=zI k d t
 | 0,_,_,_,h,_=>by omega
 | _,0,_,_,_,h=>by omega
 | n+1,k+1,d,t,h1,h2=>by
  simp only[zI]
  split
  ·rfl
  ·cases hx:zn d t with
   | error e=>rfl
   | ok x =>
    obtain⟨c,nc,e,_⟩:=YY d _ x.1 x.2 hx
    have l1:0<c.length:=List.length_pos_iff.2 nc
    have:=congrArg List.length e
    simp only[Al5] at this
    exact Z4 n k _ _ (by omega) (by omega)
theorem zai {n:Nat} {d:SR} {t:TS} {d':SR} {t':TS} (h:zI n d t=.ok (d',t')) {u:TS} (hu:isP [124] u=false):isP [124] (t++u)=false:=by
 by_cases ht:t=[]
 ·subst ht;exact hu
 ·cases n with
  | zero=>cases h
  | succ n =>
   simp only[zI] at h
   rw[if_neg ht] at h
   obtain⟨d1,t1,h1,h2⟩:=zc h
   have:=(za6 h1).1
   cases t with
   | nil=>exact absurd rfl ht
   | cons x t=>exact this
theorem zaD (u:TS) (hu:isP [124] u=false):∀(n:Nat) (d:SR) (t:TS) (d':SR),zI n d t=.ok (d',[])→∀ k,t.length+u.length<k→zI k d (t++u)=zI (u.length+1) d' u
 | 0,_,_,_,h=>by cases h
 | n+1,d,t,d',h=>fun k hk=>by
  simp only[zI] at h
  split at h
  ·rename_i ht
   cases h
   rw[YN]
   exact Z4 _ _ _ _ (by simpa using hk) (by omega)
  ·rename_i ht
   obtain⟨d1,t1,h1,h2⟩:=zc h
   obtain⟨c,nc,e,kc⟩:=YY d _ _ _ h1
   have l1:0<c.length:=List.length_pos_iff.2 nc
   have:=congrArg List.length e
   simp only[Al5] at this
   obtain⟨j,rfl⟩:∃ j,k=j+1:=⟨k-1,by omega⟩
   rw[zI,if_neg (by simp[ht]),e,yn,kc _ (zai h2 hu),zd]
   exact zaD u hu n _ _ _ h2 j (by omega)
def NoS (t:TS):Prop:=∀ x∈t,x≠⟨2,[115,99,104,101,109,97]⟩
theorem NoS.suf {t t':TS} (h:NoS t) (hs:t' <:+ t):NoS t':=fun x hx=>h x (hs.subset hx)
theorem zbG {d:SR} {t:TS} {d':SR} {t':TS} (hn:NoS t) (h:zn d t=.ok (d',t')):NoS t'∧d'.told=d.told∧d'.q=d.q∧d'.m=d.m:=by
 have hf:=Yc h
 refine⟨hn.suf hf.suf,?_⟩
 unfold zn at h
 have hs:=hn.suf (y1 t).1
 generalize zg t=u at h hs
 have put:∀ {f:TS→PR DefD},pb (f u.tail) (fun x t=>(.ok (yj d x,t):PR SR))=.ok (d',t')→d'.told=d.told∧d'.q=d.q∧d'.m=d.m:=fun {f} h=>by
  obtain⟨x,t1,h1,h2⟩:=zc h
  cases h2
  exact⟨rfl,rfl,rfl⟩
 unfold yD at h
 split at h
 ·rename_i c
  exfalso
  have hw:=c.2
  have hm:hdT u∈u:=by
   cases u with
   | nil=>exact absurd rfl (Y4 hw)
   | cons x u=>exact .head _
  simp only[isW,Al0,zm] at hw
  exact hs _ hm (by cases hx:hdT u;rw[hx] at hw;simp only at hw;simp[hw.1,hw.2])
 split at h
 ·exact put h
 split at h
 ·exact put h
 split at h
 ·exact put h
 split at h
 ·exact put h
 split at h
 ·exact put h
 ·cases h
theorem zbg:∀(n:Nat) (d:SR) (t:TS) (d':SR) (t':TS),NoS t→zI n d t=.ok (d',t')→d'.told=d.told∧d'.q=d.q∧d'.m=d.m
 | 0,_,_,_,_,_,h=>by cases h
 | n+1,d,t,d',t',hn,h=>by
  simp only[zI] at h
  split at h
  ·cases h;exact⟨rfl,rfl,rfl⟩
  ·obtain⟨d1,t1,h1,h2⟩:=zc h
   obtain⟨g1,g2,g3,g4⟩:=zbG hn h1
   obtain⟨e1,e2,e3⟩:=zbg n _ _ _ _ g1 h2
   exact⟨e1.trans g2,e2.trans g3,e3.trans g4⟩
theorem zaP {t:TS} {d:SR} {t':TS} (hn:NoS t) (h:ZU t=.ok (d,t')):d=Y7 d.defs sr0:=by
 obtain⟨d1,t1,h1,h2⟩:=zc h
 obtain⟨g1,g2,g3,g4⟩:=zbG hn h1
 obtain⟨e1,e2,e3⟩:=zbg _ _ _ _ _ g1 h2
 obtain⟨ds,q,m,told⟩:=d
 simp only at e1 e2 e3
 simp only[Y7,sr0,List.append_nil,SR.mk.injEq,true_and]
 exact⟨e2.trans g3,e3.trans g4,e1.trans g2⟩
theorem zfc {a b:TS} {x y:SR} {ta tb:TS} (na:NoS a) (nb:NoS b) (h1:ZU a=.ok (x,ta)) (h2:ZU b=.ok (y,tb)):ZU (a++b)=.ok (⟨x.defs++y.defs,[],[],false⟩,[]):=by
 obtain⟨rfl,_⟩:=YX h1
 obtain⟨rfl,_⟩:=YX h2
 have ex:=zaP na h1
 have ey:=zaP nb h2
 unfold ZU at h1 h2 ⊢
 obtain⟨d1,t1,g1,g2⟩:=zc h1
 obtain⟨d2,t2,g3,g4⟩:=zc h2
 obtain⟨c1,n1,e1,k1⟩:=YY _ _ _ _ g1
 obtain⟨c2,n2,e2,k2⟩:=YY _ _ _ _ g3
 have hb:=za6 g3
 have l2:0<c2.length:=List.length_pos_iff.2 n2
 have hl:=congrArg List.length e2
 simp only[Al5] at hl
 rw[e1,yn,k1 _ (zai g2 hb.1),zd,zaD b hb.1 _ _ _ _ g2 _ (by simp),zI,if_neg hb.2]
 rw[ex,zbF,g3]
 unfold zeA
 simp only[zd]
 rw[za0,Z4 b.length (t2.length+1) d2 t2 (by omega) (by omega),g4]
 unfold zeA
 rw[zd,ey]
 simp[Y7,sr0]
theorem zgk {s:List UInt8} {L:List Tok} {n:Int} (h:zZ s=.ok L) (he:ZU L=.error n):n≠0:=zei _ _ he
theorem zd7 {s:List UInt8} {L:List Tok} {d:SR} {t:TS} (h:zZ s=.ok L) (h2:ZU L=.ok (d,t)):Zr s=(YE d,0):=by unfold Zr;rw[h];simp only[h2]
theorem YH (s:List UInt8):((Zr s).2≠0∧(Zr s).1=⟨[],[],[]⟩)∨∃ L d,zZ s=.ok L∧ZU L=.ok (d,[])∧Zr s=(YE d,0):=by
 cases h:zZ s with
 | error n=>left;unfold Zr;rw[h];exact⟨zab h,rfl⟩
 | ok L =>
  cases h2:ZU L with
  | error n=>left;unfold Zr;rw[h];simp only[h2];exact⟨zgk h h2,trivial⟩
  | ok x =>
   obtain⟨d,t⟩:=x
   obtain rfl:=(YX h2).1
   exact .inr ⟨L,d,rfl,h2,zd7 h h2⟩
theorem zhk (d:SR):zeU (YE d)≤bSR d+13:=by
 unfold YE
 split
 ·simp only[zeU,bSR];omega
 ·simp only[zeU,bSR]
  split<;>simp<;>omega
theorem zgd (s:List UInt8):zeU (Zr s).1≤zq+13∧zhQ (Zr s).1:=by
 rcases YH s with ⟨_,h⟩|⟨L,d,h1,h2,h3⟩
 ·rw[h];exact⟨by simp[zeU,bEs],fun x hx=>nomatch hx⟩
 ·rw[h3]
  have h4:=YX h2
  have hw:=zcd h1
  have hf:=zhk d
  refine⟨by simp only;omega,?_⟩
  have:=h4.2.2
  unfold YE
  split<;>exact this
def zie:List UInt8:=[117,110,105,111,110,32,85,32,61,32,65,32,124,32,66]
def zic:List UInt8:=[115,99,97,108,97,114,32,88]
theorem zh9:Zr zie=(⟨[⟨3,[85],[],[],[[65],[66]],[]⟩],[81,117,101,114,121],[]⟩,0):=by kernel_rfl
theorem zia:Zr zic=(⟨[],[],[]⟩,2):=by kernel_rfl
theorem ZK:Pure Tryz.prog 16 [] (.bool true):=by
 refine Pure.go ir16 ck16 (Al4 _) fun KP Q hQ=>?_
 have h1:=ZZ zie (by decide)
 have h2:=ZZ zic (by decide)
 rw[zh9] at h1
 rw[zia] at h2
 have ed:zcT ⟨[⟨3,[85],[],[],[[65],[66]],[]⟩],[81,117,101,114,121],[]⟩=[.sl .no 6 [[.int .i64 3,.str [85],.sl .no 1 [],.sl .no 6 [],.sl .no 1 [[.str [65]],[.str [66]]],.sl .no 10 []]],.str [81,117,101,114,121],.str []]:=rfl
 have ez:zcT ⟨[],[],[]⟩=[.sl .no 6 [],.str [],.str []]:=rfl
 simp(disch:=first|omega|assumption) only[ir16,go_sem]
 refine goK_pure (h1:Pure Tryz.prog 17 [.str _] _) ?_
 simp(disch:=first|omega|assumption) only[ed,go_sem]
 refine goA_intro fun b1 hb1=>?_
 simp(disch:=first|omega|assumption) only[go_sem]
 refine goK_pure (h2:Pure Tryz.prog 17 [.str _] _) ?_
 simp(disch:=first|omega|assumption) only[ez,go_sem]
 refine goA_intro fun b2 hb2=>?_
 have h21:b2≠b1:=fun e=>by subst e;rw[upd_same] at hb2;cases hb2
 simp(disch:=first|omega|assumption) only[Ne.symm h21,h21,Al2,Al3,List.getD_cons_zero,List.getD_cons_succ,go_sem]
 exact hQ _ _ _ _ nofun rfl (by simp[tupOf,envOf,AV.strip,AV.strip1])
def zbp (x:Tok):Bool:=decide (x.k=2)&&decide (x.s=[115,99,104,101,109,97])
def zak (s:List UInt8):Bool:=match zZ s with
 | .ok L=>L.any zbp
 | .error _=>false
theorem zef (s:List UInt8) (hs:s.length≤yX):Pure Tryz.prog 20 [.str s] (.bool (zak s)):=by
 refine Pure.go ir20 ck20 (Al4 _) fun KP Q hQ=>?_
 obtain⟨L,e,hq,hr,hl⟩:∃ L e,readA (zZ s)=.tup [.sl .no 2 (cKs L),.int .i64 e]∧zak s=L.any zbp∧L.length≤zq:=by
  cases h:zZ s with
  | error n=>exact⟨[],n,rfl,by unfold zak;rw[h];rfl,Nat.zero_le _⟩
  | ok L=>exact⟨L,0,rfl,by unfold zak;rw[h],Z2 (zcd h)⟩
 have ht:=zfn s hs
 rw[hq] at ht
 rw[hr] at hQ
 simp only[zq] at hl
 have hcl:=zas L
 simp(disch:=first|omega|assumption) only[ir20,go_sem]
 refine goK_pure ht ?_
 simp(disch:=first|omega|assumption) only[go_sem]
 refine goL_st (fun i:Nat=>[(5,.int .i64 (i:Int))]) (fun i H=>L.any zbp=(L.drop i).any zbp∧i≤L.length) (fun i=>L.length-i) 0 (by simp(disch:=first|omega|assumption) only[go_sem]) ⟨by simp,Nat.zero_le _⟩ ?_
 rintro i H J ⟨hn,hi⟩ hJ
 by_cases hlt:i<L.length
 case neg =>
  have hlt':¬ ((i:Int)<(L.length:Int)):=by omega
  rw[List.drop_of_length_le (by omega)] at hn
  simp(disch:=first|omega|assumption) only[hcl,hlt',go_sem]
  exact hQ _ _ _ _ nofun rfl (by simp[tupOf,envOf,AV.strip,AV.strip1,hn])
 have hlt':((i:Int)<(L.length:Int))=True:=eq_true (by omega)
 obtain⟨x,hx⟩:∃ x,L[i]?=some x:=⟨_,Al9 hlt⟩
 have hg:(cKs L).getD i []=[.int .i64 x.k,.str x.s]:=by simp[cKs,List.getD,hx,cK]
 have hd:L.drop i=x::L.drop (i+1):=by rw[List.drop_eq_getElem_cons hlt];rw[Al9 hlt] at hx;cases hx;rfl
 rw[hd,List.any_cons] at hn
 by_cases hk:x.k=2
 ·have hk':=eq_true hk
  by_cases hsx:x.s=[115,99,104,101,109,97]
  ·have hsx':=eq_true hsx
   have e:zbp x=true:=by simp[zbp,hk,hsx]
   rw[e,Bool.true_or] at hn
   simp(disch:=first|omega|assumption) only[hcl,hlt',hg,hk',hsx',go_sem]
   exact hQ _ _ _ _ nofun rfl (by simp[tupOf,envOf,AV.strip,AV.strip1,hn])
  ·have e:zbp x=false:=by simp[zbp,hsx]
   rw[e,Bool.false_or] at hn
   simp(disch:=first|omega|assumption) only[hcl,hlt',hg,hk',hsx,go_sem]
   exact goJ (hJ (i+1) _ (by omega) ⟨hn,hlt⟩) (by simp(disch:=first|omega|assumption) only[wrap64,Int.natCast_add,hcl,go_sem])
 ·have e:zbp x=false:=by simp[zbp,hk]
  rw[e,Bool.false_or] at hn
  simp(disch:=first|omega|assumption) only[hcl,hlt',hg,hk,go_sem]
  exact goJ (hJ (i+1) _ (by omega) ⟨hn,hlt⟩) (by simp(disch:=first|omega|assumption) only[wrap64,Int.natCast_add,hcl,go_sem])
theorem zdc {s:List UInt8} {L:List Tok} (h:zZ s=.ok L) (hb:zak s=false):NoS L:=fun x hx e=>by
 unfold zak at hb
 rw[h] at hb
 have:=List.any_eq_false.1 hb x hx
 subst e
 exact this rfl
theorem zd3 {L:TS} {d:SR} {t:TS} (hn:NoS L) (h:ZU L=.ok (d,t)):YE d=⟨d.defs,[81,117,101,114,121],yT d.defs⟩:=by
 have e:=zaP hn h
 have:d.told=false:=by rw[e];rfl
 simp[YE,this,yT]
theorem zf1 (a b:List DefD):decide (yT (a++b)=[77,117,116,97,116,105,111,110])=(decide (yT a=[77,117,116,97,116,105,111,110])||decide (yT b=[77,117,116,97,116,105,111,110])):=by
 unfold yT
 rw[List.any_append]
 have hne:¬ (([]:List UInt8)=[77,117,116,97,116,105,111,110]):=nofun
 cases a.any (fun x=>decide (x.nm=[77,117,116,97,116,105,111,110]))<;>cases b.any (fun x=>decide (x.nm=[77,117,116,97,116,105,111,110]))<;>simp
set_option maxHeartbeats 1000000 in
theorem ze7 (s t:List UInt8) (hs:s.length≤yX) (ht:t.length≤yX):Pure Tryz.prog 5 [.str s,.str t] (.bool true):=by
 refine Pure.go ir5 ck5 (Al4 _) fun KP Q hQ=>?_
 by_cases h1:(4000:Int)<(s.length:Int)
 ·simp(disch:=first|omega|assumption) only[ir5,h1,go_sem]
  refine goK_pure ZK ?_
  simp(disch:=first|omega|assumption) only[go_sem]
  exact hQ _ _ _ _ nofun rfl (by simp[tupOf,envOf,AV.strip,AV.strip1])
 by_cases h2:(4000:Int)<(t.length:Int)
 ·simp(disch:=first|omega|assumption) only[ir5,h1,h2,go_sem]
  refine goK_pure ZK ?_
  simp(disch:=first|omega|assumption) only[go_sem]
  exact hQ _ _ _ _ nofun rfl (by simp[tupOf,envOf,AV.strip,AV.strip1])
 simp(disch:=first|omega|assumption) only[ir5,h1,h2,go_sem]
 refine goK_pure (ZZ s hs) ?_
 simp(disch:=first|omega|assumption) only[zcT,go_sem]
 refine goA_intro fun b1 hb1=>?_
 simp(disch:=first|omega|assumption) only[go_sem]
 refine goK_pure (ZZ t ht) ?_
 simp(disch:=first|omega|assumption) only[zcT,go_sem]
 refine goA_intro fun b2 hb2=>?_
 have h21:b2≠b1:=fun e=>by subst e;rw[upd_same] at hb2;cases hb2
 rcases YH s with ⟨hn,_⟩|⟨A,a,hA,hDa,hda⟩
 ·simp(disch:=first|omega|assumption) only[hn,go_sem]
  refine goK_pure ZK ?_
  simp(disch:=first|omega|assumption) only[go_sem]
  exact hQ _ _ _ _ nofun rfl (by simp[tupOf,envOf,AV.strip,AV.strip1])
 have hs0:(Zr s).2=0:=by rw[hda]
 rcases YH t with ⟨hn,_⟩|⟨B,b,hB,hDb,hdb⟩
 ·simp(disch:=first|omega|assumption) only[hs0,hn,go_sem]
  refine goK_pure ZK ?_
  simp(disch:=first|omega|assumption) only[go_sem]
  exact hQ _ _ _ _ nofun rfl (by simp[tupOf,envOf,AV.strip,AV.strip1])
 have ht0:(Zr t).2=0:=by rw[hdb]
 simp(disch:=first|omega|assumption) only[hs0,ht0,go_sem]
 refine goK_pure (zef s hs) ?_
 cases hra:zak s with
 | true =>
  simp(disch:=first|omega|assumption) only[go_sem]
  refine goK_pure ZK ?_
  simp(disch:=first|omega|assumption) only[go_sem]
  exact hQ _ _ _ _ nofun rfl (by simp[tupOf,envOf,AV.strip,AV.strip1])
 | false =>
 simp(disch:=first|omega|assumption) only[go_sem]
 refine goK_pure (zef t ht) ?_
 cases hrb:zak t with
 | true =>
  simp(disch:=first|omega|assumption) only[go_sem]
  refine goK_pure ZK ?_
  simp(disch:=first|omega|assumption) only[go_sem]
  exact hQ _ _ _ _ nofun rfl (by simp[tupOf,envOf,AV.strip,AV.strip1])
 | false =>
 have nA:=zdc hA hra
 have nB:=zdc hB hrb
 have hAB:=zeL hA hB (by omega)
 have hD:=zfc nA nB hDa hDb
 have hd:=zd7 hAB hD
 have ea:=zd3 nA hDa
 have eb:=zd3 nB hDb
 have ec:YE ⟨a.defs++b.defs,[],[],false⟩=⟨a.defs++b.defs,[81,117,101,114,121],yT (a.defs++b.defs)⟩:=by simp[YE,yT]
 rw[ec] at hd
 rw[ea] at hda
 rw[eb] at hdb
 have hba:=(zgd s).1
 have hbb:=(zgd t).1
 rw[hda] at hba
 rw[hdb] at hbb
 simp only[zq,zeU] at hba hbb
 have hla:=zdY a.defs
 have hlb:=zdY b.defs
 have hca:=YK a.defs
 have hcb:=YK b.defs
 have hcc:(cEs (a.defs++b.defs)).length=a.defs.length+b.defs.length:=by rw[YK];simp
 have hst:s++[10]++t=s++10::t:=by simp
 have hbn:((s++[10]).length+t.length≤9223372036854775807)=True:=eq_true (by simp only[Al5,List.length_singleton];omega)
 have hbn1:(s.length+([10]:List UInt8).length≤9223372036854775807)=True:=eq_true (by simp only[List.length_singleton];omega)
 have hp3:=ZZ (s++10::t) (by simp only[yX,Al5,Al2];omega)
 rw[hd,← hst] at hp3
 simp only[zcT] at hp3
 rw[hda,hdb]
 simp(disch:=first|omega|assumption) only[hbn,hbn1,go_sem]
 refine goK_pure hp3 ?_
 simp(disch:=first|omega|assumption) only[go_sem]
 refine goA_intro fun b3 hb3=>?_
 have h31:b3≠b1:=fun e=>by subst e;rw[upd_ne (Ne.symm h21),upd_same] at hb3;cases hb3
 have h32:b3≠b2:=fun e=>by subst e;rw[upd_same] at hb3;cases hb3
 have hwl:IntKind.wrap .i64 ((a.defs.length:Int)+(b.defs.length:Int))=((a.defs.length+b.defs.length:Nat):Int):=by rw[wrap64 (by omega) (by omega)];omega
 obtain⟨H0,hH0⟩:∃ H0,H0=((Heap.emp.upd b1 (.cells [.sl .no 6 (cEs a.defs),.str [81,117,101,114,121],.str (yT a.defs)])).upd b2 (.cells [.sl .no 6 (cEs b.defs),.str [81,117,101,114,121],.str (yT b.defs)])).upd b3 (.cells [.sl .no 6 (cEs (a.defs++b.defs)),.str [81,117,101,114,121],.str (yT (a.defs++b.defs))]):=⟨_,rfl⟩
 have g1:H0 b1=some (.cells [.sl .no 6 (cEs a.defs),.str [81,117,101,114,121],.str (yT a.defs)]):=by rw[hH0,upd_ne (Ne.symm h31),upd_ne (Ne.symm h21),upd_same]
 have g2:H0 b2=some (.cells [.sl .no 6 (cEs b.defs),.str [81,117,101,114,121],.str (yT b.defs)]):=by rw[hH0,upd_ne (Ne.symm h32),upd_same]
 have g3:H0 b3=some (.cells [.sl .no 6 (cEs (a.defs++b.defs)),.str [81,117,101,114,121],.str (yT (a.defs++b.defs))]):=by rw[hH0,upd_same]
 simp(disch:=first|omega|assumption) only[h31,h32,h21,Ne.symm h31,Ne.symm h32,Ne.symm h21,hca,hcb,hcc,hwl,go_sem]
 try rw[← hH0]
 clear hH0
 refine goL_st (fun i:Nat=>[(10,.int .i64 (i:Int))]) (fun i H'=>H'=H0∧i≤a.defs.length+b.defs.length) (fun i=>a.defs.length+b.defs.length-i) 0 (by simp(disch:=first|omega|assumption) only[go_sem]) ⟨rfl,Nat.zero_le _⟩ ?_
 rintro i H' J ⟨hH',hi⟩ hJ
 subst hH'
 by_cases hlt:i<a.defs.length+b.defs.length
 case neg =>
  have hlt':¬ ((i:Int)<((a.defs.length+b.defs.length:Nat):Int)):=by omega
  have hm:=zf1 a.defs b.defs
  by_cases ma:yT a.defs=[77,117,116,97,116,105,111,110]
  ·have mc:yT (a.defs++b.defs)=[77,117,116,97,116,105,111,110]:=by rw[ma] at hm;simpa using hm
   have ma':=eq_true ma
   have mc':=eq_true mc
   simp(disch:=first|omega|assumption) only[g1,g2,g3,hcc,hlt',ma',mc',go_sem]
   refine goK_pure ZK ?_
   simp(disch:=first|omega|assumption) only[go_sem]
   exact hQ _ _ _ _ nofun rfl (by simp[tupOf,envOf,AV.strip,AV.strip1])
  by_cases mb:yT b.defs=[77,117,116,97,116,105,111,110]
  ·have mc:yT (a.defs++b.defs)=[77,117,116,97,116,105,111,110]:=by rw[mb] at hm;simpa using hm
   have mb':=eq_true mb
   have mc':=eq_true mc
   simp(disch:=first|omega|assumption) only[g1,g2,g3,hcc,hlt',ma,mb',mc',go_sem]
   refine goK_pure ZK ?_
   simp(disch:=first|omega|assumption) only[go_sem]
   exact hQ _ _ _ _ nofun rfl (by simp[tupOf,envOf,AV.strip,AV.strip1])
  ·have mc:¬ (yT (a.defs++b.defs)=[77,117,116,97,116,105,111,110]):=fun h=>by rw[h] at hm;simp[ma,mb] at hm
   simp(disch:=first|omega|assumption) only[g1,g2,g3,hcc,hlt',ma,mb,mc,go_sem]
   refine goK_pure ZK ?_
   simp(disch:=first|omega|assumption) only[go_sem]
   exact hQ _ _ _ _ nofun rfl (by simp[tupOf,envOf,AV.strip,AV.strip1])
 have hlt':((i:Int)<((a.defs.length+b.defs.length:Nat):Int))=True:=eq_true (by omega)
 have hE:bEs (a.defs++b.defs)=bEs a.defs+bEs b.defs:=by simp[bEs]
 by_cases hia:i<a.defs.length
 ·have hia':((i:Int)<(a.defs.length:Int))=True:=eq_true (by omega)
  have hia2:¬ ((a.defs.length:Int)≤(i:Int)):=by omega
  obtain⟨x,hx⟩:∃ x,a.defs[i]?=some x:=⟨_,Al9 hia⟩
  have hx2:(a.defs++b.defs)[i]?=some x:=by rw[ZX hia];exact hx
  have hgc:(cEs (a.defs++b.defs)).getD i []=cE x:=by unfold cEs;rw[List.getD,yg,hx2];rfl
  have hga:(cEs a.defs).getD i []=cE x:=by simp[cEs,List.getD,hx]
  have hbx:bE x≤bEs a.defs:=by
   obtain⟨p,q,e⟩:=List.append_of_mem (List.mem_of_getElem? hx)
   rw[e,zdW];omega
  simp(disch:=first|omega|assumption) only[g1,g2,g3,hca,hcb,hcc,hlt',hia',hgc,hga,yR,yt,go_sem]
  refine goK_pure (zhP x (by simp only[Lim];omega)) ?_
  simp(disch:=first|omega|assumption) only[g1,g2,g3,hca,hcb,hcc,hia2,wrap64,go_sem]
  exact goJ (hJ (i+1) _ (by omega) ⟨rfl,hlt⟩) (by simp(disch:=first|omega|assumption) only[Int.natCast_add,go_sem])
 ·have hia':¬ ((i:Int)<(a.defs.length:Int)):=by omega
  have hia2:((a.defs.length:Int)≤(i:Int))=True:=eq_true (by omega)
  obtain⟨j,rfl⟩:∃ j,i=a.defs.length+j:=⟨i-a.defs.length,by omega⟩
  have hjb:j<b.defs.length:=by omega
  have hjb':((j:Int)<(b.defs.length:Int))=True:=eq_true (by omega)
  have hj0:IntKind.wrap .i64 (((a.defs.length+j:Nat):Int)-(a.defs.length:Int))=(j:Int):=by rw[wrap64 (by omega) (by omega)];omega
  obtain⟨x,hx⟩:∃ x,b.defs[j]?=some x:=⟨_,Al9 hjb⟩
  have hx2:(a.defs++b.defs)[a.defs.length+j]?=some x:=by rw[YP (by omega),Nat.add_sub_cancel_left];exact hx
  have hgc:(cEs (a.defs++b.defs)).getD (a.defs.length+j) []=cE x:=by unfold cEs;rw[List.getD,yg,hx2];rfl
  have hgb:(cEs b.defs).getD j []=cE x:=by simp[cEs,List.getD,hx]
  have hbx:bE x≤bEs b.defs:=by
   obtain⟨p,q,e⟩:=List.append_of_mem (List.mem_of_getElem? hx)
   rw[e,zdW];omega
  simp(disch:=first|omega|assumption) only[g1,g2,g3,hca,hcb,hcc,hlt',hia',hia2,hj0,hjb',hgc,hgb,yR,yt,go_sem]
  refine goK_pure (zhP x (by simp only[Lim];omega)) ?_
  simp(disch:=first|omega|assumption) only[g1,g2,g3,hca,hcb,hcc,wrap64,go_sem]
  exact goJ (hJ (a.defs.length+j+1) _ (by omega) ⟨rfl,hlt⟩) (by simp(disch:=first|omega|assumption) only[Int.natCast_add,go_sem])
end Go.Proofs.YtaielcdfcgpbiaaGreatDoor
