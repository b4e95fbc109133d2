import Derived.Test.YtaielcdfcgpbiaaGreatDoorRows
import Derived.Test.YtaielcdfcgpbiaaGreatDoorM1
import Derived.Test.YtaielcdfcgpbiaaGreatDoorM2
import Derived.Test.YtaielcdfcgpbiaaGreatDoorM3
import Derived.Test.YtaielcdfcgpbiaaGreatDoorM4
import Derived.Test.YtaielcdfcgpbiaaGreatDoorM5
import Derived.Test.YtaielcdfcgpbiaaGreatDoorM6
import Derived.Test.YtaielcdfcgpbiaaGreatDoorM7
import Derived.Test.YtaielcdfcgpbiaaGreatDoorM8
set_option maxRecDepth 100000
set_option linter.all false
namespace Go.Proofs.YtaielcdfcgpbiaaGreatDoor
open Go.Ab Go.Lib
theorem zkQ (c:UInt8):Pure Tryz.prog 121 [.int .u8 (c.toNat:Int)] (.bool (z8 c)):=by
 refine Pure.go ir121 ck121 (Al4 _) fun KP Q hQ=>?_
 by_cases h10:c=10
 ·subst h10
  have hc:((10:UInt8).toNat:Int)=10:=rfl
  simp(disch:=omega) only[ir121,hc,go_sem]
  exact hQ _ _ _ _ nofun rfl (by simp[tupOf,envOf,AV.strip,AV.strip1,z8])
 have g10:¬ ((c.toNat:Int)=10):=fun e=>h10 (UInt8.toNat_inj.1 (by show c.toNat=10;omega))
 by_cases h13:c=13
 ·subst h13
  have hc:((13:UInt8).toNat:Int)=13:=rfl
  simp(disch:=omega) only[ir121,hc,go_sem]
  exact hQ _ _ _ _ nofun rfl (by simp[tupOf,envOf,AV.strip,AV.strip1,z8])
 have g13:¬ ((c.toNat:Int)=13):=fun e=>h13 (UInt8.toNat_inj.1 (by show c.toNat=13;omega))
 simp(disch:=omega) only[ir121,g10,g13,go_sem]
 exact hQ _ _ _ _ nofun rfl (by simp[tupOf,envOf,AV.strip,AV.strip1,z8,h10,h13])
theorem zcx (c:UInt8) (r:List UInt8):yp (c::r)=if zF.isPrefixOf (c::r) then (yH (r.length+1) [] (r.drop 2)).map fun x=>(⟨5,zK x.1⟩,x.2)
  else if c=34 then (Zc z8 r).map fun x=>(⟨5,x.1⟩,x.2)
  else if ZE.isPrefixOf (c::r) then some (⟨1,ZE⟩,r.drop 2)
  else if 0≤Lib.indexByte Z2 c then some (⟨1,[c]⟩,r)
  else if isL c then some (⟨2,(c::r).take (yi (c::r))⟩,(c::r).drop (yi (c::r)))
  else if (zL (c::r)).1=0 then none
  else if ((c::r).drop (zL (c::r)).1).head?.any fun d=>isL d||isD d||decide (d=46) then none
  else some (⟨(zL (c::r)).2,(c::r).take (zL (c::r)).1⟩,(c::r).drop (zL (c::r)).1):=rfl
def zfo (s:List UInt8):AV:=match yp s with
 | some (x,t)=>.tup [zw x,.int .i64 ((s.length-t.length:Nat):Int)]
 | none=>.tup [zw ⟨if s.head?=some 34 then 5 else 0,[]⟩,.int .i64 0]
theorem ZU {s t:List UInt8} {x:Tok} (h:yp s=some (x,t)):zfo s=.tup [zw x,.int .i64 ((s.length-t.length:Nat):Int)]:=by unfold zfo;rw[h]
theorem Y3 {s:List UInt8} (h:yp s=none):zfo s=.tup [zw ⟨if s.head?=some 34 then 5 else 0,[]⟩,.int .i64 0]:=by unfold zfo;rw[h]
theorem zmF (c:UInt8) (r:List UInt8) (hs:(c::r).length≤Zi):Pure Tryz.prog 60 [.str (c::r)] (zfo (c::r)):=by
 have hcl:(c::r).length=r.length+1:=rfl
 have hg0:(c::r).getD 0 0=c:=rfl
 have ht1:(c::r).take 1=[c]:=rfl
 have ed:(c::r).drop 3=r.drop 2:=rfl
 have hhd:(c::r).head?=some c:=rfl
 have hquo:=fun h34:c=34=>(by rw[h34];exact zjF 121 (by decide +kernel) z8 zkQ 34 r (by simpa[h34] using hs):Pure Tryz.prog 120 [.str (c::r),.clo 121 [] []] (zfD z8 r))
 have ot:=zcx c r
 have hpl3:zF.isPrefixOf (c::r)=true→c=34:=fun p1=>by
  simp only[zF,List.isPrefixOf,Al0,beq_iff_eq] at p1
  exact p1.1.symm
 generalize hsc:c::r=s at *
 refine Pure.go ir60 ck60 (Al4 _) fun KP Q hQ=>?_
 have hsq:=hs
 simp only[Zi] at hs
 have hsl:s.length≤Lim:=by simp only[Lim];omega
 have hl:((0:Int)<(s.length:Int))=True:=eq_true (by omega)
 have hl1:((1:Int)≤(s.length:Int))=True:=eq_true (by omega)
 simp(disch:=omega) only[ir60,go_sem]
 refine goA_intro fun b0 hb0=>?_
 simp(disch:=omega) only[hl,hg0,go_sem]
 refine goK_pure (YI s [34,34,34]) ?_
 by_cases p1:zF.isPrefixOf s=true
 ·have p1':([34,34,34]:List UInt8).isPrefixOf s=true:=p1
  have hl3:=yF _ _ p1
  simp only[zF,Al2,Al3] at hl3
  have h34:c=34:=hpl3 p1
  simp(disch:=omega) only[p1',go_sem]
  refine goK_pure (zjd s hl3 hsq) ?_
  have ef:yH (s.length-2) [] (r.drop 2)=yH (r.length+1) [] (r.drop 2):=Yg _ _ _ _ (by rw[zU];omega) (by rw[zU];omega)
  rw[ed,ef]
  have e1:yp s=(yH (r.length+1) [] (r.drop 2)).map fun x=>(⟨5,zK x.1⟩,x.2):=by
   rw[ot,if_pos p1]
  cases hx:yH (r.length+1) [] (r.drop 2) with
  | none =>
   rw[hx] at e1
   have e:=Y3 e1
   rw[if_pos (by rw[hhd,h34])] at e
   simp(disch:=omega) only[ziW,go_sem]
   exact hQ _ _ _ [.agg [.int .i64 5,.str []],.int .i64 0] nofun (by simp(disch:=omega) only[ir60,resvs,resv,go_sem]) (by simp[tupOf,AV.strip,AV.strip1,e,zw])
  | some x =>
   obtain⟨raw,t⟩:=x
   rw[hx] at e1
   have e:=ZU e1
   simp(disch:=omega) only[ziW,go_sem]
   exact hQ _ _ _ [.agg [.int .i64 5,.str (zK raw)],.int .i64 (((s.length-t.length:Nat)):Int)] nofun (by simp(disch:=omega) only[ir60,resvs,resv,go_sem]) (by simp[tupOf,AV.strip,AV.strip1,e,zw])
 have p1':([34,34,34]:List UInt8).isPrefixOf s=false:=Bool.eq_false_iff.2 p1
 by_cases c34:c=34
 ·have hc:(c.toNat:Int)=34:=by rw[c34];rfl
  simp(disch:=omega) only[p1',hc,go_sem]
  refine goK_pure (hquo c34) ?_
  have e1:yp s=(Zc z8 r).map fun x=>(⟨5,x.1⟩,x.2):=by
   rw[ot,if_neg p1,if_pos c34]
  cases hx:Zc z8 r with
  | none =>
   rw[hx] at e1
   have e:=Y3 e1
   rw[if_pos (by rw[hhd,c34])] at e
   simp(disch:=omega) only[zfD,hx,go_sem]
   exact hQ _ _ _ [.agg [.int .i64 5,.str []],.int .i64 0] nofun (by simp(disch:=omega) only[ir60,resvs,resv,go_sem]) (by simp[tupOf,AV.strip,AV.strip1,e,zw])
  | some x =>
   obtain⟨b,t⟩:=x
   rw[hx] at e1
   have e:=ZU e1
   rw[hcl] at e
   simp(disch:=omega) only[zfD,hx,go_sem]
   exact hQ _ _ _ [.agg [.int .i64 5,.str b],.int .i64 (((r.length+1-t.length:Nat)):Int)] nofun (by simp(disch:=omega) only[ir60,resvs,resv,go_sem]) (by simp[tupOf,AV.strip,AV.strip1,e,zw])
 have g34:¬ ((c.toNat:Int)=34):=fun e=>c34 (UInt8.toNat_inj.1 (by show c.toNat=34;omega))
 have hno:¬ (s.head?=some 34):=by rw[hhd];simpa using c34
 simp(disch:=omega) only[p1',g34,go_sem]
 refine goK_pure (YI s [46,46,46]) ?_
 by_cases p2:ZE.isPrefixOf s=true
 ·have p2':([46,46,46]:List UInt8).isPrefixOf s=true:=p2
  have hl3:=yF _ _ p2
  have hd3:ZE.length=3:=rfl
  rw[hd3] at hl3
  have e1:yp s=some (⟨1,ZE⟩,r.drop 2):=by
   rw[ot,if_neg p1,if_neg c34,if_pos p2]
  have e:=ZU e1
  have e2:s.length-(r.drop 2).length=3:=by rw[zU];omega
  rw[e2] at e
  have e3:ZE=[46,46,46]:=rfl
  simp(disch:=omega) only[p2',go_sem]
  exact hQ _ _ _ [.agg [.int .i64 1,.str [46,46,46]],.int .i64 3] nofun (by simp(disch:=omega) only[ir60,resvs,resv,go_sem]) (by simp[tupOf,AV.strip,AV.strip1,e,zw,e3])
 have p2':([46,46,46]:List UInt8).isPrefixOf s=false:=Bool.eq_false_iff.2 p2
 simp(disch:=omega) only[p2',go_sem]
 refine goK_pure (zdd Z2 c) ?_
 by_cases hm:0≤Lib.indexByte Z2 c
 ·have e1:yp s=some (⟨1,[c]⟩,r):=by
   rw[ot,if_neg p1,if_neg c34,if_neg p2,if_pos hm]
  have e:=ZU e1
  have e2:s.length-r.length=1:=by omega
  rw[e2] at e
  have e3:=ht1
  simp(disch:=omega) only[hm,hl1,e3,go_sem]
  exact hQ _ _ _ [.agg [.int .i64 1,.str [c]],.int .i64 1] nofun (by simp(disch:=omega) only[ir60,resvs,resv,go_sem]) (by simp[tupOf,AV.strip,AV.strip1,e,zw])
 simp(disch:=omega) only[hm,go_sem]
 refine goK_pure (zeQ c) ?_
 by_cases hL:isL c=true
 ·have e1:yp s=some (⟨2,s.take (yi s)⟩,s.drop (yi s)):=by
   rw[ot,if_neg p1,if_neg c34,if_neg p2,if_neg hm,if_pos hL]
  have e:=ZU e1
  have hwl:=zcd s
  have e2:s.length-(s.drop (yi s)).length=yi s:=by rw[zU];omega
  rw[e2] at e
  have h2:((yi s:Int)≤(s.length:Int))=True:=eq_true (by omega)
  simp(disch:=omega) only[hL,go_sem]
  refine goK_pure (zkX s hsl (by rw[hg0];exact hL)) ?_
  simp(disch:=omega) only[h2,go_sem]
  exact hQ _ _ _ [.agg [.int .i64 2,.str (s.take (yi s))],.int .i64 (yi s:Int)] nofun (by simp(disch:=omega) only[ir60,resvs,resv,go_sem]) (by simp[tupOf,AV.strip,AV.strip1,e,zw])
 have hL':isL c=false:=by simpa using hL
 simp(disch:=omega) only[hL',go_sem]
 refine goK_pure (zg8 s hsl) ?_
 have hnl:=zaE s
 have hn2:(zL s).1=0→(zL s).2=0:=fun h=>by
  unfold zL at h ⊢
  split at h
  ·rename_i h0;rw[if_pos h0]
  ·rename_i h0;simp only at h;omega
 have e0:yp s=if (zL s).1=0 then none
   else if (s.drop (zL s).1).head?.any fun d=>isL d||isD d||decide (d=46) then none
   else some (⟨(zL s).2,s.take (zL s).1⟩,s.drop (zL s).1):=by
  rw[ot,if_neg p1,if_neg c34,if_neg p2,if_neg hm,if_neg hL]
 generalize hnn:(zL s).1=n at *
 generalize hkk:(zL s).2=k at *
 have hnle:((n:Int)≤(s.length:Int))=True:=eq_true (by omega)
 have fin:(n≠0→yp s=some (⟨k,s.take n⟩,s.drop n))→zfo s=.tup [zw ⟨k,s.take n⟩,.int .i64 (n:Int)]:=fun h=>by
  by_cases hz:n=0
  ·rw[if_pos hz] at e0
   rw[Y3 e0,if_neg hno,hz,hn2 hz];rfl
  ·rw[ZU (h hz)]
   have e2:s.length-(s.drop n).length=n:=by rw[zU];omega
   rw[e2]
 have bad:(s.drop n).head?.any (fun d=>isL d||isD d||decide (d=46))=true→zfo s=.tup [zw ⟨0,[]⟩,.int .i64 0]:=fun h=>by
  have:yp s=none:=by
   rw[e0]
   split
   ·rfl
   ·first|rfl|exact if_pos h
  rw[Y3 this,if_neg hno]
 rcases z6 s n with ⟨h1,h2⟩|⟨h1,h2⟩
 ·have hlt:¬ ((n:Int)<(s.length:Int)):=by omega
  have e:=fin fun hz=>by rw[e0,if_neg hz,h1];rfl
  simp(disch:=omega) only[hlt,hnle,go_sem]
  exact hQ _ _ _ [.agg [.int .i64 k,.str (s.take n)],.int .i64 (n:Int)] nofun (by simp(disch:=omega) only[ir60,resvs,resv,go_sem]) (by simp[tupOf,AV.strip,AV.strip1,e,zw])
 ·have hlt:((n:Int)<(s.length:Int))=True:=eq_true (by omega)
  generalize hdd:s.getD n 0=d at *
  have ha:(s.drop n).head?.any (fun d=>isL d||isD d||decide (d=46))=(isL d||isD d||decide (d=46)):=by rw[h2];rfl
  rw[ha] at bad
  simp(disch:=omega) only[hlt,hdd,go_sem]
  refine goK_pure (zeQ d) ?_
  cases hld:isL d with
  | true =>
   have e:=bad (by rw[hld];rfl)
   simp(disch:=omega) only[hld,go_sem]
   exact hQ _ _ _ [.agg [.int .i64 0,.str []],.int .i64 0] nofun (by simp(disch:=omega) only[ir60,resvs,resv,go_sem]) (by simp[tupOf,AV.strip,AV.strip1,e,zw])
  | false =>
   simp(disch:=omega) only[hld,hlt,hdd,go_sem]
   refine goK_pure (zgs d) ?_
   cases hdg:isD d with
   | true =>
    have e:=bad (by rw[hdg];simp)
    simp(disch:=omega) only[hdg,go_sem]
    exact hQ _ _ _ [.agg [.int .i64 0,.str []],.int .i64 0] nofun (by simp(disch:=omega) only[ir60,resvs,resv,go_sem]) (by simp[tupOf,AV.strip,AV.strip1,e,zw])
   | false =>
    by_cases h46:d=46
    ·have e:=bad (by rw[h46];simp)
     have g46:(d.toNat:Int)=46:=by rw[h46];rfl
     simp(disch:=omega) only[hdg,hlt,hdd,g46,go_sem]
     exact hQ _ _ _ [.agg [.int .i64 0,.str []],.int .i64 0] nofun (by simp(disch:=omega) only[ir60,resvs,resv,go_sem]) (by simp[tupOf,AV.strip,AV.strip1,e,zw])
    ·have g46:¬ ((d.toNat:Int)=46):=fun e=>h46 (UInt8.toNat_inj.1 (by show d.toNat=46;omega))
     have e:=fin fun hz=>by rw[e0,if_neg hz,ha,hld,hdg];simp[h46]
     simp(disch:=omega) only[hdg,hlt,hdd,g46,hnle,go_sem]
     exact hQ _ _ _ [.agg [.int .i64 k,.str (s.take n)],.int .i64 (n:Int)] nofun (by simp(disch:=omega) only[ir60,resvs,resv,go_sem]) (by simp[tupOf,AV.strip,AV.strip1,e,zw])
theorem zj9 {l:List UInt8} (hne:l≠[]):(zy l).2≤l.length∧(zy l).1≤1114111:=by
 by_cases h:(zy l).2=0
 ·refine⟨by omega,?_⟩
  unfold zy at h ⊢
  split at h
  ·rename_i h0;rw[if_pos h0];decide
  ·split at h
   ·rename_i h0 h1;rw[if_neg h0,if_pos h1];decide
   ·rename_i h0 h1
    have:=zgB h0 h1
    have:=this.pos
    omega
 ·obtain⟨e,h1⟩:=zhX hne h
  have hd:=zgB hne h1
  rw[e]
  refine⟨?_,hd.le⟩
  have hl:=hd.len
  exact hl
theorem zjX (s:List UInt8) (hs:s.length≤Lim):Pure Tryz.prog 58 [.str s] (.bool (zbm s)):=by
 refine Pure.go ir58 ck58 (Al4 _) fun KP Q hQ=>?_
 have hs':=hs
 simp only[Lim] at hs
 simp(disch:=omega) only[ir58,go_sem]
 refine goL_st (fun i:Nat=>[(3,.int .i64 i)]) (fun i H=>zbm s=zbm (s.drop i)∧i≤s.length) (fun i=>s.length-i) 0 (by simp(disch:=omega) only[go_sem]) ⟨by simp,by omega⟩ ?_
 rintro i H J ⟨hn,hle⟩ hJ
 by_cases hlt:i<s.length
 case neg =>
  have hlt':¬ ((i:Int)<s.length):=by omega
  rw[List.drop_of_length_le (by omega)] at hn
  simp(disch:=omega) only[hlt',go_sem]
  exact hQ _ _ _ _ nofun rfl (by simp[tupOf,envOf,AV.strip,AV.strip1,hn,ziK])
 have hlt':((i:Int)<s.length)=True:=eq_true (by omega)
 have hne:s.drop i≠[]:=fun e=>by have:=congrArg List.length e;simp at this;omega
 obtain⟨hk,hcm⟩:=zj9 hne
 rw[zU] at hk
 simp(disch:=omega) only[hlt',go_sem]
 refine goK_pure (zmi s i hlt hs') ?_
 rw[zeu hne,List.drop_drop] at hn
 generalize (zy (s.drop i)).1=c at *
 generalize (zy (s.drop i)).2=k at *
 by_cases hk0:0<k
 ·have hk0':((0:Int)<(k:Int))=True:=eq_true (by omega)
  simp(disch:=omega) only[hk0',go_sem]
  refine goK_pure (zlP c hcm) ?_
  cases hsg:Y4 c with
  | true =>
   rw[hsg] at hn
   simp only[hk0,decide_true,Bool.true_and] at hn
   simp(disch:=omega) only[wrap64,go_sem]
   exact goJ (hJ (i+k) _ (by omega) ⟨hn,by omega⟩) (by simp(disch:=omega) only[Int.natCast_add,go_sem])
  | false =>
   rw[hsg] at hn
   simp only[Bool.false_and,Bool.and_false] at hn
   simp(disch:=omega) only[go_sem]
   exact hQ _ _ _ _ nofun rfl (by simp[tupOf,envOf,AV.strip,AV.strip1,hn])
 ·have hk0':¬ ((0:Int)<(k:Int)):=by omega
  simp only[hk0,decide_false,Bool.false_and] at hn
  simp(disch:=omega) only[hk0',go_sem]
  exact hQ _ _ _ _ nofun rfl (by simp[tupOf,envOf,AV.strip,AV.strip1,hn])
def readA:Except Int (List Tok)→AV
 | .ok l=>.tup [.sl .no 2 (cKs l),.int .i64 0]
 | .error e=>.tup [.sl .no 2 [],.int .i64 e]
def ZD (l:List Tok) (t:List UInt8):Except Int (List Tok):=ZX (t.length+1) l t
theorem zew (l:List Tok):ZD l []=.ok l:=rfl
theorem zeH {l:List Tok} {t:List UInt8} (hne:t≠[]) (h:Zl t≠0):ZD l t=ZD l (t.drop (Zl t)):=by
 have h1:=zca t
 have h2:0<t.length:=List.length_pos_iff.2 hne
 unfold ZD
 conv=>lhs;unfold ZX
 rw[if_neg hne,if_pos h]
 exact Y6 _ _ _ _ (by simp;omega) (Nat.lt_succ_self _)
theorem zdE {l:List Tok} {t:List UInt8} (hne:t≠[]) (h:Zl t=0) (h1:yp t=none):ZD l t=.error 2:=by
 unfold ZD
 conv=>lhs;unfold ZX
 rw[if_neg hne,if_neg (by omega),h1]
theorem zdT {l:List Tok} {t t':List UInt8} {x:Tok} (hne:t≠[]) (h:Zl t=0) (h1:yp t=some (x,t')):ZD l t=ZD (l++[x]) t':=by
 have h2:=zaU h1
 unfold ZD
 conv=>lhs;unfold ZX
 rw[if_neg hne,if_neg (by omega),h1]
 exact Y6 _ _ _ _ (by omega) (Nat.lt_succ_self _)
theorem zdW:∀(n:Nat) (raw t b t':List UInt8),yH n raw t=some (b,t')→t' <:+ t
 | 0,_,_,_,_,h=>by cases h
 | n+1,raw,[],_,_,h=>by cases h
 | n+1,raw,c::r,b,t',h=>by
  simp only[yH] at h
  split at h
  ·cases h;exact(List.drop_suffix _ _).trans (List.suffix_cons ..)
  split at h
  ·exact(zdW n _ _ _ _ h).trans ((List.drop_suffix _ _).trans (List.suffix_cons ..))
  ·exact(zdW n _ _ _ _ h).trans (List.suffix_cons ..)
theorem zfA {s t:List UInt8} {x:Tok} (h:yp s=some (x,t)):t <:+ s:=by
 cases s with
 | nil=>cases h
 | cons c r =>
  simp only[yp] at h
  split at h
  ·cases hr:yH (r.length+1) [] (r.drop 2) with
   | none=>rw[hr] at h;cases h
   | some y =>
    rw[hr] at h
    simp only[yd,Al1,Al8] at h
    obtain⟨_,rfl⟩:=h
    exact(zdW _ _ _ _ _ (show yH _ _ _=some (y.1,y.2) from hr)).trans ((List.drop_suffix _ _).trans (List.suffix_cons ..))
  split at h
  ·cases hr:Zc z8 r with
   | none=>rw[hr] at h;cases h
   | some y =>
    rw[hr] at h
    simp only[yd,Al1,Al8] at h
    obtain⟨_,rfl⟩:=h
    exact(zfu (t':=y.2) (b:=y.1) hr).1.trans (List.suffix_cons ..)
  split at h
  ·cases h;exact(List.drop_suffix _ _).trans (List.suffix_cons ..)
  split at h
  ·cases h;exact List.suffix_cons ..
  split at h
  ·cases h;exact List.drop_suffix _ _
  split at h
  ·cases h
  split at h
  ·cases h
  ·cases h;exact List.drop_suffix _ _
theorem zfS {s t:List UInt8} {x:Tok} (h:yp s=some (x,t)):s.drop (s.length-t.length)=t:=by
 obtain⟨p,hp⟩:=zfA h
 rw[← hp];simp
theorem zmC {u:List UInt8} (hne:u≠[]) (hs:u.length≤1000000):Pure Tryz.prog 59 [.str u] (.int .i64 (Zl u)):=by
 cases u with
 | nil=>exact absurd rfl hne
 | cons c r=>exact zmJ c r hs
theorem zmu {u:List UInt8} (hne:u≠[]) (hs:u.length≤Zi):Pure Tryz.prog 60 [.str u] (zfo u):=by
 cases u with
 | nil=>exact absurd rfl hne
 | cons c r=>exact zmF c r hs
theorem zk3 (s:List UInt8) (hs:s.length≤Zi):Pure Tryz.prog 24 [.str s] (readA (yB s)):=by
 refine Pure.go ir24 ck24 (Al4 _) fun KP Q hQ=>?_
 have hsq:=hs
 simp only[Zi] at hs
 by_cases h8:8192<s.length
 ·have g8:((8192:Int)<(s.length:Int))=True:=eq_true (by omega)
  simp(disch:=omega) only[ir24,g8,go_sem]
  exact hQ _ _ _ _ nofun rfl (by simp[tupOf,envOf,AV.strip,AV.strip1,yB,h8,readA])
 have g8:¬ ((8192:Int)<(s.length:Int)):=by omega
 simp(disch:=omega) only[ir24,g8,go_sem]
 refine goK_pure (zjX s (by simp only[Lim];omega)) ?_
 cases hsb:zbm s with
 | false =>
  simp(disch:=omega) only[go_sem]
  exact hQ _ _ _ _ nofun rfl (by simp[tupOf,envOf,AV.strip,AV.strip1,yB,h8,hsb,readA])
 | true =>
  have e0:yB s=ZD [] s:=by unfold yB ZD;rw[if_neg h8,if_pos hsb]
  rw[e0] at hQ
  simp(disch:=omega) only[go_sem]
  refine goL_st (fun x:Own×List Tok×Nat=>[(4,.sl x.1 2 (cKs x.2.1)),(5,.int .i64 x.2.2)]) (fun x H=>x.2.2≤s.length∧x.2.1.length≤x.2.2∧ZD [] s=ZD x.2.1 (s.drop x.2.2)∧OwnS Heap.emp .nil H x.1 x.2.1.length 2) (fun x=>s.length-x.2.2) (.nil,[],0) (by simp(disch:=omega) only[cKs,List.map_nil,go_sem]) ⟨Nat.zero_le _,Al4 _,rfl,OwnS.refl rfl⟩ ?_
  rintro⟨o,l,i⟩ H J ⟨hi,hll,hr,hso⟩ hJ
  simp only at hi hll hr hso
  have hcl:=za5 l
  by_cases hlt:i<s.length
  case neg =>
   have hlt':¬ ((i:Int)<s.length):=by omega
   rw[List.drop_of_length_le (by omega),zew] at hr
   simp(disch:=omega) only[hlt',go_sem]
   exact hQ _ _ _ _ nofun rfl (by simp[tupOf,envOf,AV.strip,AV.strip1,hr,readA,zed])
  have hlt':((i:Int)<s.length)=True:=eq_true (by omega)
  have hle':((i:Int)≤s.length)=True:=eq_true (by omega)
  obtain⟨u,hd⟩:∃ u,s.drop i=u:=⟨_,rfl⟩
  have hdl:s.length=i+u.length:=by have:=congrArg List.length hd;rw[zU] at this;omega
  have hne:u≠[]:=fun e=>by rw[e] at hdl;simp at hdl;omega
  rw[hd] at hr
  simp(disch:=omega) only[hlt',hle',hd,go_sem]
  refine goK_pure (zmC hne (by omega)) ?_
  have hgl:=zca u
  by_cases hg:Zl u=0
  case neg =>
   have hg':((0:Int)<(Zl u:Int))=True:=eq_true (by omega)
   simp(disch:=omega) only[hg',wrap64,go_sem]
   refine goJ (hJ (o,l,i+Zl u) _ (by simp only;omega) ⟨by simp only;omega,by simp only;omega,?_,hso⟩) (by simp(disch:=omega) only[Int.natCast_add,go_sem])
   simp only
   rw[hr,zeH hne hg,← List.drop_drop,hd]
  have hg':¬ ((0:Int)<(Zl u:Int)):=by omega
  simp(disch:=omega) only[hg',hle',hd,go_sem]
  refine goK_pure (zmu hne (by simp only[Zi];omega)) ?_
  cases ho:yp u with
  | none =>
   rw[zdE hne hg ho] at hr
   rw[Y3 ho]
   simp(disch:=omega) only[zw,go_sem]
   refine goA_intro fun b1 hb1=>?_
   simp(disch:=omega) only[go_sem]
   exact hQ _ _ _ _ nofun rfl (by simp[tupOf,envOf,AV.strip,AV.strip1,hr,readA])
  | some x =>
   obtain⟨x,t⟩:=x
   have hlt2:=zaU ho
   have hsf:=zfS ho
   rw[zdT hne hg ho] at hr
   rw[ZU ho]
   have hz:¬ (((u.length-t.length:Nat):Int)=0):=by omega
   simp(disch:=omega) only[zw,go_sem]
   refine goA_intro fun b1 hb1=>?_
   simp(disch:=omega) only[hz,go_sem]
   refine goP_ownS (by rw[hcl];exact(hso.upd hb1).own) (by simp only[hcl,Al2,Al3];omega) (by simp only[hcl,Al2,Al3,maxLen];omega) fun o' H' hs2=>?_
   simp(disch:=omega) only[wrap64,go_sem]
   refine goJ (hJ (o',l++[x],i+(u.length-t.length)) H' (by simp only;omega) ⟨by simp only;omega,by simp;omega,?_,(hso.upd (x:=.cells [.int .i64 x.k,.str x.s]) hb1).trans (by simpa[hcl] using hs2)⟩) (by simp(disch:=omega) only[← zhr,Int.natCast_add,go_sem])
   simp only
   rw[hr,← List.drop_drop,hd,hsf]
end Go.Proofs.YtaielcdfcgpbiaaGreatDoor
namespace Go.Proofs.YtaielcdfcgpbiaaGreatDoor
open Go.Ab
def sp31 : ASp := ⟨27, 2, 5, (.reg [] [⟨some 4, none, .alloc [.int .i64 0], []⟩]), (.seq (.reg [] [⟨some 13, none, .mv (.t 6), []⟩, ⟨some 14, none, .bi .neq .i64 (.t 13) (.k (.int .i64 0)), []⟩])
 (.cond (.t 14) (.seq (.reg [] [⟨some 15, none, .mv (.t 6), []⟩, ⟨none, none, .st 1 (.t 4) (.t 15), []⟩])
 (.ret)) (.skip))), [⟨some 16, none, .mkfn 74 [] [(.t 4)], []⟩], 16, (.seq (.reg [] [⟨some 17, none, .mv (.t 5), []⟩, ⟨some 18, none, .bld [.sl .nil 2 [], .int .i64 0, .int .i64 0] [(0, 1, (.t 17))], []⟩, ⟨some 19, none, .box (.t 18), []⟩, ⟨some 7, none, .mv (.t 19), []⟩])
 (.seq (.reg [] [⟨some 20, none, .mv (.t 1), []⟩, ⟨some 21, none, .mv (.t 7), []⟩, ⟨some 22, none, .callv (.t 20) [(.t 21)], []⟩])
 (.seq (.seq (.reg [] [⟨some 23, none, .mv (.t 7), []⟩, ⟨some 24, none, .call 43 [(.t 23)], []⟩])
 (.cond (.t 24) (.reg [] [⟨some 25, none, .mv (.t 7), []⟩, ⟨some 26, none, .call 75 [(.t 25), (.k (.int .i64 2))], []⟩]) (.skip)))
 (.seq (.reg [] [⟨none, none, .st 1 (.t 4) (.k (.int .i64 0)), []⟩])
 (.ret))))), [.c 4 1 false], some (.reg [] [⟨some 9, none, .mv (.t 0), []⟩, ⟨some 10, none, .call 24 [(.t 9)], []⟩, ⟨some 8, none, .mv (.t 10), []⟩, ⟨some 11, none, .ext (.t 8) 0, []⟩, ⟨some 12, none, .ext (.t 8) 1, []⟩, ⟨some 5, none, .mv (.t 11), []⟩, ⟨some 6, none, .mv (.t 12), []⟩])⟩
theorem ckS31:chkSp Tryz.prog 31 sp31=true:=by kernel_rfl
def df74 : ADfn := ⟨16, 1, 4, [⟨some 1, none, .mv (.t 4), []⟩], (.seq (.reg [] [⟨some 6, none, .mv (.t 1), []⟩, ⟨some 7, none, .tas 120 (.agg [.int .i64 0]) (.t 6), []⟩, ⟨some 5, none, .mv (.t 7), []⟩, ⟨some 8, none, .ext (.t 5) 0, []⟩, ⟨some 9, none, .ext (.t 5) 1, []⟩, ⟨some 2, none, .alloc [.int .i64 0], []⟩, ⟨none, none, .st 1 (.t 2) (.t 8), []⟩, ⟨some 3, none, .mv (.t 9), []⟩])
 (.seq (.reg [] [⟨some 10, none, .mv (.t 3), []⟩])
 (.cond (.t 10) (.reg [] [⟨some 11, none, .fa 0 (.t 2), []⟩, ⟨some 12, none, .ld 1 false (.t 11), []⟩, ⟨none, none, .st 1 (.t 0) (.t 12), []⟩]) (.seq (.reg [] [⟨some 13, none, .mv (.t 1), []⟩, ⟨some 14, none, .ifnil true (.t 13), []⟩])
 (.cond (.t 14) (.reg [] [⟨some 15, none, .mv (.t 1), []⟩, ⟨none, none, .pan (.t 15), []⟩]) (.skip))))))⟩
theorem ckD74:chkDfn Tryz.prog 74 df74=true:=by kernel_rfl
theorem zcv {P:Program} {KP:AV→Heap→Prop} {items:List AItem} {ρ:Env} {H:Heap} {K:Env→Heap→Prop} (h:∀ Q:AExit→Env→Heap→Prop,(∀ ρ' H',K ρ' H'→Q .normal ρ' H')→goI P KP Q items items [] ρ H):awpItems P KP (annot items) ρ H K :=
 h (fun e ρ H=>match e with|.normal=>K ρ H|_=>True) (fun _ _ h=>h)
theorem zak {P:Program} {KP:AV→Heap→Prop} {c:AC} {ρ:Env} {H:Heap} {K:AExit→Env→Heap→Prop} (h:∀(KP':AV→Heap→Prop) (Q:AExit→Env→Heap→Prop),(∀ v H',KP v H'→KP' v H')→(∀ e ρ' H',K e ρ' H'→Q e ρ' H')→goC P KP' Q c [] ρ H):awp P KP c K ρ H :=
 h KP K (fun _ _ h=>h) (fun _ _ _ h=>h)
theorem zkV (H:Heap) (r:Nat) (n:Int):ACalls Tryz.prog 75 [.ptr r 0,.int .i64 n] H (fun e H'=>match e with|.ret v=>False|.pan v=>v=yt n∧H'=H):=by
 refine ACalls.goO (R:=fun _ _=>False) (RP:=fun v H'=>v=yt n∧H'=H) ir75 ck75 (Al4 _) fun KP Q hQ hP=>?_
 simp(disch:=omega) only[ir75,go_sem]
 exact hP _ _ H (Low.refl _) ⟨rfl,rfl⟩
theorem zl0 {H:Heap} {b4:Nat} {Q:Heap→Prop} (hq:∀ b x,H b=none→Q (H.upd b x)):ACallsD Tryz.prog 74 [.ptr b4 0] none H Q:=by
 refine ACallsD.of_fn df74 ckD74 (Al4 _) (zcv fun Q1 hQ1=>?_)
 simp(disch:=omega) only[df74,Option.getD_none,go_sem]
 refine hQ1 _ _ (zak fun KP' Q2 hKP hQ2=>?_)
 simp(disch:=omega) only[df74,go_sem]
 refine goA_intro fun b hb=>?_
 simp(disch:=omega) only[go_sem]
 exact hQ2 _ _ _ (hq _ _ hb)
theorem zkD {H:Heap} {b4:Nat} {c4:List AV} {n:Int} {Q:Heap→Prop} (h4:H b4=some (.cells c4)) (l4:c4.length=1)
  (hq:∀ b x,H b=none→Q ((H.upd b x).upd b4 (.cells [.int .i64 n]))):ACallsD Tryz.prog 74 [.ptr b4 0] (some (yt n)) H Q:=by
 refine ACallsD.of_fn df74 ckD74 (Al4 _) (zcv fun Q1 hQ1=>?_)
 simp(disch:=omega) only[df74,Option.getD_some,yt,go_sem]
 refine hQ1 _ _ (zak fun KP' Q2 hKP hQ2=>?_)
 simp(disch:=omega) only[df74,go_sem]
 refine goA_intro fun b hb=>?_
 have n1:b4≠b:=fun e=>by subst e;rw[hb] at h4;cases h4
 simp(disch:=omega) only[h4,n1,l4,go_sem]
 have e4:splice c4 0 [.int .i64 n]=[.int .i64 n]:=by
  unfold splice;simp only[List.take_zero,zar,Al2,Al3];rw[List.drop_eq_nil_of_le (by rw[l4];decide),List.append_nil]
 rw[e4]
 exact hQ2 _ _ _ (hq _ _ hb)
theorem zcq:∀(n:Nat) (l:List Tok) (s:List UInt8) (e:Int),s.length<n→ZX n l s=.error e→e=2
 | 0,_,_,_,h,_=>absurd h (Nat.not_lt_zero _)
 | n+1,l,s,e,h,hr=>by
  simp only[ZX] at hr
  split at hr
  ·cases hr
  split at hr
  ·rename_i hne hg
   have h1:=zca s
   have h2:0<s.length:=List.length_pos_iff.2 hne
   exact zcq n _ _ _ (by simp;omega) hr
  ·cases ho:yp s with
   | none=>rw[ho] at hr;cases hr;rfl
   | some x =>
    rw[ho] at hr
    have:=zaU (show yp s=some (x.1,x.2) from ho)
    exact zcq n _ _ _ (by omega) hr
theorem YT {s:List UInt8} {e:Int} (h:yB s=.error e):e≠0:=by
 unfold yB at h
 split at h
 ·cases h;decide
 split at h
 ·rw[zcq _ _ _ _ (Nat.lt_succ_self _) h];decide
 ·cases h;decide
def zll (Out:Int→Heap→Prop):AEnd→Heap→Prop:=fun e H'=>match e with|.ret v=>∃ n:Int,v=.int .i64 n∧Out n H'|.pan _=>False
theorem res_run {ρ:Env} {H:Heap} {b4:Nat} {e:Int} (r4:ρ 4=.ptr b4 0) (h4:H b4=some (.cells [.int .i64 e])):resvs ρ H sp31.res=some [.int .i64 e]:=by
 simp(disch:=omega) only[sp31,resvs,resv,r4,h4,go_sem]
theorem zmj {s:List UInt8} {Hc:Heap} {clo:FuncId} {caps:List AV} (hl:s.length≤Zi) (hcal:Program.callable Tryz.prog clo=true) (Out:Int→Heap→Prop)
  (h1:∀ n,yB s=.error n→Out n Hc)
  (h2:∀ L,yB s=.ok L→∀ r,Hc r=none→ACalls Tryz.prog clo (.ptr r 0::caps) (Hc.upd r (prc L [] 0)) (fun e H'=>match e with
   | .ret _=>∃ p t dp,p++t=L∧H' r=some (prc L p dp)∧Out (if t=[] then 0 else 2) H'
   | .pan v=>∃ n,v=yt n∧∀ H,Out n H)) :
  ACalls Tryz.prog 31 [.str s,.clo clo [] caps] Hc (zll Out):=by
 refine ACalls.of_sp sp31 ckS31 (Al4 _) ?_
 unfold awpD
 refine zak fun KP Q hKP hQ=>?_
 simp(disch:=omega) only[sp31,go_sem]
 refine goA_intro fun b4 hb4=>?_
 simp(disch:=omega) only[go_sem]
 refine hQ _ _ _ (zak fun KP1 Q1 hKP1 hQ1=>?_)
 simp(disch:=omega) only[sp31,go_sem]
 refine goK_pure (Pure.low (zk3 s hl)) ?_
 cases hR:yB s with
 | error n =>
  have hn:¬ (n=0):=YT hR
  simp(disch:=omega) only[readA,go_sem]
  refine hQ1 _ _ _ (zak fun KP2 Q2 hKP2 hQ2=>?_)
  simp(disch:=omega) only[sp31,hn,go_sem]
  refine hQ2 _ _ _ ?_
  show finQ sp31.res (zll Out) .ret _ _
  simp only[finQ]
  rw[res_run (b4:=b4) (e:=n) rfl (upd_same ..)]
  exact⟨Hc,(Low.refl _).upd hb4,n,rfl,h1 n hR⟩
 | ok L =>
  simp(disch:=omega) only[readA,go_sem]
  refine hQ1 _ _ _ (zak fun KP2 Q2 hKP2 hQ2=>?_)
  simp(disch:=omega) only[sp31,go_sem]
  refine hQ2 _ _ _ (zcv fun Q3 hQ3=>?_)
  simp(disch:=omega) only[sp31,go_sem]
  refine hQ3 _ _ ⟨74,_,rfl,by decide +kernel,zak fun KP4 Q4 hKP4 hQ4=>?_⟩
  have fin:∀(ρ1:Env) (H H2:Heap) (e:Int),ρ1 4=.ptr b4 0→H b4=some (.cells [.int .i64 e])→Low H2 H→Out e H2→finS sp31 (zll Out) ρ1 H:=by
   intro ρ1 H H2 e r4 g4 hlow ho
   refine⟨_,res_run (b4:=b4) (e:=e) ?_ g4,H2,hlow,e,rfl,ho⟩
   rw[keep_get,if_pos (by decide)];exact r4
  have hpan:∀(n:Int) (H0 H':Heap) (c4:List AV),Low H0 H'→H0 b4=some (.cells c4)→c4.length=1→(∀ H,Out n H)→KP4 (yt n) H':=by
   intro n H0 H' c4 hlow g4 l4 ho
   exact hKP4 _ _ ⟨H0,hlow,zkD g4 l4 fun b x hb=>fin _ _ Heap.emp n rfl (upd_same ..) (Low.of_sub (sub_emp _)) (ho _)⟩
  simp(disch:=omega) only[sp31,go_sem]
  refine goA_intro fun br hbr=>?_
  have hbr4:br≠b4:=fun e=>by subst e;rw[upd_same] at hbr;cases hbr
  have hbrH:Hc br=none:=by rw[upd_ne hbr4] at hbr;exact hbr
  simp(disch:=omega) only[hcal,go_sem]
  obtain⟨x4,hx4⟩:∃ x4:AObj,x4=.cells [.int .i64 0]:=⟨_,rfl⟩
  have hun:(Hc.upd b4 (.cells [.int .i64 0])).upd br (.cells [.sl .no 2 (cKs L),.int .i64 0,.int .i64 0])=Heap.union (Hc.upd br (prc L [] 0)) (Heap.one b4 x4):=by
   funext c
   by_cases e1:c=br
   ·subst e1;rw[upd_same];simp[Heap.union,Heap.upd,prc]
   ·rw[upd_ne e1]
    by_cases e2:c=b4
    ·subst e2;rw[upd_same];simp[Heap.union,Heap.upd,Heap.one,e1,hb4,hx4]
    ·rw[upd_ne e2];simp[Heap.union,Heap.upd,Heap.one,e1,e2]
  have hd:Heap.Disj (Hc.upd br (prc L [] 0)) (Heap.one b4 x4):=fun c=>by
   by_cases e:c=b4
   ·subst e;exact .inl (by rw[upd_ne (Ne.symm hbr4)];exact hb4)
   ·exact .inr (by simp[Heap.one,e])
  have hc:=ACalls.frame hd (h2 L hR br hbrH)
  rw[hun]
  refine goK_calls hc fun e H' ⟨A',hq,hd',hH'⟩=>?_
  subst hH'
  have hB4:Heap.one b4 x4 b4=some (.cells [.int .i64 0]):=by simp[Heap.one,hx4]
  have hA4:A' b4=none:=by
   rcases hd' b4 with h|h
   ·exact h
   ·rw[hB4] at h;cases h
  have g4:Heap.union A' (Heap.one b4 x4) b4=some (.cells [.int .i64 0]):=by simp[Heap.union,hA4,hB4]
  cases e with
  | pan v =>
   obtain⟨n,hv,ho⟩:=hq
   subst hv
   exact hpan n (Heap.one b4 x4) _ _ (Low.of_sub fun c x hc=>by
    rcases hd' c with h|h
    ·simp[Heap.union,h,hc]
    ·rw[hc] at h;cases h) hB4 rfl ho
  | ret v =>
   obtain⟨p,t,dp,hp,hr,ho⟩:=hq
   have gr:Heap.union A' (Heap.one b4 x4) br=some (prc L p dp):=by simp[Heap.union,hr]
   have lowA:∀ b x (Hx:Heap),(∀ c y,A' c=some y→Hx c=some y)→Hx b=none→Low A' ((Hx.upd b x).upd b4 (.cells [.int .i64 0]))∧Low A' ((Hx.upd b x).upd b4 (.cells [.int .i64 2])):=fun b x Hx hs hb=>by
    have sub:∀ z,∀ c y,A' c=some y→((Hx.upd b x).upd b4 z) c=some y:=fun z c y hcy=>by
     rw[upd_ne (fun e=>by rw[e,hA4] at hcy;cases hcy),upd_ne (fun e=>by rw[← e,hs _ _ hcy] at hb;cases hb)]
     exact hs _ _ hcy
    exact⟨Low.of_sub (sub _),Low.of_sub (sub _)⟩
   have subU:∀ c y,A' c=some y→Heap.union A' (Heap.one b4 x4) c=some y:=fun c y hc=>by simp[Heap.union,hc]
   show goR _ _ _ _ _ _ _ _ _
   simp(disch:=omega) only[go_sem]
   refine goK_ret (zic hp gr) fun v5 H5 ⟨hv5,hH5⟩=>?_
   subst hv5;subst hH5
   cases t with
   | nil =>
    simp only[if_true] at ho
    simp(disch:=omega) only[g4,go_sem]
    refine hQ4 _ _ _ ⟨_,Low.refl _,zl0 fun b y hb=>?_⟩
    have n4:b4≠b:=fun e=>by subst e;rw[upd_same] at hb;cases hb
    refine fin _ _ A' 0 rfl (by rw[upd_ne n4,upd_same]) ?_ ho
    refine Low.of_sub fun c z hcz=>?_
    have hc4:c≠b4:=fun e=>by rw[e,hA4] at hcz;cases hcz
    have hcb:c≠b:=fun e=>by rw[← e,upd_ne hc4,subU _ _ hcz] at hb;cases hb
    rw[upd_ne hcb,upd_ne hc4];exact subU _ _ hcz
   | cons a u =>
    rw[if_neg (by simp)] at ho
    simp(disch:=omega) only[go_sem]
    exact goK_both (zkV _ br 2) (fun _ _ h=>h.elim) fun v H6 ⟨h6,h7⟩=>by
     subst h6;subst h7
     exact hKP4 _ _ ⟨_,Low.refl _,zkD g4 rfl fun b y hb=>fin _ _ A' 2 rfl (upd_same ..) (lowA b y _ subU hb).2 ho⟩
theorem zjg (p:List UInt8→Bool):∀ l:List (List UInt8),wL (l.dropWhile p)≤wL l
 | []=>Al4 _
 | x::r=>by
  rw[List.dropWhile_cons]
  split
  ·have:=zjg p r;rw[Zh];omega
  ·exact Al4 _
theorem zi4 (l:List (List UInt8)):wL l.reverse=wL l:=by
 induction l with
 | nil=>rfl
 | cons x r ih=>rw[List.reverse_cons,zbL,ih,Zh,Zh];simp[wL];omega
theorem zgF (raw:List UInt8):(zK raw).length≤raw.length+1:=by
 have h1:=YZ raw []
 have h2:wL (YJ (zo raw))≤wL (zo raw):=by
  cases hx:zo raw with
  | nil=>exact Al4 _
  | cons x r =>
   simp only[YJ]
   rw[Zh,Zh]
   have:=zcV (indM (x::r)).toNat r
   omega
 unfold zK Zs
 have h3:=za6 ((((YJ (zo raw)).dropWhile zA).reverse.dropWhile zA).reverse)
 rw[zi4] at h3
 have h4:=zjg zA ((YJ (zo raw)).dropWhile zA).reverse
 rw[zi4] at h4
 have h5:=zjg zA (YJ (zo raw))
 have h6:wL (zo raw)≤raw.length+1:=by simpa[wL,zo] using h1
 omega
theorem zk1 {s t:List UInt8} {x:Tok} (h:yp s=some (x,t)):x.s.length+t.length≤s.length+1:=by
 cases s with
 | nil=>cases h
 | cons c r =>
  rw[zcx] at h
  split at h
  ·cases hr:yH (r.length+1) [] (r.drop 2) with
   | none=>rw[hr] at h;cases h
   | some y =>
    rw[hr] at h
    simp only[yd,Al1,Al8] at h
    obtain⟨rfl,rfl⟩:=h
    have h1:=(zdK _ _ _ _ _ (show yH _ _ _=some (y.1,y.2) from hr)).1
    have h2:=zgF y.1
    simp at h1 ⊢
    omega
  split at h
  ·cases hr:Zc z8 r with
   | none=>rw[hr] at h;cases h
   | some y =>
    rw[hr] at h
    simp only[yd,Al1,Al8] at h
    obtain⟨rfl,rfl⟩:=h
    have h1:=zls (show Zc z8 r=some (y.1,y.2) from hr)
    simp only[Al2]
    omega
  split at h
  ·rename_i hp
   have hl:=yF _ _ hp
   have hd3:ZE.length=3:=rfl
   rw[hd3] at hl
   cases h;simp[hd3] at hl ⊢;omega
  split at h
  ·cases h;simp;omega
  split at h
  ·cases h;simp;omega
  split at h
  ·cases h
  split at h
  ·cases h
  ·cases h;simp;omega
theorem zeW:∀(n:Nat) (l:List Tok) (s:List UInt8) (l':List Tok),ZX n l s=.ok l'→wT l'≤wT l+6*s.length
 | 0,_,_,_,h=>by cases h
 | n+1,l,s,l',h=>by
  simp only[ZX] at h
  split at h
  ·cases h;omega
  split at h
  ·have:=zeW n _ _ _ h
   simp at this;omega
  ·cases ho:yp s with
   | none=>rw[ho] at h;cases h
   | some x =>
    rw[ho] at h
    have h1:=zaU (show yp s=some (x.1,x.2) from ho)
    have h2:=zk1 (show yp s=some (x.1,x.2) from ho)
    have h3:=zeW n _ _ _ h
    have h4:wT (l++[x.1])=wT l+wK x.1:=by simp[wT]
    rw[h4,wK] at h3
    omega
theorem ze7 {s:List UInt8} {L:List Tok} (h:yB s=.ok L):wT L≤zk:=by
 obtain⟨h1,_,h3⟩:=zfy h
 have h4:=zeW _ _ _ _ h3
 have e:wT ([]:List Tok)=0:=rfl
 rw[e] at h4
 simp only[zk];omega
theorem zlA {b4 b6:Nat} {x y:AObj} (h:b6≠b4):(Heap.emp.upd b4 x).upd b6 y=Heap.union (Heap.one b6 y) (Heap.one b4 x):=by
 funext c
 by_cases e1:c=b6
 ·subst e1;simp[Heap.union,Heap.upd,Heap.one]
 ·by_cases e2:c=b4
  ·subst e2;simp[Heap.union,Heap.upd,Heap.one,e1]
  ·simp[Heap.union,Heap.upd,Heap.one,e1,e2,Heap.emp]
theorem zjQ {b4 b6:Nat} {x y:AObj} (h:b6≠b4):Heap.Disj (Heap.one b6 y) (Heap.one b4 x):=fun c=>by
 by_cases e:c=b4
 ·subst e;exact .inl (by simp[Heap.one,Ne.symm h])
 ·exact .inr (by simp[Heap.one,e])
theorem zl8 {A:Heap} {b4:Nat} {x:AObj} (h:Heap.Disj A (Heap.one b4 x)):Heap.union A (Heap.one b4 x) b4=some x:=by
 have hB:Heap.one b4 x b4=some x:=by simp[Heap.one]
 rcases h b4 with h|h
 ·simp[Heap.union,h,hB]
 ·rw[hB] at h;cases h
theorem zmz {A B:Heap} {b:Nat} {x:AObj} (h:A b=some x):Heap.union A B b=some x:=by simp[Heap.union,h]
def rq (r:Nat) (d:SR) (o:Own):List AV:=[.ptr r 0,.sl o 6 (cEs d.defs),.str d.q,.str d.m,.bool d.told]
structure EI (L:TS) (r q:Nat) (H:Heap) (t:TS) (d:SR) (o:Own):Prop where
 rd:Y8 H r L t (16-16)
 box:H q=some (.cells (rq r d o))
 own:Owned H o d.defs.length 6
 ne:q≠r
section
variable {L t t':TS} {r q b:Nat} {H H':Heap} {d d':SR} {o o':Own}
theorem EI.call (h:EI L r q H t d o) (ha:Pat H r L t' (16-16) H'):EI L r q H' t' d o:=by
 obtain⟨p,_,hr⟩:=h.rd
 have hb:=ha.other h.ne
 obtain⟨p',hp',rfl⟩:=ha
 exact⟨⟨p',hp',upd_same ..⟩,by rw[hb];exact h.box,yC h.own hr,h.ne⟩
theorem EI.new (h:EI L r q H t d o) (hb:H b=none) (x:AObj):EI L r q (H.upd b x) t d o:=by
 obtain⟨p,hp,hr⟩:=h.rd
 exact⟨⟨p,hp,by rw[upd_ne (fun e=>by rw[e,hb] at hr;cases hr)];exact hr⟩,by rw[upd_ne (fun e=>by have:=h.box;rw[e,hb] at this;cases this)];exact h.box,h.own.upd hb,h.ne⟩
theorem EI.cell {cs:List AV} (h:EI L r q H t d o) (hb:H b=some (.cells cs)) (h1:r≠b) (h2:q≠b) (x:AObj):EI L r q (H.upd b x) t d o:=by
 obtain⟨p,hp,hr⟩:=h.rd
 exact⟨⟨p,hp,by rw[upd_ne h1];exact hr⟩,by rw[upd_ne h2];exact h.box,yC h.own hb,h.ne⟩
theorem EI.set (h:EI L r q H t d o) (he:d'.defs=d.defs):EI L r q (H.upd q (.cells (rq r d' o))) t d' o:=by
 obtain⟨p,hp,hr⟩:=h.rd
 exact⟨⟨p,hp,by rw[upd_ne (Ne.symm h.ne)];exact hr⟩,upd_same ..,by rw[he];exact yC h.own h.box,h.ne⟩
theorem EI.put {n:Nat} {xs:List (List AV)} (h:EI L r q H t d o) (x:DefD) (hs:OwnS H o H' o' n 6) (hn:n=(d.defs++[x]).length) (hx:xs=cEs (d.defs++[x])) :
  EI L r q (H'.upd q (.cells [.ptr r 0,.sl o' 6 xs,.str d.q,.str d.m,.bool d.told])) t (Zy d x) o':=by
 obtain⟨p,hp,hr⟩:=h.rd
 have hb:=zv h.own h.box hs.kept
 have hr2:=zv h.own hr hs.kept
 subst hn;subst hx
 exact⟨⟨p,hp,by rw[upd_ne (Ne.symm h.ne)];exact hr2⟩,upd_same ..,yC hs.own hb,h.ne⟩
theorem EI.del {cs:List AV} (h:EI L r q H t d o) (hb:H b=some (.cells cs)) (h1:r≠b) (h2:q≠b):EI L r q (H.del b) t d o:=by
 obtain⟨p,hp,hr⟩:=h.rd
 have ho:=h.own
 refine⟨⟨p,hp,by simp[Heap.del,h1,hr]⟩,by simp[Heap.del,h2,h.box],?_,h.ne⟩
 cases o with
 | tip c y =>
  have h5:H c=some _:=ho
  have:c≠b:=fun e=>by rw[e,hb] at h5;cases h5
  show (H.del b) c=_
  simp[Heap.del,this,h5]
 | no=>exact ho
 | nil=>exact ho
 | full=>exact ho
theorem EI.un {B:Heap} (h:EI L r q H t d o):EI L r q (Heap.union H B) t d o:=by
 obtain⟨p,hp,hr⟩:=h.rd
 have ho:=h.own
 refine⟨⟨p,hp,by simp[Heap.union,hr]⟩,by simp[Heap.union,h.box],?_,h.ne⟩
 cases o with
 | tip c y =>
  have h5:H c=some _:=ho
  show (Heap.union H B) c=_
  simp[Heap.union,h5]
 | no=>exact ho
 | nil=>exact ho
 | full=>exact ho
end
def EQ (L:TS) (r q:Nat) (x:PR SR) (v:AV) (H':Heap):Prop:=v=.tup []∧∃ d' t' o',x=.ok (d',t')∧EI L r q H' t' d' o'
def EX (x:PR SR) (v:AV) (_:Heap):Prop:=∃ n,v=yt n∧x=.error n
abbrev EE (L:TS) (r q:Nat) (x:PR SR):AEnd→Heap→Prop:=fun e H'=>match e with|.ret v=>EQ L r q x v H'|.pan v=>EX x v H'
theorem zlo {L t:TS} {r q:Nat} {H:Heap} {d:SR} {o:Own} (h:EI L r q H t d o) (hl:wT L≤zk) (ht:d.told=false) (hi:SI d) :
  ACalls Tryz.prog 101 [.ptr q 0] H (EE L r q (zam d t)):=by
 refine ACalls.goO (R:=EQ L r q (zam d t)) (RP:=EX (zam d t)) ir101 ck101 (Al4 _) fun KP Q hQ hP=>?_
 have pan:∀(v:AV) (H1:Heap) (n:Int),v=yt n→zam d t=.error n→KP v H1:=fun v H1 n h1 h2=>hP v H1 H1 (Low.refl _) ⟨n,h1,h2⟩
 have hx:=Eq.refl (zam d t)
 conv at hx=>rhs;unfold zam
 obtain⟨hq0,hm0⟩:=hi ht
 have b0:=h.box
 simp only[rq] at b0
 have E0:EI L r q (H.upd q (.cells (rq r ⟨d.defs,d.q,d.m,true⟩ o))) t ⟨d.defs,d.q,d.m,true⟩ o:=h.set rfl
 have nqr:=h.ne
 simp only[rq] at E0
 simp(disch:=omega) only[ir101,b0,go_sem]
 refine goK_both (YY E0.rd hl [123]) (fun v H1 ⟨_,t1,e1,hv1,a1⟩=>?_) fun v H1 ⟨n,e1,hv1⟩=>pan v H1 n hv1 (by rw[hx,e1];rfl)
 subst hv1
 rw[e1,zl] at hx
 have E1:=E0.call a1
 have b1:=E1.box
 simp only[rq] at b1
 simp(disch:=omega) only[b1,go_sem]
 refine goK_ret (Yw E1.rd hl [113,117,101,114,121]) fun v H2 ⟨hv2,a2⟩=>?_
 subst hv2
 have E2:=E1.call a2
 unfold z1 at E2
 have b2:=E2.box
 simp only[rq] at b2
 cases hw:isW [113,117,101,114,121] t1 with
 | false =>
  rw[hw] at hx
  simp(disch:=omega) only[b2,go_sem]
  exact goK_both (zaA _ r 2) (fun _ _ h=>h.elim) fun v H3 h=>pan v H3 2 h hx
 | true =>
  rw[hw] at hx E2
  simp only[if_true,zl] at hx E2
  simp(disch:=omega) only[b2,go_sem]
  refine goK_both (YY E2.rd hl [58]) (fun v H3 ⟨_,t3,e3,hv3,a3⟩=>?_) fun v H3 ⟨n,e3,hv3⟩=>pan v H3 n hv3 (by rw[hx,e3];rfl)
  subst hv3
  rw[e3,zl] at hx
  have E3:=E2.call a3
  have b3:=E3.box
  simp only[rq] at b3
  simp(disch:=omega) only[b3,go_sem]
  refine goK_both (zav E3.rd hl) (fun v H4 ⟨qn,t4,e4,hv4,a4⟩=>?_) fun v H4 ⟨n,e4,hv4⟩=>pan v H4 n hv4 (by rw[hx,e4];rfl)
  subst hv4
  rw[e4,zl] at hx
  have E4':=E3.call a4
  have b4:=E4'.box
  have E4:EI L r q (H4.upd q (.cells (rq r ⟨d.defs,qn,d.m,true⟩ o))) t4 ⟨d.defs,qn,d.m,true⟩ o:=E4'.set rfl
  simp only[rq] at b4 E4
  simp(disch:=omega) only[b4,go_sem]
  refine goK_ret (Yw E4.rd hl [109,117,116,97,116,105,111,110]) fun v H5 ⟨hv5,a5⟩=>?_
  subst hv5
  have E5:=E4.call a5
  unfold z1 at E5
  have b5:=E5.box
  simp only[rq] at b5
  cases hmw:isW [109,117,116,97,116,105,111,110] t4 with
  | false =>
   rw[hmw] at hx E5
   simp only[Al7,if_false,zl] at hx E5
   simp(disch:=omega) only[b5,go_sem]
   refine goK_both (YY E5.rd hl [125]) (fun v H6 ⟨_,t6,e6,hv6,a6⟩=>?_) fun v H6 ⟨n,e6,hv6⟩=>pan v H6 n hv6 (by rw[hx,e6];rfl)
   subst hv6
   rw[e6,zl] at hx
   have E6:=E5.call a6
   rw[hm0] at E6
   simp(disch:=omega) only[go_sem]
   exact hQ _ _ _ _ [] nofun rfl (Low.refl _) ⟨rfl,_,_,o,hx,E6⟩
  | true =>
   rw[hmw] at hx E5
   simp only[if_true] at hx E5
   simp(disch:=omega) only[b5,go_sem]
   refine goK_both (YY E5.rd hl [58]) (fun v H6 ⟨_,t6,e6,hv6,a6⟩=>?_) fun v H6 ⟨n,e6,hv6⟩=>pan v H6 n hv6 (by rw[hx,e6];rfl)
   subst hv6
   rw[e6,zl] at hx
   have E6:=E5.call a6
   have b6:=E6.box
   simp only[rq] at b6
   simp(disch:=omega) only[b6,go_sem]
   refine goK_both (zav E6.rd hl) (fun v H7 ⟨mn,t7,e7,hv7,a7⟩=>?_) fun v H7 ⟨n,e7,hv7⟩=>pan v H7 n hv7 (by rw[hx,e7];rfl)
   subst hv7
   rw[e7,zl] at hx
   have E7':=E6.call a7
   have b7:=E7'.box
   have E7:EI L r q (H7.upd q (.cells (rq r ⟨d.defs,qn,mn,true⟩ o))) t7 ⟨d.defs,qn,mn,true⟩ o:=E7'.set rfl
   simp only[rq] at b7 E7
   simp(disch:=omega) only[b7,go_sem]
   refine goK_both (YY E7.rd hl [125]) (fun v H8 ⟨_,t8,e8,hv8,a8⟩=>?_) fun v H8 ⟨n,e8,hv8⟩=>pan v H8 n hv8 (by rw[hx,e8];rfl)
   subst hv8
   rw[e8,zl] at hx
   have E8:=E7.call a8
   simp(disch:=omega) only[go_sem]
   exact hQ _ _ _ _ [] nofun rfl (Low.refl _) ⟨rfl,_,_,o,hx,E8⟩
theorem y5 (a b c d e f:AV) (x:DefD):splice [a,b,c,d,e,f] 0 (cE x)=cE x:=rfl
theorem zcM {L t:TS} {r q:Nat} {H:Heap} {d:SR} {o:Own} (h:EI L r q H t d o) (hl:wT L≤zk) (hi:SI d) (hlen:d.defs.length≤L.length) :
  ACalls Tryz.prog 42 [.ptr q 0] H (EE L r q (zN d t)):=by
 refine ACalls.goO (R:=EQ L r q (zN d t)) (RP:=EX (zN d t)) ir42 ck42 (Al4 _) fun KP Q hQ hP=>?_
 have pan:∀(v:AV) (H1:Heap) (n:Int),v=yt n→zN d t=.error n→KP v H1:=fun v H1 n h1 h2=>hP v H1 H1 (Low.refl _) ⟨n,h1,h2⟩
 have hll:=zba hl
 simp only[zk] at hll
 have hcl:=zcZ d.defs
 have b0:=h.box
 simp only[rq] at b0
 simp(disch:=omega) only[ir42,b0,go_sem]
 refine goK_ret (zaS h.rd hl) fun v H1 ⟨hv1,a1⟩=>?_
 subst hv1
 have E1:=h.call a1
 simp(disch:=omega) only[go_sem]
 refine goA_intro fun b2 hb2=>?_
 have n2:r≠b2:=fun e=>by obtain⟨p,_,hr⟩:=E1.rd;rw[e,hb2] at hr;cases hr
 have n2s:=Ne.symm n2
 have nq2:q≠b2:=fun e=>by have:=E1.box;rw[e,hb2] at this;cases this
 have E2:=E1.new hb2 (.cells zE)
 have g2:(H1.upd b2 (.cells zE)) b2=some (.cells zE):=upd_same ..
 have b2':=E2.box
 simp only[rq] at b2'
 by_cases hr:d.told=false∧isW [115,99,104,101,109,97] (zI t)=true
 ·obtain⟨ht,hw⟩:=hr
  have hx:zN d t=zam d (zI t).tail:=by unfold zN YL;rw[if_pos ⟨ht,hw⟩]
  rw[ht] at b2'
  simp(disch:=omega) only[b2',go_sem]
  refine goK_ret (Yw E2.rd hl [115,99,104,101,109,97]) fun v H3 ⟨hv3,a3⟩=>?_
  subst hv3
  have E3:=E2.call a3
  unfold z1 at E3
  rw[hw,if_pos rfl] at E3
  rw[hw]
  simp(disch:=omega) only[go_sem]
  refine goK_both (zlo E3 hl ht hi) (fun v H4 ⟨hv4,d',t',o',e4,E4⟩=>?_) fun v H4 ⟨n,hv4,e4⟩=>pan v H4 n hv4 (by rw[hx,e4])
  subst hv4
  simp(disch:=omega) only[go_sem]
  exact hQ _ _ _ _ [] nofun rfl (Low.refl _) ⟨rfl,d',t',o',by rw[hx,e4],E4⟩
 have h0:¬ (d.told=false∧isW [115,99,104,101,109,97] (zI t)=true):=hr
 have hc:d.told=true∨(d.told=false∧isW [115,99,104,101,109,97] (zI t)=false):=by
  cases h1:d.told with
  | true=>exact .inl rfl
  | false=>exact .inr ⟨rfl,by cases h2:isW [115,99,104,101,109,97] (zI t) with|true=>exact absurd ⟨h1,h2⟩ h0|false=>rfl⟩
 rcases hc with ht|⟨ht,hw⟩
 ·rw[ht] at b2'
  simp(disch:=omega) only[b2',go_sem]
  have bC0:=E2.box
  simp only[rq] at bC0
  try simp(disch:=omega) only[bC0,go_sem]
  refine goK_ret (Yw E2.rd hl [116,121,112,101]) fun v HA0 ⟨hvA,aA⟩=>?_
  subst hvA
  have EA0:=E2.call aA
  have gA0:=(aA.other n2s).trans g2
  unfold z1 at EA0
  cases hw0:isW [116,121,112,101] (zI t) with
  | true =>
   rw[hw0,if_pos rfl] at EA0
   have hx:zN d t=pb (za9 1 (zI t).tail) fun x t=>.ok (Zy d x,t):=by unfold zN YL;rw[if_neg h0,if_pos hw0]
   have bA:=EA0.box
   have qA:=EA0.box
   simp only[rq] at bA qA
   simp(disch:=omega) only[bA,go_sem]
   refine goK_both (zc2 1 qA EA0.ne EA0.rd hl) (fun v HB ⟨x,tB,eB,hvB,aB⟩=>?_) fun v HB ⟨n,eB,hvB⟩=>pan v HB n hvB (by rw[hx,eB];rfl)
   subst hvB
   rw[eB,zl] at hx
   have EB:=EA0.call aB
   have gB:=(aB.other n2s).trans gA0
   have bB:=EB.box
   simp only[rq] at bB
   simp(disch:=omega) only[gB,bB,nq2,Ne.symm nq2,yM,yf,y5,go_sem]
   have EC:=EB.cell gB n2 nq2 (.cells (cE x))
   refine goP_ownS (by rw[hcl];exact EC.own) (by simp only[hcl,Al2,Al3];omega) (by simp only[hcl,Al2,Al3,maxLen];omega) fun oD HD hsD=>?_
   have bD:=zv EC.own EC.box hsD.kept
   simp only[rq] at bD
   simp(disch:=omega) only[bD,go_sem]
   exact hQ _ _ _ _ [] nofun rfl (Low.refl _) ⟨rfl,_,_,oD,hx,EC.put x (by simpa[hcl] using hsD) (by simp) (by simp[cEs,yw])⟩
  | false =>
   rw[hw0] at EA0
   simp only[Al7,if_false] at EA0
   have bC1:=EA0.box
   simp only[rq] at bC1
   simp(disch:=omega) only[bC1,go_sem]
   refine goK_ret (Yw EA0.rd hl [105,110,116,101,114,102,97,99,101]) fun v HA1 ⟨hvA,aA⟩=>?_
   subst hvA
   have EA1:=EA0.call aA
   have gA1:=(aA.other n2s).trans gA0
   unfold z1 at EA1
   cases hw1:isW [105,110,116,101,114,102,97,99,101] (zI t) with
   | true =>
    rw[hw1,if_pos rfl] at EA1
    have hx:zN d t=pb (za9 2 (zI t).tail) fun x t=>.ok (Zy d x,t):=by unfold zN YL;rw[if_neg h0,if_neg (by rw[hw0];decide),if_pos hw1]
    have bA:=EA1.box
    have qA:=EA1.box
    simp only[rq] at bA qA
    simp(disch:=omega) only[bA,go_sem]
    refine goK_both (zc2 2 qA EA1.ne EA1.rd hl) (fun v HB ⟨x,tB,eB,hvB,aB⟩=>?_) fun v HB ⟨n,eB,hvB⟩=>pan v HB n hvB (by rw[hx,eB];rfl)
    subst hvB
    rw[eB,zl] at hx
    have EB:=EA1.call aB
    have gB:=(aB.other n2s).trans gA1
    have bB:=EB.box
    simp only[rq] at bB
    simp(disch:=omega) only[gB,bB,nq2,Ne.symm nq2,yM,yf,y5,go_sem]
    have EC:=EB.cell gB n2 nq2 (.cells (cE x))
    refine goP_ownS (by rw[hcl];exact EC.own) (by simp only[hcl,Al2,Al3];omega) (by simp only[hcl,Al2,Al3,maxLen];omega) fun oD HD hsD=>?_
    have bD:=zv EC.own EC.box hsD.kept
    simp only[rq] at bD
    simp(disch:=omega) only[bD,go_sem]
    exact hQ _ _ _ _ [] nofun rfl (Low.refl _) ⟨rfl,_,_,oD,hx,EC.put x (by simpa[hcl] using hsD) (by simp) (by simp[cEs,yw])⟩
   | false =>
    rw[hw1] at EA1
    simp only[Al7,if_false] at EA1
    have bC2:=EA1.box
    simp only[rq] at bC2
    simp(disch:=omega) only[bC2,go_sem]
    refine goK_ret (Yw EA1.rd hl [117,110,105,111,110]) fun v HA2 ⟨hvA,aA⟩=>?_
    subst hvA
    have EA2:=EA1.call aA
    have gA2:=(aA.other n2s).trans gA1
    unfold z1 at EA2
    cases hw2:isW [117,110,105,111,110] (zI t) with
    | true =>
     rw[hw2,if_pos rfl] at EA2
     have hx:zN d t=pb (ZN (zI t).tail) fun x t=>.ok (Zy d x,t):=by unfold zN YL;rw[if_neg h0,if_neg (by rw[hw0];decide),if_neg (by rw[hw1];decide),if_pos hw2]
     have bA:=EA2.box
     have qA:=EA2.box
     simp only[rq] at bA qA
     simp(disch:=omega) only[bA,go_sem]
     refine goK_both (zir qA EA2.ne EA2.rd hl) (fun v HB ⟨x,tB,eB,hvB,aB⟩=>?_) fun v HB ⟨n,eB,hvB⟩=>pan v HB n hvB (by rw[hx,eB];rfl)
     subst hvB
     rw[eB,zl] at hx
     have EB:=EA2.call aB
     have gB:=(aB.other n2s).trans gA2
     have bB:=EB.box
     simp only[rq] at bB
     simp(disch:=omega) only[gB,bB,nq2,Ne.symm nq2,yM,yf,y5,go_sem]
     have EC:=EB.cell gB n2 nq2 (.cells (cE x))
     refine goP_ownS (by rw[hcl];exact EC.own) (by simp only[hcl,Al2,Al3];omega) (by simp only[hcl,Al2,Al3,maxLen];omega) fun oD HD hsD=>?_
     have bD:=zv EC.own EC.box hsD.kept
     simp only[rq] at bD
     simp(disch:=omega) only[bD,go_sem]
     exact hQ _ _ _ _ [] nofun rfl (Low.refl _) ⟨rfl,_,_,oD,hx,EC.put x (by simpa[hcl] using hsD) (by simp) (by simp[cEs,yw])⟩
    | false =>
     rw[hw2] at EA2
     simp only[Al7,if_false] at EA2
     have bC3:=EA2.box
     simp only[rq] at bC3
     simp(disch:=omega) only[bC3,go_sem]
     refine goK_ret (Yw EA2.rd hl [101,110,117,109]) fun v HA3 ⟨hvA,aA⟩=>?_
     subst hvA
     have EA3:=EA2.call aA
     have gA3:=(aA.other n2s).trans gA2
     unfold z1 at EA3
     cases hw3:isW [101,110,117,109] (zI t) with
     | true =>
      rw[hw3,if_pos rfl] at EA3
      have hx:zN d t=pb (Y2 (zI t).tail) fun x t=>.ok (Zy d x,t):=by unfold zN YL;rw[if_neg h0,if_neg (by rw[hw0];decide),if_neg (by rw[hw1];decide),if_neg (by rw[hw2];decide),if_pos hw3]
      have bA:=EA3.box
      have qA:=EA3.box
      simp only[rq] at bA qA
      simp(disch:=omega) only[bA,go_sem]
      refine goK_both (zkB qA EA3.ne EA3.rd hl) (fun v HB ⟨x,tB,eB,hvB,aB⟩=>?_) fun v HB ⟨n,eB,hvB⟩=>pan v HB n hvB (by rw[hx,eB];rfl)
      subst hvB
      rw[eB,zl] at hx
      have EB:=EA3.call aB
      have gB:=(aB.other n2s).trans gA3
      have bB:=EB.box
      simp only[rq] at bB
      simp(disch:=omega) only[gB,bB,nq2,Ne.symm nq2,yM,yf,y5,go_sem]
      have EC:=EB.cell gB n2 nq2 (.cells (cE x))
      refine goP_ownS (by rw[hcl];exact EC.own) (by simp only[hcl,Al2,Al3];omega) (by simp only[hcl,Al2,Al3,maxLen];omega) fun oD HD hsD=>?_
      have bD:=zv EC.own EC.box hsD.kept
      simp only[rq] at bD
      simp(disch:=omega) only[bD,go_sem]
      exact hQ _ _ _ _ [] nofun rfl (Low.refl _) ⟨rfl,_,_,oD,hx,EC.put x (by simpa[hcl] using hsD) (by simp) (by simp[cEs,yw])⟩
     | false =>
      rw[hw3] at EA3
      simp only[Al7,if_false] at EA3
      have bC4:=EA3.box
      simp only[rq] at bC4
      simp(disch:=omega) only[bC4,go_sem]
      refine goK_ret (Yw EA3.rd hl [105,110,112,117,116]) fun v HA4 ⟨hvA,aA⟩=>?_
      subst hvA
      have EA4:=EA3.call aA
      have gA4:=(aA.other n2s).trans gA3
      unfold z1 at EA4
      cases hw4:isW [105,110,112,117,116] (zI t) with
      | true =>
       rw[hw4,if_pos rfl] at EA4
       have hx:zN d t=pb (ZQ (zI t).tail) fun x t=>.ok (Zy d x,t):=by unfold zN YL;rw[if_neg h0,if_neg (by rw[hw0];decide),if_neg (by rw[hw1];decide),if_neg (by rw[hw2];decide),if_neg (by rw[hw3];decide),if_pos hw4]
       have bA:=EA4.box
       have qA:=EA4.box
       simp only[rq] at bA qA
       simp(disch:=omega) only[bA,go_sem]
       refine goK_both (ziV qA EA4.ne EA4.rd hl) (fun v HB ⟨x,tB,eB,hvB,aB⟩=>?_) fun v HB ⟨n,eB,hvB⟩=>pan v HB n hvB (by rw[hx,eB];rfl)
       subst hvB
       rw[eB,zl] at hx
       have EB:=EA4.call aB
       have gB:=(aB.other n2s).trans gA4
       have bB:=EB.box
       simp only[rq] at bB
       simp(disch:=omega) only[gB,bB,nq2,Ne.symm nq2,yM,yf,y5,go_sem]
       have EC:=EB.cell gB n2 nq2 (.cells (cE x))
       refine goP_ownS (by rw[hcl];exact EC.own) (by simp only[hcl,Al2,Al3];omega) (by simp only[hcl,Al2,Al3,maxLen];omega) fun oD HD hsD=>?_
       have bD:=zv EC.own EC.box hsD.kept
       simp only[rq] at bD
       simp(disch:=omega) only[bD,go_sem]
       exact hQ _ _ _ _ [] nofun rfl (Low.refl _) ⟨rfl,_,_,oD,hx,EC.put x (by simpa[hcl] using hsD) (by simp) (by simp[cEs,yw])⟩
      | false =>
       rw[hw4] at EA4
       simp only[Al7,if_false] at EA4
       have bF:=EA4.box
       simp only[rq] at bF
       simp(disch:=omega) only[bF,go_sem]
       exact goK_both (zaA _ r 2) (fun _ _ h=>h.elim) fun v H3 h=>pan v H3 2 h (by unfold zN YL;rw[if_neg h0,if_neg (by rw[hw0];decide),if_neg (by rw[hw1];decide),if_neg (by rw[hw2];decide),if_neg (by rw[hw3];decide),if_neg (by rw[hw4];decide)])
 ·rw[ht] at b2'
  simp(disch:=omega) only[b2',go_sem]
  refine goK_ret (Yw E2.rd hl [115,99,104,101,109,97]) fun v H3 ⟨hv3,a3⟩=>?_
  subst hv3
  have E2:=E2.call a3
  have g2:=(a3.other n2s).trans g2
  unfold z1 at E2
  rw[hw] at E2
  simp only[Al7,if_false] at E2
  rw[hw]
  simp(disch:=omega) only[go_sem]
  have bC0:=E2.box
  simp only[rq] at bC0
  try simp(disch:=omega) only[bC0,go_sem]
  refine goK_ret (Yw E2.rd hl [116,121,112,101]) fun v HA0 ⟨hvA,aA⟩=>?_
  subst hvA
  have EA0:=E2.call aA
  have gA0:=(aA.other n2s).trans g2
  unfold z1 at EA0
  cases hw0:isW [116,121,112,101] (zI t) with
  | true =>
   rw[hw0,if_pos rfl] at EA0
   have hx:zN d t=pb (za9 1 (zI t).tail) fun x t=>.ok (Zy d x,t):=by unfold zN YL;rw[if_neg h0,if_pos hw0]
   have bA:=EA0.box
   have qA:=EA0.box
   simp only[rq] at bA qA
   simp(disch:=omega) only[bA,go_sem]
   refine goK_both (zc2 1 qA EA0.ne EA0.rd hl) (fun v HB ⟨x,tB,eB,hvB,aB⟩=>?_) fun v HB ⟨n,eB,hvB⟩=>pan v HB n hvB (by rw[hx,eB];rfl)
   subst hvB
   rw[eB,zl] at hx
   have EB:=EA0.call aB
   have gB:=(aB.other n2s).trans gA0
   have bB:=EB.box
   simp only[rq] at bB
   simp(disch:=omega) only[gB,bB,nq2,Ne.symm nq2,yM,yf,y5,go_sem]
   have EC:=EB.cell gB n2 nq2 (.cells (cE x))
   refine goP_ownS (by rw[hcl];exact EC.own) (by simp only[hcl,Al2,Al3];omega) (by simp only[hcl,Al2,Al3,maxLen];omega) fun oD HD hsD=>?_
   have bD:=zv EC.own EC.box hsD.kept
   simp only[rq] at bD
   simp(disch:=omega) only[bD,go_sem]
   exact hQ _ _ _ _ [] nofun rfl (Low.refl _) ⟨rfl,_,_,oD,hx,EC.put x (by simpa[hcl] using hsD) (by simp) (by simp[cEs,yw])⟩
  | false =>
   rw[hw0] at EA0
   simp only[Al7,if_false] at EA0
   have bC1:=EA0.box
   simp only[rq] at bC1
   simp(disch:=omega) only[bC1,go_sem]
   refine goK_ret (Yw EA0.rd hl [105,110,116,101,114,102,97,99,101]) fun v HA1 ⟨hvA,aA⟩=>?_
   subst hvA
   have EA1:=EA0.call aA
   have gA1:=(aA.other n2s).trans gA0
   unfold z1 at EA1
   cases hw1:isW [105,110,116,101,114,102,97,99,101] (zI t) with
   | true =>
    rw[hw1,if_pos rfl] at EA1
    have hx:zN d t=pb (za9 2 (zI t).tail) fun x t=>.ok (Zy d x,t):=by unfold zN YL;rw[if_neg h0,if_neg (by rw[hw0];decide),if_pos hw1]
    have bA:=EA1.box
    have qA:=EA1.box
    simp only[rq] at bA qA
    simp(disch:=omega) only[bA,go_sem]
    refine goK_both (zc2 2 qA EA1.ne EA1.rd hl) (fun v HB ⟨x,tB,eB,hvB,aB⟩=>?_) fun v HB ⟨n,eB,hvB⟩=>pan v HB n hvB (by rw[hx,eB];rfl)
    subst hvB
    rw[eB,zl] at hx
    have EB:=EA1.call aB
    have gB:=(aB.other n2s).trans gA1
    have bB:=EB.box
    simp only[rq] at bB
    simp(disch:=omega) only[gB,bB,nq2,Ne.symm nq2,yM,yf,y5,go_sem]
    have EC:=EB.cell gB n2 nq2 (.cells (cE x))
    refine goP_ownS (by rw[hcl];exact EC.own) (by simp only[hcl,Al2,Al3];omega) (by simp only[hcl,Al2,Al3,maxLen];omega) fun oD HD hsD=>?_
    have bD:=zv EC.own EC.box hsD.kept
    simp only[rq] at bD
    simp(disch:=omega) only[bD,go_sem]
    exact hQ _ _ _ _ [] nofun rfl (Low.refl _) ⟨rfl,_,_,oD,hx,EC.put x (by simpa[hcl] using hsD) (by simp) (by simp[cEs,yw])⟩
   | false =>
    rw[hw1] at EA1
    simp only[Al7,if_false] at EA1
    have bC2:=EA1.box
    simp only[rq] at bC2
    simp(disch:=omega) only[bC2,go_sem]
    refine goK_ret (Yw EA1.rd hl [117,110,105,111,110]) fun v HA2 ⟨hvA,aA⟩=>?_
    subst hvA
    have EA2:=EA1.call aA
    have gA2:=(aA.other n2s).trans gA1
    unfold z1 at EA2
    cases hw2:isW [117,110,105,111,110] (zI t) with
    | true =>
     rw[hw2,if_pos rfl] at EA2
     have hx:zN d t=pb (ZN (zI t).tail) fun x t=>.ok (Zy d x,t):=by unfold zN YL;rw[if_neg h0,if_neg (by rw[hw0];decide),if_neg (by rw[hw1];decide),if_pos hw2]
     have bA:=EA2.box
     have qA:=EA2.box
     simp only[rq] at bA qA
     simp(disch:=omega) only[bA,go_sem]
     refine goK_both (zir qA EA2.ne EA2.rd hl) (fun v HB ⟨x,tB,eB,hvB,aB⟩=>?_) fun v HB ⟨n,eB,hvB⟩=>pan v HB n hvB (by rw[hx,eB];rfl)
     subst hvB
     rw[eB,zl] at hx
     have EB:=EA2.call aB
     have gB:=(aB.other n2s).trans gA2
     have bB:=EB.box
     simp only[rq] at bB
     simp(disch:=omega) only[gB,bB,nq2,Ne.symm nq2,yM,yf,y5,go_sem]
     have EC:=EB.cell gB n2 nq2 (.cells (cE x))
     refine goP_ownS (by rw[hcl];exact EC.own) (by simp only[hcl,Al2,Al3];omega) (by simp only[hcl,Al2,Al3,maxLen];omega) fun oD HD hsD=>?_
     have bD:=zv EC.own EC.box hsD.kept
     simp only[rq] at bD
     simp(disch:=omega) only[bD,go_sem]
     exact hQ _ _ _ _ [] nofun rfl (Low.refl _) ⟨rfl,_,_,oD,hx,EC.put x (by simpa[hcl] using hsD) (by simp) (by simp[cEs,yw])⟩
    | false =>
     rw[hw2] at EA2
     simp only[Al7,if_false] at EA2
     have bC3:=EA2.box
     simp only[rq] at bC3
     simp(disch:=omega) only[bC3,go_sem]
     refine goK_ret (Yw EA2.rd hl [101,110,117,109]) fun v HA3 ⟨hvA,aA⟩=>?_
     subst hvA
     have EA3:=EA2.call aA
     have gA3:=(aA.other n2s).trans gA2
     unfold z1 at EA3
     cases hw3:isW [101,110,117,109] (zI t) with
     | true =>
      rw[hw3,if_pos rfl] at EA3
      have hx:zN d t=pb (Y2 (zI t).tail) fun x t=>.ok (Zy d x,t):=by unfold zN YL;rw[if_neg h0,if_neg (by rw[hw0];decide),if_neg (by rw[hw1];decide),if_neg (by rw[hw2];decide),if_pos hw3]
      have bA:=EA3.box
      have qA:=EA3.box
      simp only[rq] at bA qA
      simp(disch:=omega) only[bA,go_sem]
      refine goK_both (zkB qA EA3.ne EA3.rd hl) (fun v HB ⟨x,tB,eB,hvB,aB⟩=>?_) fun v HB ⟨n,eB,hvB⟩=>pan v HB n hvB (by rw[hx,eB];rfl)
      subst hvB
      rw[eB,zl] at hx
      have EB:=EA3.call aB
      have gB:=(aB.other n2s).trans gA3
      have bB:=EB.box
      simp only[rq] at bB
      simp(disch:=omega) only[gB,bB,nq2,Ne.symm nq2,yM,yf,y5,go_sem]
      have EC:=EB.cell gB n2 nq2 (.cells (cE x))
      refine goP_ownS (by rw[hcl];exact EC.own) (by simp only[hcl,Al2,Al3];omega) (by simp only[hcl,Al2,Al3,maxLen];omega) fun oD HD hsD=>?_
      have bD:=zv EC.own EC.box hsD.kept
      simp only[rq] at bD
      simp(disch:=omega) only[bD,go_sem]
      exact hQ _ _ _ _ [] nofun rfl (Low.refl _) ⟨rfl,_,_,oD,hx,EC.put x (by simpa[hcl] using hsD) (by simp) (by simp[cEs,yw])⟩
     | false =>
      rw[hw3] at EA3
      simp only[Al7,if_false] at EA3
      have bC4:=EA3.box
      simp only[rq] at bC4
      simp(disch:=omega) only[bC4,go_sem]
      refine goK_ret (Yw EA3.rd hl [105,110,112,117,116]) fun v HA4 ⟨hvA,aA⟩=>?_
      subst hvA
      have EA4:=EA3.call aA
      have gA4:=(aA.other n2s).trans gA3
      unfold z1 at EA4
      cases hw4:isW [105,110,112,117,116] (zI t) with
      | true =>
       rw[hw4,if_pos rfl] at EA4
       have hx:zN d t=pb (ZQ (zI t).tail) fun x t=>.ok (Zy d x,t):=by unfold zN YL;rw[if_neg h0,if_neg (by rw[hw0];decide),if_neg (by rw[hw1];decide),if_neg (by rw[hw2];decide),if_neg (by rw[hw3];decide),if_pos hw4]
       have bA:=EA4.box
       have qA:=EA4.box
       simp only[rq] at bA qA
       simp(disch:=omega) only[bA,go_sem]
       refine goK_both (ziV qA EA4.ne EA4.rd hl) (fun v HB ⟨x,tB,eB,hvB,aB⟩=>?_) fun v HB ⟨n,eB,hvB⟩=>pan v HB n hvB (by rw[hx,eB];rfl)
       subst hvB
       rw[eB,zl] at hx
       have EB:=EA4.call aB
       have gB:=(aB.other n2s).trans gA4
       have bB:=EB.box
       simp only[rq] at bB
       simp(disch:=omega) only[gB,bB,nq2,Ne.symm nq2,yM,yf,y5,go_sem]
       have EC:=EB.cell gB n2 nq2 (.cells (cE x))
       refine goP_ownS (by rw[hcl];exact EC.own) (by simp only[hcl,Al2,Al3];omega) (by simp only[hcl,Al2,Al3,maxLen];omega) fun oD HD hsD=>?_
       have bD:=zv EC.own EC.box hsD.kept
       simp only[rq] at bD
       simp(disch:=omega) only[bD,go_sem]
       exact hQ _ _ _ _ [] nofun rfl (Low.refl _) ⟨rfl,_,_,oD,hx,EC.put x (by simpa[hcl] using hsD) (by simp) (by simp[cEs,yw])⟩
      | false =>
       rw[hw4] at EA4
       simp only[Al7,if_false] at EA4
       have bF:=EA4.box
       simp only[rq] at bF
       simp(disch:=omega) only[bF,go_sem]
       exact goK_both (zaA _ r 2) (fun _ _ h=>h.elim) fun v H3 h=>pan v H3 2 h (by unfold zN YL;rw[if_neg h0,if_neg (by rw[hw0];decide),if_neg (by rw[hw1];decide),if_neg (by rw[hw2];decide),if_neg (by rw[hw3];decide),if_neg (by rw[hw4];decide)])
def ZJ (s:List UInt8):SchD×Int:=match yB s with
 | .error n=>(⟨[],[],[]⟩,n)
 | .ok L=>match zcj L with
  | .error n=>(⟨[],[],[]⟩,n)
  | .ok (d,_)=>(zbO d,0)
abbrev zcR:List AV:=[.sl .nil 6 [],.str [],.str []]
def zje (s:List UInt8) (b:Nat) (n:Int) (H:Heap):Prop:=(n≠0∧ZJ s=(⟨[],[],[]⟩,n))∨(n=0∧∃ d o,ZJ s=(d,0)∧H b=some (.cells [.sl o 6 (cEs d.defs),.str d.q,.str d.m]))
def zd1 (l:List DefD):List UInt8:=if l.any fun x=>decide (x.nm=[77,117,116,97,116,105,111,110]) then [77,117,116,97,116,105,111,110] else []
theorem zet (l:List DefD) (x:DefD):zd1 (l++[x])=if x.nm=[77,117,116,97,116,105,111,110] then [77,117,116,97,116,105,111,110] else zd1 l:=by
 unfold zd1
 rw[List.any_append]
 by_cases h:x.nm=[77,117,116,97,116,105,111,110]
 ·simp[h]
 ·simp[h]
set_option maxHeartbeats 1000000 in
theorem zj6 {s:List UInt8} {L:List Tok} (hR:yB s=.ok L) {Hc:Heap} {b6 r:Nat} (h6:Hc b6=some (.cells zcR)) (hr:Hc r=none) :
  ACalls Tryz.prog 41 [.ptr r 0,.ptr b6 0] (Hc.upd r (prc L [] 0)) (fun e H'=>match e with
   | .ret _=>∃ p t dp,p++t=L∧H' r=some (prc L p dp)∧zje s b6 (if t=[] then 0 else 2) H'
   | .pan v=>∃ n,v=yt n∧∀ H,zje s b6 n H):=by
 refine ACalls.goO (R:=fun _ H'=>∃ p t dp,p++t=L∧H' r=some (prc L p dp)∧zje s b6 (if t=[] then 0 else 2) H') (RP:=fun v _=>∃ n,v=yt n∧∀ H,zje s b6 n H) ir41 ck41 (Al4 _) fun KP Q hQ hP=>?_
 have n6:b6≠r:=fun e=>by subst e;rw[hr] at h6;cases h6
 have hw:=ze7 hR
 have hll:=zba hw
 simp only[zk] at hll
 have pan:∀(v:AV) (H1:Heap) (n:Int),v=yt n→zcj L=.error n→KP v H1:=fun v H1 n h1 h2=>hP v H1 H1 (Low.refl _) ⟨n,h1,fun H=>.inl ⟨zgW _ _ h2,by unfold ZJ;rw[hR];simp only[h2]⟩⟩
 simp(disch:=omega) only[ir41,go_sem]
 refine goA_intro fun q hq=>?_
 have nqr:q≠r:=fun e=>by subst e;rw[upd_same] at hq;cases hq
 have nq6:q≠b6:=fun e=>by subst e;rw[upd_ne n6,h6] at hq;cases hq
 have E0:EI L r q ((Hc.upd r (prc L [] 0)).upd q (.cells (rq r sr0 .nil))) L sr0 .nil:=⟨⟨[],rfl,by rw[upd_ne (Ne.symm nqr),upd_same]⟩,upd_same ..,rfl,nqr⟩
 have g6:((Hc.upd r (prc L [] 0)).upd q (.cells (rq r sr0 .nil))) b6=some (.cells zcR):=by rw[upd_ne (Ne.symm nq6),upd_ne n6,h6]
 simp(disch:=omega) only[go_sem]
 refine goK_calls (zbX g6 (zcM (E0.del g6 (Ne.symm n6) nq6) hw (fun _=>⟨rfl,rfl⟩) (Nat.zero_le _))) fun e H1 ⟨A1,hq1,hA1,hH1⟩=>?_
 cases e with
 | pan v =>
  obtain⟨n,hv,he⟩:=hq1
  exact pan v H1 n hv (by unfold zcj;rw[he];rfl)
 | ret v =>
  obtain⟨hv,d1,t1,o1,e1,E1⟩:=hq1
  subst hv
  have E1:EI L r q H1 t1 d1 o1:=by rw[hH1];exact E1.un
  have g61:H1 b6=some (.cells zcR):=by rw[hH1];simp[Heap.union,hA1,Heap.one]
  have hlt1:=zbV e1
  obtain⟨hl1,hi1⟩:=zct e1
  obtain⟨R,hRR⟩:∃ R,Yu (t1.length+1) d1 t1=R:=⟨_,rfl⟩
  have hx:zcj L=R:=by unfold zcj;rw[e1];exact hRR
  show goR _ _ _ _ _ _ _ _ _
  simp(disch:=omega) only[go_sem]
  refine goL_st (fun x:SR×TS×Own=>[]) (fun x H'=>EI L r q H' x.2.1 x.1 x.2.2∧H' b6=some (.cells zcR)∧(∃ m,x.2.1.length<m∧Yu m x.1 x.2.1=R)∧SI x.1∧x.1.defs.length+x.2.1.length≤L.length) (fun x=>x.2.1.length) (d1,t1,o1) (by simp(disch:=omega) only[go_sem]) ⟨E1,g61,⟨_,Nat.lt_succ_self _,hRR⟩,hi1 fun _=>⟨rfl,rfl⟩,by have:sr0.defs.length=0:=rfl;simp only;omega⟩ ?_
  rintro⟨d,t,o⟩ H2 J ⟨E2,g62,⟨m,hm,hR2⟩,hsi,hlen⟩ hJ
  simp only at E2 g62 hm hR2 hsi hlen
  obtain⟨m,rfl⟩:∃ j,m=j+1:=⟨m-1,by omega⟩
  obtain⟨p,hp,hr2⟩:=E2.rd
  have b2:=E2.box
  simp only[rq] at b2
  rw[Yu] at hR2
  simp(disch:=omega) only[b2,go_sem]
  refine goK_ret (zic hp hr2) fun v3 H3 ⟨hv3,hH3⟩=>?_
  subst hv3;subst hH3
  by_cases ht:t=[]
  ·rw[if_pos ht] at hR2
   have hd:decide (t≠[])=false:=by simp[ht]
   have es:ZJ s=(zbO d,0):=by unfold ZJ;rw[hR];simp only[hx,← hR2]
   have hif:(if t=[] then (0:Int) else 2)=0:=if_pos ht
   have hcl:=zcZ d.defs
   rw[hd]
   simp only[zcR] at g62
   cases htd:d.told with
   | true =>
    rw[htd] at b2
    simp(disch:=omega) only[b2,g62,nq6,Ne.symm nq6,go_sem]
    refine hQ _ _ _ _ [] nofun rfl (Low.refl _) ⟨p,t,16-16,hp,by rw[upd_ne (Ne.symm n6)];exact hr2,?_⟩
    rw[hif]
    exact .inr ⟨rfl,zbO d,o,es,by rw[upd_same];simp[zbO,htd]⟩
   | false =>
    obtain⟨hq0,hm0⟩:=hsi htd
    have ef:zbO d=⟨d.defs,[81,117,101,114,121],zd1 d.defs⟩:=by simp[zbO,htd,zd1]
    rw[ef] at es
    rw[htd,hq0,hm0] at b2
    simp(disch:=omega) only[b2,g62,nq6,Ne.symm nq6,go_sem]
    refine goL_range d.defs 30 (fun x:Unit=>[]) (fun done rest x H'=>H' b6=some (.cells [.sl o 6 (cEs d.defs),.str [81,117,101,114,121],.str (zd1 done)])∧H' r=some (prc L p (16-16))) () (by simp(disch:=omega) only[go_sem]) ⟨by rw[upd_same];rfl,by rw[upd_ne (Ne.symm n6)];exact hr2⟩ ?_ ?_
    ·rintro _ H4 J4 ⟨g64,hr4⟩ hlt4
     simp(disch:=omega) only[hcl,hlt4,go_sem]
     refine hQ _ _ _ _ [] nofun rfl (Low.refl _) ⟨p,t,16-16,hp,hr4,?_⟩
     rw[hif]
     exact .inr ⟨rfl,_,o,es,g64⟩
    ·rintro done x rest _ H4 J4 hdd hlt4 hlt4' ⟨g64,hr4⟩ hJ4
     have hg:=zfl hdd
     have hms:=zet done x
     obtain⟨k,nm,faces,flds,parts,ps⟩:=x
     rw[ziI] at hg
     simp only at hms
     simp(disch:=omega) only[hcl,hlt4,hg,go_sem]
     refine goA_intro fun b5 hb5=>?_
     have h56:b5≠b6:=fun e=>by subst e;rw[g64] at hb5;cases hb5
     have h5r:b5≠r:=fun e=>by subst e;rw[hr4] at hb5;cases hb5
     by_cases hnm:nm=[77,117,116,97,116,105,111,110]
     ·rw[if_pos hnm] at hms
      have hnm':=eq_true hnm
      simp(disch:=omega) only[hg,hnm',g64,h56,Ne.symm h56,wrap64,go_sem]
      refine goJ (hJ4 () _ ⟨by rw[upd_same,hms],by rw[upd_ne (Ne.symm n6),upd_ne (Ne.symm h5r)];exact hr4⟩) (by simp(disch:=omega) only[hcl,go_sem])
     ·rw[if_neg hnm] at hms
      simp(disch:=omega) only[hg,hnm,g64,h56,Ne.symm h56,wrap64,go_sem]
      refine goJ (hJ4 () _ ⟨by rw[upd_ne (Ne.symm h56),hms];exact g64,by rw[upd_ne (Ne.symm h5r)];exact hr4⟩) (by simp(disch:=omega) only[hcl,go_sem])
  ·rw[if_neg ht] at hR2
   have hd:decide (t≠[])=true:=by simp[ht]
   rw[hd]
   simp(disch:=omega) only[go_sem]
   refine goK_calls (zbX g62 (zcM (E2.del g62 (Ne.symm n6) nq6) hw hsi (by omega))) fun e H4 ⟨A4,hq4,hA4,hH4⟩=>?_
   cases e with
   | pan v =>
    obtain⟨n,hv,he⟩:=hq4
    exact pan v H4 n hv (by rw[hx,← hR2,he];rfl)
   | ret v =>
    obtain⟨hv,d4,t4,o4,e4,E4⟩:=hq4
    subst hv
    have E4:EI L r q H4 t4 d4 o4:=by rw[hH4];exact E4.un
    have g64:H4 b6=some (.cells zcR):=by rw[hH4];simp[Heap.union,hA4,Heap.one]
    have hlt4:=zbV e4
    obtain⟨hl4,hi4⟩:=zct e4
    rw[e4,zl] at hR2
    show goR _ _ _ _ _ _ _ _ _
    simp(disch:=omega) only[go_sem]
    exact goJ (hJ (d4,t4,o4) _ (by simp only;omega) ⟨E4,g64,⟨m,by simp only;omega,hR2⟩,hi4 hsi,by simp only;omega⟩) (by simp(disch:=omega) only[go_sem])
theorem zdU (s:List UInt8) (hl:s.length≤Zi):Pure Tryz.prog 17 [.str s] (.tup [.agg (zcB (ZJ s).1),.int .i64 (ZJ s).2]):=by
 refine Pure.go ir17 ck17 (Al4 _) fun KP Q hQ=>?_
 simp(disch:=omega) only[ir17,go_sem]
 refine goA_intro fun b4 hb4=>?_
 simp(disch:=omega) only[go_sem]
 refine goA_intro fun b6 hb6=>?_
 have h64:b6≠b4:=fun e=>by subst e;rw[upd_same] at hb6;cases hb6
 have h6c:(Heap.one b6 (.cells zcR)) b6=some (.cells zcR):=by simp[Heap.one]
 have hc:=ACalls.frame (zjQ (x:=.cells zcR) h64) (zmj (s:=s) (Hc:=Heap.one b6 (.cells zcR)) (clo:=41) (caps:=[.ptr b6 0]) hl (by decide +kernel) (zje s b6)
  (fun n h=>.inl ⟨YT h,by unfold ZJ;rw[h]⟩) (fun L hR r hr=>zj6 hR h6c hr))
 rw[← zlA h64] at hc
 simp(disch:=omega) only[go_sem]
 refine goK_calls hc fun e H' ⟨A',hq,hd',hH'⟩=>?_
 subst hH'
 cases e with
 | pan v=>exact hq.elim
 | ret v =>
  obtain⟨n,hv,ho⟩:=hq
  subst hv
  have g4:=zl8 hd'
  simp only[zcR] at g4
  show goR _ _ _ _ _ _ _ _ _
  rcases ho with ⟨hn,he⟩|⟨hn,x,o1,he,h6⟩
  ·rw[he] at hQ
   simp(disch:=omega) only[hn,g4,go_sem]
   exact hQ _ _ _ [.agg [.sl .nil 6 [],.str [],.str []],.int .i64 n] nofun (by simp(disch:=omega) only[ir17,resvs,resv,go_sem]) (by simp[tupOf,AV.strip,AV.strip1,zcB,cEs])
  ·subst hn
   rw[he] at hQ
   have g6:=zmz (B:=Heap.one b4 (.cells zcR)) h6
   simp(disch:=omega) only[g4,g6,go_sem]
   exact hQ _ _ _ [.agg [.sl o1 6 (cEs x.defs),.str x.q,.str x.m],.int .i64 0] nofun (by simp(disch:=omega) only[ir17,resvs,resv,go_sem]) (by simp[tupOf,AV.strip,AV.strip1,zcB])
open Go.Lib
theorem zey (l:List (List UInt8)) (x:List UInt8) (h:l≠[]):Lib.join (l++[x]) [10]=Lib.join l [10]++(10::x):=by
 induction l with
 | nil=>exact absurd rfl h
 | cons a l ih =>
  cases l with
  | nil=>simp[Lib.join]
  | cons b l =>
   have:=ih (by simp)
   have e1:∀ r:List (List UInt8),Lib.join (a::b::r) [10]=a++10::Lib.join (b::r) [10]:=fun r=>by simp[Lib.join]
   rw[Al6,Al6,e1,e1]
   rw[Al6] at this
   rw[this];simp
theorem zb3 (D:List (List UInt8)) (tl:List AV) {i:Nat} (h:i<D.length):∃ x,D.drop i=x::D.drop (i+1)∧((yJ D++tl).drop (0+i*1)).take 1=[.str x]∧0+i*1+1≤(yJ D++tl).length∧x∈D∧D.take (i+1)=D.take i++[x]:=by
 obtain⟨a,x,b,hd,hai⟩:=zhf h
 have hg:=zaB hd tl
 have hle:=zb2 hd tl
 rw[hai] at hg hle
 refine⟨x,?_,hg,hle,by rw[hd];simp,?_⟩
 ·rw[hd,← hai,List.drop_left,← List.drop_drop,List.drop_left];rfl
 ·rw[hd,← hai,List.take_left,show a.length+1=(a++[x]).length by simp,show a++x::b=(a++[x])++b by simp,List.take_left]
theorem zke (raw:List UInt8) (hs:raw.length≤1099511600000):Pure Tryz.prog 201 [.str raw] (.str (zK raw)):=by
 refine Pure.go ir201 ck201 (Al4 _) fun KP Q hQ=>?_
 have hw0:wL (zo raw)≤raw.length+1:=by have:=YZ raw [];simpa[wL,zo] using this
 obtain⟨x0,T,hL⟩:∃ x T,zo raw=x::T:=by
  cases hx:zo raw with
  | nil=>exact absurd hx (zdh raw [])
  | cons x T=>exact⟨x,T,rfl⟩
 have hLl:=zaG (zo raw)
 simp(disch:=omega) only[ir201,go_sem]
 refine goK_ret (zjT raw (by simp only[Lim];omega)) fun v H1 ⟨b,cap,hv,hm⟩=>?_
 subst hv
 have hm0:=hm
 obtain⟨tl,hb,hcap⟩:=hm
 simp(disch:=omega) only[go_sem]
 refine goK_ret (zjv hm0 (fun s hsm=>by have:=Z0 hsm;simp only[Lim];omega) (by simp only[Lim];omega)) fun v H2 ⟨hv,hH⟩=>?_
 subst hv;subst hH
 obtain⟨n,hn⟩:∃ n,(indM (zo raw)).toNat=n:=⟨_,rfl⟩
 have hb':=hb
 rw[hL] at hb'
 have hmx:(if (0:Int) > indM (zo raw) then (0:Int) else indM (zo raw))=(n:Int):=by split<;>omega
 have hj0:Lib.join ([]:List (List UInt8)) [10]=[]:=by simp[Lib.join]
 simp(disch:=omega) only[hmx,go_sem]
 refine goL_st (fun x:List (List UInt8)×List (List UInt8)=>[(5,.int .i64 ((x.1.length:Int)+1))]) (fun x H'=>T=x.1++x.2∧H' b=some (.cells (yJ (x0::(x.1.map (fun s=>s.drop n)++x.2))++tl))) (fun x=>x.2.length) ([],T) (by simp(disch:=omega) only[Al3,go_sem]) ⟨rfl,by simpa using hb'⟩ ?_
 rintro⟨dn,rest⟩ H3 J3 ⟨hT,hb3⟩ hJ3
 simp only at hT hb3
 have hll:(zo raw).length=dn.length+rest.length+1:=by rw[hL,hT];simp
 cases rest with
 | cons y r =>
  have hlt:((dn.length:Int)+1<((zo raw).length:Int))=True:=eq_true (by simp at hll;omega)
  have hcur:x0::(dn.map (fun s=>s.drop n)++y::r)=(x0::dn.map (fun s=>s.drop n))++y::r:=rfl
  have hg:=zaB hcur tl
  have hle:=zb2 hcur tl
  have hal:(x0::dn.map (fun s=>s.drop n)).length=dn.length+1:=by simp
  have hst:∀ z,splice (yJ (x0::(dn.map (fun s=>s.drop n)++y::r))++tl) (0+(dn.length+1)*1) [.str z]=yJ (x0::(dn.map (fun s=>s.drop n)++z::r))++tl:=fun z=>by
   have:=zfO (x0::dn.map (fun s=>s.drop n)) y z r tl
   rw[hal] at this
   exact this
  rw[hal] at hg hle
  have h1:((dn.length:Int)+1).toNat=dn.length+1:=by omega
  have hy0:((0:Int)≤(y.length:Int))=True:=eq_true (by omega)
  have hyn:¬ ((y.length:Int)<0):=by omega
  have hln:dn.length≤1099511627777:=by omega
  have hbn:(yJ (x0::(dn.map (fun s=>s.drop n)++y::r))++tl).length=(yJ (x0::(dn.map (fun s=>s.drop n)++y::r))++tl).length:=rfl
  by_cases hmin:(y.length:Int)<(n:Int)
  ·simp(disch:=omega) only[hlt,h1,hb3,hg,hle,hst,hmin,hy0,List.drop_length,go_sem]
   refine goJ (hJ3 (dn++[y],r) _ (by simp) ⟨by rw[hT];simp,?_⟩) (by simp(disch:=omega) only[wrap64,Al5,Al2,Al3,Int.natCast_add,go_sem])
   rw[upd_same]
   simp[List.drop_eq_nil_of_le (show y.length≤n by omega)]
  ·have hny:((n:Int)≤(y.length:Int))=True:=eq_true (by omega)
   have hn0:((0:Int)≤(n:Int))=True:=eq_true (by omega)
   simp(disch:=omega) only[hlt,h1,hb3,hg,hle,hst,hmin,hny,hn0,go_sem]
   refine goJ (hJ3 (dn++[y],r) _ (by simp) ⟨by rw[hT];simp,?_⟩) (by simp(disch:=omega) only[wrap64,Al5,Al2,Al3,Int.natCast_add,go_sem])
   rw[upd_same]
   simp
 | nil =>
  have hlt:¬ ((dn.length:Int)+1<((zo raw).length:Int)):=by simp at hll;omega
  obtain⟨D,hDd⟩:∃ D,D=x0::T.map fun s=>s.drop n:=⟨_,rfl⟩
  have hDM:YJ (zo raw)=D:=by
   conv=>lhs;rw[hL]
   simp only[YJ]
   rw[← hL,hn,hDd]
  have hDl:D.length=(zo raw).length:=by rw[hDd,hL];simp
  have hbX:H3 b=some (.cells (yJ D++tl)):=by rw[hb3,hDd,hT];simp
  have hwD:wL D≤1099511627777:=by
   have:=zcV n T
   rw[hL] at hw0
   rw[hDd,Zh];rw[Zh] at hw0;omega
  have hDw:=zaG D
  clear hJ3 hb3
  simp(disch:=omega) only[hlt,go_sem]
  refine goL_st (fun i:Nat=>[(6,.int .i64 (i:Int)),(7,.int .i64 (D.length:Int))]) (fun i H'=>H'=H3∧i≤D.length∧(D.drop i).dropWhile zA=D.dropWhile zA) (fun i=>D.length-i) 0 (by simp(disch:=omega) only[hDl,go_sem]) ⟨rfl,Nat.zero_le _,rfl⟩ ?_
  rintro i H4 J4 ⟨rfl,hi,hdw⟩ hJ4
  by_cases hlt:i<D.length
  case neg =>
   have hlt':¬ ((i:Int)<(D.length:Int)):=by omega
   have hX:D.drop i=D.dropWhile zA:=by
    rw[← hdw,List.drop_eq_nil_of_le (by omega)];rfl
   simp(disch:=omega) only[hlt',go_sem]
   refine goL_st (fun j:Nat=>[(6,.int .i64 (i:Int)),(7,.int .i64 (j:Int))]) (fun j H'=>H'=H4∧i≤j∧j≤D.length∧Zs ((D.drop i).take (j-i))=Zs (D.drop i)) (fun j=>j) D.length (by simp(disch:=omega) only[go_sem]) ⟨rfl,hi,Al4 _,by rw[List.take_of_length_le (by simp)]⟩ ?_
   rintro j H5 J5 ⟨rfl,hij,hj,htr⟩ hJ5
   by_cases hgt:i<j
   case neg =>
    have hgt':¬ ((i:Int)<(j:Int)):=by omega
    have hF:(D.drop i).take (j-i)=Zs (D.dropWhile zA):=by rw[← hX,← htr,show j-i=0 by omega];simp[Zs]
    have hji:j-i=0:=by omega
    rw[hji,List.take_zero] at hF
    simp(disch:=omega) only[hgt',go_sem]
    refine goL_st (fun q:Nat=>[(6,.int .i64 (i:Int)),(7,.int .i64 (j:Int)),(8,.str []),(9,.int .i64 (i:Int))]) (fun q H'=>H'=H5) (fun q=>0) 0 (by simp(disch:=omega) only[go_sem]) rfl ?_
    rintro q H6 J6 rfl hJ6
    have e:zK raw=[]:=by unfold zK;rw[hDM,← hF];simp[Lib.join]
    simp(disch:=omega) only[hgt',go_sem]
    exact hQ _ _ _ _ nofun rfl (by simp[tupOf,envOf,AV.strip,AV.strip1,e])
   obtain⟨j1,hj1⟩:∃ q,j=q+1:=⟨j-1,by omega⟩
   have hgt':((i:Int)<(j:Int))=True:=eq_true (by omega)
   obtain⟨y,hy1,hy2,hy3,hy4,hy5⟩:=zb3 D tl (show j1<D.length by omega)
   have hyl:y.length≤Lim:=by have:=Z0 hy4;simp only[Lim];omega
   have hw1:IntKind.wrap .i64 ((j:Int)-1)=(j1:Int):=by rw[wrap64 (by omega) (by omega)];omega
   have hjl:((j1:Int)<(D.length:Int))=True:=eq_true (by omega)
   have hsn:(D.drop i).take (j-i)=(D.drop i).take (j1-i)++[y]:=by
    have e1:(D.drop i).drop (j1-i)=y::D.drop (j1+1):=by rw[List.drop_drop,show i+(j1-i)=j1 by omega,hy1]
    rw[show j-i=(j1-i)+1 by omega,List.take_add,e1];rfl
   rw[hsn,ZS] at htr
   cases hby:zA y with
   | true =>
    rw[hby,if_pos rfl] at htr
    simp(disch:=omega) only[hgt',hw1,hjl,hbX,hy2,hy3,← hDl,go_sem]
    refine goK_pure (zaW y hyl) ?_
    simp(disch:=omega) only[hby,hw1,go_sem]
    exact goJ (hJ5 j1 _ (by omega) ⟨rfl,by omega,by omega,htr⟩) (by simp(disch:=omega) only[← hDl,go_sem])
   | false =>
    rw[hby,if_neg (by decide)] at htr
    have hF:(D.drop i).take (j-i)=Zs (D.dropWhile zA):=by rw[hsn,htr,hX]
    simp(disch:=omega) only[hgt',hw1,hjl,hbX,hy2,hy3,← hDl,go_sem]
    refine goK_pure (zaW y hyl) ?_
    simp(disch:=omega) only[hby,go_sem]
    have hjD:j≤D.length:=by omega
    refine goL_st (fun q:Nat=>[(6,.int .i64 (i:Int)),(7,.int .i64 ((j:Nat):Int)),(8,.str (Lib.join ((D.drop i).take (q-i)) [10])),(9,.int .i64 (q:Int))]) (fun q H'=>H'=H5∧i≤q∧q≤j) (fun q=>j-q) i (by simp(disch:=omega) only[Nat.sub_self,List.take_zero,hj0,go_sem]) ⟨rfl,Al4 _,by omega⟩ ?_
    rintro q H6 J6 ⟨rfl,hiq,hqj⟩ hJ6
    by_cases hq:q<j
    case neg =>
     have hq':¬ (((q:Nat):Int)<((j:Nat):Int)):=by omega
     have e:zK raw=Lib.join ((D.drop i).take (q-i)) [10]:=by unfold zK;rw[hDM,← hF,show q=j by omega]
     simp(disch:=omega) only[hq',go_sem]
     exact hQ _ _ _ _ nofun rfl (by simp[tupOf,envOf,AV.strip,AV.strip1,e])
    have hq':(((q:Nat):Int)<((j:Nat):Int))=True:=eq_true (by omega)
    obtain⟨z,hz1,hz2,hz3,hz4,hz5⟩:=zb3 D tl (show q<D.length by omega)
    have hql:((q:Int)<(D.length:Int))=True:=eq_true (by omega)
    have hz6:(D.drop i).take (q+1-i)=(D.drop i).take (q-i)++[z]:=by
     have e1:(D.drop i).drop (q-i)=z::D.drop (q+1):=by rw[List.drop_drop,show i+(q-i)=q by omega,hz1]
     rw[show q+1-i=(q-i)+1 by omega,List.take_add,e1];rfl
    have hjw:=za6 (((D.drop i).take (q-i)))
    have hwt:wL ((D.drop i).take (q-i))≤wL D:=by
     have h1:=zbL (D.take i) (D.drop i)
     have h2:=zbL ((D.drop i).take (q-i)) ((D.drop i).drop (q-i))
     rw[List.take_append_drop] at h1 h2
     omega
    have hzw:=Z0 hz4
    have hjz:(Lib.join ((D.drop i).take (q-i)) [10]++[10]).length≤1099511627777+1:=by rw[Al5,List.length_singleton];omega
    by_cases hqi:i<q
    ·have hqi':((i:Int)<(q:Int))=True:=eq_true (by omega)
     have hne:(D.drop i).take (q-i)≠[]:=by
      intro h
      have:=congrArg List.length h
      simp at this
      omega
     have ej:=zey _ z hne
     rw[← hz6] at ej
     simp(disch:=omega) only[hq',hqi',hbX,hz2,hz3,hql,← hDl,wrap64,go_sem]
     refine goJ (hJ6 (q+1) _ (by omega) ⟨rfl,by omega,by omega⟩) (by simp(disch:=omega) only[ej,← hDl,Int.natCast_add,zcP,List.singleton_append,go_sem])
    ·have hqe:q=i:=by omega
     have hqi':¬ ((i:Int)<(q:Int)):=by omega
     have hj1:Lib.join ((D.drop i).take (q-i)) [10]=[]:=by rw[hqe,Nat.sub_self,List.take_zero,hj0]
     have ej:Lib.join ((D.drop i).take (q+1-i)) [10]=z:=by rw[hz6,hqe];simp[Lib.join]
     simp(disch:=omega) only[hq',hqi',hbX,hz2,hz3,hql,← hDl,wrap64,go_sem]
     refine goJ (hJ6 (q+1) _ (by omega) ⟨rfl,by omega,by omega⟩) (by simp(disch:=omega) only[ej,hj1,← hDl,Int.natCast_add,zar,go_sem])
  obtain⟨x,hx1,hx2,hx3,hx4,hx5⟩:=zb3 D tl hlt
  have hlt':((i:Int)<(D.length:Int))=True:=eq_true (by omega)
  have hxl:x.length≤Lim:=by have:=Z0 hx4;simp only[Lim];omega
  cases hbr:zA x with
  | true =>
   simp(disch:=omega) only[hlt',hbX,hx2,hx3,← hDl,go_sem]
   refine goK_pure (zaW x hxl) ?_
   simp(disch:=omega) only[hbr,wrap64,go_sem]
   exact goJ (hJ4 (i+1) _ (by omega) ⟨rfl,hlt,by rw[← hdw,hx1,List.dropWhile_cons,if_pos hbr]⟩) (by simp(disch:=omega) only[← hDl,Int.natCast_add,go_sem])
  | false =>
   have hX:D.drop i=D.dropWhile zA:=by
    rw[← hdw,hx1,List.dropWhile_cons,if_neg (by rw[hbr];decide)]
   simp(disch:=omega) only[hlt',hbX,hx2,hx3,← hDl,go_sem]
   refine goK_pure (zaW x hxl) ?_
   simp(disch:=omega) only[hbr,go_sem]
   refine goL_st (fun j:Nat=>[(6,.int .i64 (i:Int)),(7,.int .i64 (j:Int))]) (fun j H'=>H'=H4∧i≤j∧j≤D.length∧Zs ((D.drop i).take (j-i))=Zs (D.drop i)) (fun j=>j) D.length (by simp(disch:=omega) only[go_sem]) ⟨rfl,hi,Al4 _,by rw[List.take_of_length_le (by simp)]⟩ ?_
   rintro j H5 J5 ⟨rfl,hij,hj,htr⟩ hJ5
   by_cases hgt:i<j
   case neg =>
    have hgt':¬ ((i:Int)<(j:Int)):=by omega
    have hF:(D.drop i).take (j-i)=Zs (D.dropWhile zA):=by rw[← hX,← htr,show j-i=0 by omega];simp[Zs]
    have hji:j-i=0:=by omega
    rw[hji,List.take_zero] at hF
    simp(disch:=omega) only[hgt',go_sem]
    refine goL_st (fun q:Nat=>[(6,.int .i64 (i:Int)),(7,.int .i64 (j:Int)),(8,.str []),(9,.int .i64 (i:Int))]) (fun q H'=>H'=H5) (fun q=>0) 0 (by simp(disch:=omega) only[go_sem]) rfl ?_
    rintro q H6 J6 rfl hJ6
    have e:zK raw=[]:=by unfold zK;rw[hDM,← hF];simp[Lib.join]
    simp(disch:=omega) only[hgt',go_sem]
    exact hQ _ _ _ _ nofun rfl (by simp[tupOf,envOf,AV.strip,AV.strip1,e])
   obtain⟨j1,hj1⟩:∃ q,j=q+1:=⟨j-1,by omega⟩
   have hgt':((i:Int)<(j:Int))=True:=eq_true (by omega)
   obtain⟨y,hy1,hy2,hy3,hy4,hy5⟩:=zb3 D tl (show j1<D.length by omega)
   have hyl:y.length≤Lim:=by have:=Z0 hy4;simp only[Lim];omega
   have hw1:IntKind.wrap .i64 ((j:Int)-1)=(j1:Int):=by rw[wrap64 (by omega) (by omega)];omega
   have hjl:((j1:Int)<(D.length:Int))=True:=eq_true (by omega)
   have hsn:(D.drop i).take (j-i)=(D.drop i).take (j1-i)++[y]:=by
    have e1:(D.drop i).drop (j1-i)=y::D.drop (j1+1):=by rw[List.drop_drop,show i+(j1-i)=j1 by omega,hy1]
    rw[show j-i=(j1-i)+1 by omega,List.take_add,e1];rfl
   rw[hsn,ZS] at htr
   cases hby:zA y with
   | true =>
    rw[hby,if_pos rfl] at htr
    simp(disch:=omega) only[hgt',hw1,hjl,hbX,hy2,hy3,← hDl,go_sem]
    refine goK_pure (zaW y hyl) ?_
    simp(disch:=omega) only[hby,hw1,go_sem]
    exact goJ (hJ5 j1 _ (by omega) ⟨rfl,by omega,by omega,htr⟩) (by simp(disch:=omega) only[← hDl,go_sem])
   | false =>
    rw[hby,if_neg (by decide)] at htr
    have hF:(D.drop i).take (j-i)=Zs (D.dropWhile zA):=by rw[hsn,htr,hX]
    simp(disch:=omega) only[hgt',hw1,hjl,hbX,hy2,hy3,← hDl,go_sem]
    refine goK_pure (zaW y hyl) ?_
    simp(disch:=omega) only[hby,go_sem]
    have hjD:j≤D.length:=by omega
    refine goL_st (fun q:Nat=>[(6,.int .i64 (i:Int)),(7,.int .i64 ((j:Nat):Int)),(8,.str (Lib.join ((D.drop i).take (q-i)) [10])),(9,.int .i64 (q:Int))]) (fun q H'=>H'=H5∧i≤q∧q≤j) (fun q=>j-q) i (by simp(disch:=omega) only[Nat.sub_self,List.take_zero,hj0,go_sem]) ⟨rfl,Al4 _,by omega⟩ ?_
    rintro q H6 J6 ⟨rfl,hiq,hqj⟩ hJ6
    by_cases hq:q<j
    case neg =>
     have hq':¬ (((q:Nat):Int)<((j:Nat):Int)):=by omega
     have e:zK raw=Lib.join ((D.drop i).take (q-i)) [10]:=by unfold zK;rw[hDM,← hF,show q=j by omega]
     simp(disch:=omega) only[hq',go_sem]
     exact hQ _ _ _ _ nofun rfl (by simp[tupOf,envOf,AV.strip,AV.strip1,e])
    have hq':(((q:Nat):Int)<((j:Nat):Int))=True:=eq_true (by omega)
    obtain⟨z,hz1,hz2,hz3,hz4,hz5⟩:=zb3 D tl (show q<D.length by omega)
    have hql:((q:Int)<(D.length:Int))=True:=eq_true (by omega)
    have hz6:(D.drop i).take (q+1-i)=(D.drop i).take (q-i)++[z]:=by
     have e1:(D.drop i).drop (q-i)=z::D.drop (q+1):=by rw[List.drop_drop,show i+(q-i)=q by omega,hz1]
     rw[show q+1-i=(q-i)+1 by omega,List.take_add,e1];rfl
    have hjw:=za6 (((D.drop i).take (q-i)))
    have hwt:wL ((D.drop i).take (q-i))≤wL D:=by
     have h1:=zbL (D.take i) (D.drop i)
     have h2:=zbL ((D.drop i).take (q-i)) ((D.drop i).drop (q-i))
     rw[List.take_append_drop] at h1 h2
     omega
    have hzw:=Z0 hz4
    have hjz:(Lib.join ((D.drop i).take (q-i)) [10]++[10]).length≤1099511627777+1:=by rw[Al5,List.length_singleton];omega
    by_cases hqi:i<q
    ·have hqi':((i:Int)<(q:Int))=True:=eq_true (by omega)
     have hne:(D.drop i).take (q-i)≠[]:=by
      intro h
      have:=congrArg List.length h
      simp at this
      omega
     have ej:=zey _ z hne
     rw[← hz6] at ej
     simp(disch:=omega) only[hq',hqi',hbX,hz2,hz3,hql,← hDl,wrap64,go_sem]
     refine goJ (hJ6 (q+1) _ (by omega) ⟨rfl,by omega,by omega⟩) (by simp(disch:=omega) only[ej,← hDl,Int.natCast_add,zcP,List.singleton_append,go_sem])
    ·have hqe:q=i:=by omega
     have hqi':¬ ((i:Int)<(q:Int)):=by omega
     have hj1:Lib.join ((D.drop i).take (q-i)) [10]=[]:=by rw[hqe,Nat.sub_self,List.take_zero,hj0]
     have ej:Lib.join ((D.drop i).take (q+1-i)) [10]=z:=by rw[hz6,hqe];simp[Lib.join]
     simp(disch:=omega) only[hq',hqi',hbX,hz2,hz3,hql,← hDl,wrap64,go_sem]
     refine goJ (hJ6 (q+1) _ (by omega) ⟨rfl,by omega,by omega⟩) (by simp(disch:=omega) only[ej,hj1,← hDl,Int.natCast_add,zar,go_sem])
theorem zb1 (s:List UInt8) (i:Nat) (t:List UInt8) (hi:i≤s.length) (hs:s.length≤Lim) (ht:t.length≤100):Pure Tryz.prog 153 [.str s,.int .i64 i,.str t] (.bool (t.isPrefixOf (s.drop i))):=by
 refine Pure.go ir153 ck153 (Al4 _) fun KP Q hQ=>?_
 simp only[Lim] at hs
 by_cases hle:t.length≤s.length-i
 ·have h1:((i:Int)≤(s.length:Int)-(t.length:Int))=True:=eq_true (by omega)
  have h2:((i:Int)≤(i:Int)+(t.length:Int))=True:=eq_true (by omega)
  have h3:((i:Int)+(t.length:Int)≤(s.length:Int))=True:=eq_true (by omega)
  have h4:((i:Int)+(t.length:Int)).toNat=i+t.length:=by omega
  have h5:((i:Int)+(t.length:Int)-(i:Int)).toNat=t.length:=by omega
  have e0:List.drop i (List.take (i+t.length) s)=(s.drop i).take t.length:=by rw[List.drop_take];congr 1;omega
  have e:decide (List.drop i (List.take (i+t.length) s)=t)=t.isPrefixOf (s.drop i):=by
   rw[e0,Bool.eq_iff_iff,decide_eq_true_iff,List.isPrefixOf_iff_prefix]
   exact⟨fun h=>h▸List.take_prefix _ _,fun h=>(List.prefix_iff_eq_take.1 h).symm⟩
  simp(disch:=omega) only[ir153,wrap64,h1,h2,h3,h4,h5,go_sem]
  exact hQ _ _ _ _ nofun rfl (by simp[tupOf,envOf,AV.strip,AV.strip1,e])
 ·have h1:¬ ((i:Int)≤(s.length:Int)-(t.length:Int)):=by omega
  have e:t.isPrefixOf (s.drop i)=false:=by
   rw[← Bool.not_eq_true]
   intro h
   have:=yF _ _ h
   rw[zU] at this
   omega
  simp(disch:=omega) only[ir153,wrap64,h1,go_sem]
  exact hQ _ _ _ _ nofun rfl (by simp[tupOf,envOf,AV.strip,AV.strip1,e])
def ziw (n:Nat) (x:Option (List UInt8×List UInt8)):AV:=match x with
 | some (raw,t)=>.tup [.str (zK raw),.int .i64 ((n-t.length:Nat):Int),.bool true]
 | none=>.tup [.str [],.int .i64 0,.bool false]
theorem zjj (s:List UInt8) (i0:Nat) (hi0:i0≤s.length) (hs:s.length≤Zi):Pure Tryz.prog 155 [.str s,.int .i64 i0] (ziw s.length (yH (s.length-i0+1) [] (s.drop i0))):=by
 refine Pure.go ir155 ck155 (Al4 _) fun KP Q hQ=>?_
 have hsl:s.length≤Lim:=by simp only[Zi] at hs;simp only[Lim];omega
 simp only[Zi] at hs
 obtain⟨R,hR⟩:∃ R,yH (s.length-i0+1) [] (s.drop i0)=R:=⟨_,rfl⟩
 rw[hR] at hQ
 simp(disch:=omega) only[ir155,go_sem]
 refine goL_st (fun x:List UInt8×Nat=>[(1,.int .i64 x.2),(7,.str x.1)]) (fun x H=>x.2≤s.length∧x.1.length≤x.2∧yH ((s.drop x.2).length+1) x.1 (s.drop x.2)=R) (fun x=>s.length-x.2) ([],i0) (by simp(disch:=omega) only[go_sem]) ⟨hi0,Nat.zero_le _,by rw[← hR];simp only[zU]⟩ ?_
 rintro⟨raw,i⟩ H J ⟨hi,hrl,hrw⟩ hJ
 simp only at hi hrl hrw
 by_cases hge:s.length≤i
 ·obtain rfl:i=s.length:=by omega
  rw[List.drop_length] at hrw
  have e:R=none:=by rw[← hrw];rfl
  have h1:¬ ((s.length:Int)<(s.length:Int)):=by omega
  simp(disch:=omega) only[h1,go_sem]
  exact hQ _ _ _ _ nofun rfl (by simp[tupOf,envOf,AV.strip,AV.strip1,ziw,e])
 have hle:((i:Int)≤(s.length:Int))=True:=eq_true (by omega)
 have hlt:((i:Int)<(s.length:Int))=True:=eq_true (by omega)
 obtain⟨c,r,hd⟩:∃ c r,s.drop i=c::r:=by
  cases hx:s.drop i with
  | nil=>have:=congrArg List.length hx;simp at this;omega
  | cons c r=>exact⟨c,r,rfl⟩
 have hdl:s.length=i+(r.length+1):=by have:=congrArg List.length hd;simp at this;omega
 rw[hd] at hrw
 simp only[yH] at hrw
 simp(disch:=omega) only[hlt,go_sem]
 refine goK_pure (zb1 s i [34,34,34] hi hsl (by decide)) ?_
 rw[hd]
 by_cases p1:zF.isPrefixOf (c::r)=true
 ·have p1':([34,34,34]:List UInt8).isPrefixOf (c::r)=true:=p1
  have hl3:=yF _ _ p1
  simp only[zF,Al2,Al3] at hl3
  rw[if_pos p1] at hrw
  simp(disch:=omega) only[p1',go_sem]
  refine goK_pure (zke raw (by omega)) ?_
  have e:((s.length-(r.length-2):Nat):Int)=(i:Int)+3:=by omega
  simp(disch:=omega) only[wrap64,go_sem]
  exact hQ _ _ _ _ nofun rfl (by simp[tupOf,envOf,AV.strip,AV.strip1,ziw,← hrw,e])
 have p1':([34,34,34]:List UInt8).isPrefixOf (c::r)=false:=Bool.eq_false_iff.2 p1
 rw[if_neg p1] at hrw
 simp(disch:=omega) only[p1',go_sem]
 refine goK_pure (zb1 s i [92,34,34,34] hi hsl (by decide)) ?_
 rw[hd]
 by_cases p2:zc5.isPrefixOf (c::r)=true
 ·have p2':([92,34,34,34]:List UInt8).isPrefixOf (c::r)=true:=p2
  have hl4:=yF _ _ p2
  simp only[zc5,Al2,Al3] at hl4
  rw[if_pos p2] at hrw
  have hdr:s.drop (i+4)=r.drop 3:=by rw[← List.drop_drop,hd];rfl
  simp(disch:=omega) only[p2',wrap64,go_sem]
  refine goJ (hJ (raw++zF,i+4) _ (by simp only;omega) ⟨by simp only;omega,by simp[zF];omega,?_⟩) (by simp(disch:=omega) only[zF,Int.natCast_add,go_sem])
  simp only
  rw[hdr,← hrw]
  exact Yg _ _ _ _ (Nat.lt_succ_self _) (by simp;omega)
 ·have p2':([92,34,34,34]:List UInt8).isPrefixOf (c::r)=false:=Bool.eq_false_iff.2 p2
  rw[if_neg p2] at hrw
  have hdr:s.drop (i+1)=r:=by rw[← List.drop_drop,hd];rfl
  have hi1:((i:Int)≤(i:Int)+1)=True:=eq_true (by omega)
  have hi2:((i:Int)+1≤(s.length:Int))=True:=eq_true (by omega)
  have hi3:((i:Int)+1).toNat=i+1:=by omega
  have ht1:List.drop i (List.take (i+1) s)=[c]:=by rw[List.drop_take,hd,Nat.add_sub_cancel_left];rfl
  simp(disch:=omega) only[p2',wrap64,hi1,hi2,hi3,ht1,go_sem]
  refine goJ (hJ (raw++[c],i+1) _ (by simp only;omega) ⟨by simp only;omega,by simp;omega,?_⟩) (by simp(disch:=omega) only[Int.natCast_add,go_sem])
  simp only
  rw[hdr,← hrw]
  rfl
def okC (c:Int):Bool:=decide (c=9)||(decide (c=10)||(decide (c=13)||(decide (32≤c)&&decide (c≤65535))))
theorem zkw (c:Nat):okC (c:Int)=Y4 c:=by
 have h:∀ k:Nat,decide ((c:Int)=(k:Int))=decide (c=k):=fun k=>by rw[decide_eq_decide];omega
 have h1:=h 9
 have h2:=h 10
 have h3:=h 13
 have h4:decide ((32:Int)≤(c:Int))=decide (32≤c):=by rw[decide_eq_decide];omega
 have h5:decide ((c:Int)≤65535)=decide (c≤65535):=by rw[decide_eq_decide];omega
 unfold okC Y4
 rw[← h1,← h2,← h3,← h4,← h5];rfl
theorem zez:∀(n:Nat) (s:List UInt8),s.length≤n→zd0 n s=(validD s&&(Yx n s).all okC)
 | 0,s,h=>by
  obtain rfl:s=[]:=zhF.1 (by omega)
  rfl
 | n+1,s,h=>by
  by_cases hne:s=[]
  ·subst hne;rfl
  ·have hl:0<s.length:=List.length_pos_iff.2 hne
   rw[zd0,if_neg hne,Yx,if_neg hne,List.all_cons,zkw]
   by_cases hk:(zy s).2=0
   ·rw[zeJ hne hk,hk];rfl
   ·obtain⟨g1,g2⟩:=zbu hne hk
    rw[zez n _ (by rw[zU];omega),← g1]
    have:decide (0<(zy s).2)=true:=decide_eq_true (by omega)
    rw[this,Bool.true_and]
    cases validD s<;>cases Y4 (zy s).1<;>rfl
theorem zdt:∀(n:Nat) (s:List UInt8),(Yx n s).length≤n
 | 0,_=>Al4 _
 | n+1,s=>by
  rw[Yx]
  split
  ·exact Nat.zero_le _
  ·have:=zdt n (s.drop (zy s).2);simp only[Al2];omega
theorem zgo (s:List UInt8):(zas s).length≤s.length:=by
 unfold zas;split
 ·exact zdt _ _
 ·exact Nat.zero_le _
theorem zgI (s:List UInt8):zbm s=(validD s&&(zas s).all okC):=by
 unfold zbm zas
 rw[zez _ _ (Al4 _)]
 cases validD s<;>rfl
theorem zko (s:List UInt8) (hs:s.length≤Lim):Pure Tryz.prog 86 [.str s] (.bool (zbm s)):=by
 refine Pure.go ir86 ck86 (Al4 _) fun KP Q hQ=>?_
 have hs':=hs
 simp only[Lim] at hs
 simp(disch:=omega) only[ir86,go_sem]
 refine goK_pure (zlc s hs') ?_
 rw[zgI] at hQ
 have hlen:=zgo s
 generalize zas s=l at *
 have hcl:=zjq l
 simp(disch:=omega) only[go_sem]
 refine goL_st (fun i:Nat=>[(5,.int .i64 i)]) (fun i H=>l.all okC=(l.drop i).all okC∧i≤l.length) (fun i=>l.length-i) 0 (by simp(disch:=omega) only[go_sem]) ⟨by simp,by omega⟩ ?_
 rintro i H J ⟨hn,hle⟩ hJ
 by_cases hlt:i<l.length
 case neg =>
  have hlt':¬ ((i:Int)<l.length):=by omega
  rw[List.drop_of_length_le (by omega)] at hn
  simp(disch:=omega) only[hlt',hcl,go_sem]
  exact hQ _ _ _ _ nofun rfl (by simp[tupOf,envOf,AV.strip,AV.strip1,hn])
 have hlt':((i:Int)<l.length)=True:=eq_true (by omega)
 obtain⟨c,hc⟩:∃ c,l[i]?=some c:=⟨_,Al9 hlt⟩
 have hg:(cZ l).getD i []=[.int .i64 c]:=by simp[cZ,List.getD,hc]
 have hd:l.drop i=c::l.drop (i+1):=by rw[List.drop_eq_getElem_cons hlt];rw[Al9 hlt] at hc;cases hc;rfl
 rw[hd,List.all_cons] at hn
 by_cases h32:c<32
 ·have h65:¬ (65535<c):=by omega
  by_cases h9:c=9
  ·have hk:okC c=true:=by rw[h9];rfl
   rw[hk,Bool.true_and] at hn
   simp(disch:=omega) only[hlt',hcl,hg,h32,h9,h65,go_sem]
   exact goJ (hJ (i+1) _ (by omega) ⟨hn,by omega⟩) (by simp(disch:=omega) only[wrap64,Int.natCast_add,go_sem])
  by_cases h10:c=10
  ·have hk:okC c=true:=by rw[h10];rfl
   rw[hk,Bool.true_and] at hn
   simp(disch:=omega) only[hlt',hcl,hg,h32,h9,h10,h65,go_sem]
   exact goJ (hJ (i+1) _ (by omega) ⟨hn,by omega⟩) (by simp(disch:=omega) only[wrap64,Int.natCast_add,go_sem])
  by_cases h13:c=13
  ·have hk:okC c=true:=by rw[h13];rfl
   rw[hk,Bool.true_and] at hn
   simp(disch:=omega) only[hlt',hcl,hg,h32,h9,h10,h13,h65,go_sem]
   exact goJ (hJ (i+1) _ (by omega) ⟨hn,by omega⟩) (by simp(disch:=omega) only[wrap64,Int.natCast_add,go_sem])
  have hk:okC c=false:=by
   have h:¬ (32≤c):=by omega
   simp[okC,h9,h10,h13,h]
  rw[hk,Bool.false_and] at hn
  rw[hn,Bool.and_false] at hQ
  simp(disch:=omega) only[hlt',hcl,hg,h32,h9,h10,h13,go_sem]
  exact hQ _ _ _ _ nofun rfl (by simp[tupOf,envOf,AV.strip,AV.strip1])
 ·by_cases h65:65535<c
  ·have hk:okC c=false:=by
    have h1:¬ (c=9):=by omega
    have h2:¬ (c=10):=by omega
    have h3:¬ (c=13):=by omega
    have h4:¬ (c≤65535):=by omega
    simp[okC,h1,h2,h3,h4]
   rw[hk,Bool.false_and] at hn
   rw[hn,Bool.and_false] at hQ
   simp(disch:=omega) only[hlt',hcl,hg,h32,h65,go_sem]
   exact hQ _ _ _ _ nofun rfl (by simp[tupOf,envOf,AV.strip,AV.strip1])
  ·have hk:okC c=true:=by
    have h3:32≤c:=by omega
    have h4:c≤65535:=by omega
    simp[okC,h3,h4]
   rw[hk,Bool.true_and] at hn
   simp(disch:=omega) only[hlt',hcl,hg,h32,h65,go_sem]
   exact goJ (hJ (i+1) _ (by omega) ⟨hn,by omega⟩) (by simp(disch:=omega) only[wrap64,Int.natCast_add,go_sem])
def SkQ (s:List UInt8) (i j:Nat):Prop:=i≤j∧j≤s.length∧(∀ l,ZD l (s.drop i)=ZD l (s.drop j))∧(validD (s.drop i)=true→validD (s.drop j)=true)
theorem SkQ.refl {s:List UInt8} {i:Nat} (h:i≤s.length):SkQ s i i:=⟨Al4 _,h,fun _=>rfl,fun h=>h⟩
theorem SkQ.gap {s:List UInt8} {i j:Nat} (h:SkQ s i j) (hj:j<s.length) (hg:Zl (s.drop j)≠0):SkQ s i (j+Zl (s.drop j)):=by
 have h1:=zca (s.drop j)
 rw[zU] at h1
 have hne:s.drop j≠[]:=fun e=>by have:=congrArg List.length e;simp at this;omega
 refine⟨by have:=h.1;omega,by omega,fun l=>?_,fun hv=>?_⟩
 ·rw[h.2.2.1 l,zeH hne hg,List.drop_drop]
 ·rw[← List.drop_drop];exact zf9 (h.2.2.2 hv)
theorem zkO (s:List UInt8) (i0:Nat) (hi0:i0≤s.length) (hs:s.length≤Zi) (H:Heap) :
  ACalls Tryz.prog 87 [.str s,.int .i64 i0] H (fun e H'=>∃ v,e=.ret v∧((∃ j,v=.int .i64 (j:Nat)∧SkQ s i0 j∧(j<s.length→Zl (s.drop j)=0))∧H'=H)):=by
 refine ACalls.go ir87 ck87 (Al4 _) fun KP Q hQ=>?_
 have hsl:s.length≤Lim:=by simp only[Zi] at hs;simp only[Lim];omega
 simp only[Zi] at hs
 simp(disch:=omega) only[ir87,go_sem]
 refine goL_st (fun i:Nat=>[(1,.int .i64 i)]) (fun i H'=>SkQ s i0 i∧H'=H) (fun i=>s.length-i) i0 (by simp(disch:=omega) only[go_sem]) ⟨SkQ.refl hi0,rfl⟩ ?_
 rintro i H' J ⟨hk,hH⟩ hJ
 subst hH
 rcases z6 s i with ⟨h1,h2⟩|⟨hi,hd⟩
 ·have hlt:¬ ((i:Int)<(s.length:Int)):=by omega
  simp(disch:=omega) only[hlt,go_sem]
  exact hQ _ _ _ H' [_] nofun rfl (Low.refl _) ⟨⟨i,rfl,hk,fun h=>absurd h (by omega)⟩,rfl⟩
 have hlt:((i:Int)<(s.length:Int))=True:=eq_true (by omega)
 have hb:=zb1 s i [239,187,191] (by omega) hsl (by decide)
 obtain⟨c,hg⟩:∃ c,s.getD i 0=c:=⟨_,rfl⟩
 rw[hg] at hd
 have hgl:=zca (s.drop i)
 rw[zU] at hgl
 have nat:∀ k:Nat,(c.toNat:Int)=k→k<256→c=UInt8.ofNat k:=fun k h hk=>UInt8.toNat_inj.1 (by rw[UInt8.toNat_ofNat'];omega)
 have one:(c=9∨c=10∨c=13∨c=32∨c=44)→SkQ s i0 (i+1):=fun hw=>by
  have e:Zl (s.drop i)=1:=by rw[hd,Zj,if_pos hw]
  have:=hk.gap hi (by rw[e];decide)
  rw[e] at this;exact this
 by_cases g9:(c.toNat:Int)=9
 ·have hw:=one (.inl (nat 9 g9 (by decide)))
  simp(disch:=omega) only[hlt,hg,g9,go_sem]
  exact goJ (hJ (i+1) _ (by omega) ⟨hw,rfl⟩) (by simp(disch:=omega) only[wrap64,Int.natCast_add,go_sem])
 by_cases g10:(c.toNat:Int)=10
 ·have hw:=one (.inr (.inl (nat 10 g10 (by decide))))
  simp(disch:=omega) only[hlt,hg,g9,g10,go_sem]
  exact goJ (hJ (i+1) _ (by omega) ⟨hw,rfl⟩) (by simp(disch:=omega) only[wrap64,Int.natCast_add,go_sem])
 by_cases g13:(c.toNat:Int)=13
 ·have hw:=one (.inr (.inr (.inl (nat 13 g13 (by decide)))))
  simp(disch:=omega) only[hlt,hg,g9,g10,g13,go_sem]
  exact goJ (hJ (i+1) _ (by omega) ⟨hw,rfl⟩) (by simp(disch:=omega) only[wrap64,Int.natCast_add,go_sem])
 by_cases g32:(c.toNat:Int)=32
 ·have hw:=one (.inr (.inr (.inr (.inl (nat 32 g32 (by decide))))))
  simp(disch:=omega) only[hlt,hg,g9,g10,g13,g32,go_sem]
  exact goJ (hJ (i+1) _ (by omega) ⟨hw,rfl⟩) (by simp(disch:=omega) only[wrap64,Int.natCast_add,go_sem])
 by_cases g44:(c.toNat:Int)=44
 ·have hw:=one (.inr (.inr (.inr (.inr (nat 44 g44 (by decide))))))
  simp(disch:=omega) only[hlt,hg,g9,g10,g13,g32,g44,go_sem]
  exact goJ (hJ (i+1) _ (by omega) ⟨hw,rfl⟩) (by simp(disch:=omega) only[wrap64,Int.natCast_add,go_sem])
 have hw:¬ (c=9∨c=10∨c=13∨c=32∨c=44):=by
  rintro(h|h|h|h|h)<;>subst h<;>first|exact g9 rfl|exact g10 rfl|exact g13 rfl|exact g32 rfl|exact g44 rfl
 simp(disch:=omega) only[hlt,hg,g9,g10,g13,g32,g44,go_sem]
 refine goK_pure hb ?_
 rw[hd]
 by_cases hp:([239,187,191]:List UInt8).isPrefixOf (c::s.drop (i+1))=true
 ·have e:Zl (s.drop i)=3:=by rw[hd,Zj,if_neg hw];exact if_pos hp
  have hq:=hk.gap hi (by rw[e];decide)
  rw[e] at hq hgl
  simp(disch:=omega) only[hp,go_sem]
  exact goJ (hJ (i+3) _ (by omega) ⟨hq,rfl⟩) (by simp(disch:=omega) only[wrap64,Int.natCast_add,go_sem])
 have hp':([239,187,191]:List UInt8).isPrefixOf (c::s.drop (i+1))=false:=Bool.eq_false_iff.2 hp
 by_cases g35:(c.toNat:Int)=35
 ·have hc:c=35:=nat 35 g35 (by decide)
  have e:Zl (s.drop i)=((s.drop i).takeWhile zJ).length:=by
   rw[hd,Zj,if_neg hw,if_neg (show ¬ (zfe.isPrefixOf _=true) from hp),if_pos hc,List.takeWhile_cons,hc,if_pos (show zJ 35=true from rfl)]
   simp only[Al2];omega
  have e1:0<Zl (s.drop i):=by rw[hd,Zj,if_neg hw,if_neg (show ¬ (zfe.isPrefixOf _=true) from hp),if_pos hc];omega
  have hq:=hk.gap hi (by omega)
  simp(disch:=omega) only[hp',hlt,hg,g35,go_sem]
  refine goL_st (fun j:Nat=>[(1,.int .i64 j)]) (fun j H2=>H2=H'∧i≤j∧j≤s.length∧Zl (s.drop i)=(j-i)+((s.drop j).takeWhile zJ).length) (fun j=>s.length-j) i (by simp(disch:=omega) only[go_sem]) ⟨rfl,Al4 _,by omega,by rw[e];omega⟩ ?_
  rintro j H2 J2 ⟨hH,hij,hjs,hj⟩ hJ2
  subst hH
  have out:((s.drop j).takeWhile zJ).length=0→J ((setAll _ [(1,.int .i64 (j:Int))]).keep [0,1]) H2:=fun h0=>by
   have ej:i+Zl (s.drop i)=j:=by omega
   rw[ej] at hq
   exact hJ j _ (by omega) ⟨hq,rfl⟩
  rcases z6 s j with ⟨h1,h2⟩|⟨hj1,hd1⟩
  ·have hl2:¬ ((j:Int)<(s.length:Int)):=by omega
   simp(disch:=omega) only[hl2,go_sem]
   exact goJ (out (by rw[h1];rfl)) (by simp(disch:=omega) only[go_sem])
  have hl2:((j:Int)<(s.length:Int))=True:=eq_true (by omega)
  obtain⟨d,hg1⟩:∃ d,s.getD j 0=d:=⟨_,rfl⟩
  rw[hg1] at hd1
  have natd:∀ k:Nat,(d.toNat:Int)=k→k<256→d=UInt8.ofNat k:=fun k h hk=>UInt8.toNat_inj.1 (by rw[UInt8.toNat_ofNat'];omega)
  by_cases k10:(d.toNat:Int)=10
  ·have hn:zJ d=false:=by rw[natd 10 k10 (by decide)];rfl
   simp(disch:=omega) only[hl2,hg1,k10,go_sem]
   exact goJ (out (by rw[hd1,List.takeWhile_cons,hn];rfl)) (by simp(disch:=omega) only[go_sem])
  by_cases k13:(d.toNat:Int)=13
  ·have hn:zJ d=false:=by rw[natd 13 k13 (by decide)];rfl
   simp(disch:=omega) only[hl2,hg1,k10,k13,go_sem]
   exact goJ (out (by rw[hd1,List.takeWhile_cons,hn];rfl)) (by simp(disch:=omega) only[go_sem])
  have hn:zJ d=true:=by
   unfold zJ
   have h1:d≠10:=fun e=>k10 (by rw[e];rfl)
   have h2:d≠13:=fun e=>k13 (by rw[e];rfl)
   simp[h1,h2]
  rw[hd1,List.takeWhile_cons,hn,if_pos rfl,Al2] at hj
  simp(disch:=omega) only[hl2,hg1,k10,k13,go_sem]
  exact goJ (hJ2 (j+1) _ (by omega) ⟨rfl,by omega,by omega,by omega⟩) (by simp(disch:=omega) only[wrap64,Int.natCast_add,go_sem])
 ·have e:Zl (s.drop i)=0:=by
   rw[hd,Zj,if_neg hw,if_neg (show ¬ (zfe.isPrefixOf _=true) from hp),if_neg (fun h=>g35 (by rw[h];rfl))]
  simp(disch:=omega) only[hp',hlt,hg,g35,go_sem]
  exact hQ _ _ _ H' [_] nofun rfl (Low.refl _) ⟨⟨i,rfl,hk,fun _=>e⟩,rfl⟩
def NxQ (s:List UInt8) (i:Nat) (v:AV):Prop:=match yp (s.drop i) with
 | some (x,t)=>v=.tup [zw x,.int .i64 ((s.length-t.length:Nat):Int),.bool true]
 | none=>∃(x:Tok) (n:Int),v=.tup [zw x,.int .i64 n,.bool false]
theorem NxQ.some {s t:List UInt8} {i:Nat} {x:Tok} {n:Int} (h:yp (s.drop i)=some (x,t)) (hn:n=((s.length-t.length:Nat):Int)):NxQ s i (.tup [zw x,.int .i64 n,.bool true]):=by
 unfold NxQ;rw[h,hn]
theorem NxQ.none {s:List UInt8} {i:Nat} {x:Tok} {n:Int} (h:yp (s.drop i)=.none):NxQ s i (.tup [zw x,.int .i64 n,.bool false]):=by
 unfold NxQ;rw[h];exact⟨x,n,rfl⟩
theorem ym {A H:Heap} {b:Nat} {o:AObj} (h:Sub A H) (hb:A b=none):Sub A (H.upd b o):=fun c x hc=>by
 rw[upd_ne (fun e=>by rw[e,hb] at hc;cases hc)];exact h c x hc
set_option maxHeartbeats 2000000 in
theorem zlX (s:List UInt8) (i:Nat) (hi:i<s.length) (hv:validD (s.drop i)=true) (hs:s.length≤Zi) (H:Heap) :
  ACalls Tryz.prog 88 [.str s,.int .i64 i] H (fun e H'=>∃ v,e=.ret v∧(NxQ s i v∧H'=H)):=by
 refine ACalls.go ir88 ck88 (Al4 _) fun KP Q hQ=>?_
 have hsl:s.length≤Lim:=by simp only[Zi] at hs;simp only[Lim];omega
 have hsq:=hs
 simp only[Zi] at hs
 obtain⟨c,hg⟩:∃ c,s.getD i 0=c:=⟨_,rfl⟩
 obtain⟨r,hd⟩:∃ r,s.drop i=c::r:=by
  rcases z6 s i with ⟨h1,h2⟩|⟨h1,h2⟩
  ·omega
  ·exact⟨_,by rw[h2,hg]⟩
 have hdl:s.length=i+(r.length+1):=by have:=congrArg List.length hd;rw[zU,Al2] at this;omega
 have hd1:s.drop (i+1)=r:=by rw[← List.drop_drop,hd];rfl
 have hd3:s.drop (i+3)=r.drop 2:=by rw[← List.drop_drop,hd];rfl
 have hlt:((i:Int)<(s.length:Int))=True:=eq_true (by omega)
 have hle:((i:Int)≤(s.length:Int))=True:=eq_true (by omega)
 have hle1:((i:Int)+1≤(s.length:Int))=True:=eq_true (by omega)
 have ot:yp (s.drop i)=_:=(congrArg yp hd).trans (zcx c r)
 have hb1:=zb1 s i [46,46,46] (by omega) hsl (by decide)
 have hb2:=zb1 s i [34,34,34] (by omega) hsl (by decide)
 rw[hd] at hb1 hb2
 have nat:∀ k:Nat,(c.toNat:Int)=k→k<256→c=UInt8.ofNat k:=fun k h hk=>UInt8.toNat_inj.1 (by rw[UInt8.toNat_ofNat'];omega)
 simp(disch:=omega) only[ir88,go_sem]
 refine goA_intro fun b4 hb4=>?_
 simp(disch:=omega) only[go_sem]
 refine goA_intro fun b7 hb7=>?_
 have h74:b7≠b4:=fun e=>by subst e;rw[upd_same] at hb7;cases hb7
 have hb7H:H b7=.none:=by rw[upd_ne h74] at hb7;exact hb7
 have h47:=Ne.symm h74
 simp(disch:=omega) only[h74,h47,go_sem]
 refine goK_pure hb1 ?_
 by_cases c34:c=34
 ·-- a quote
  have p1:([46,46,46]:List UInt8).isPrefixOf (c::r)=false:=by rw[c34];rfl
  have p1':¬ (ZE.isPrefixOf (c::r)=true):=by rw[c34];exact Bool.eq_false_iff.1 rfl
  have hix:¬ ((0:Int)≤Lib.indexByte Z2 c):=by rw[c34];decide
  simp(disch:=omega) only[p1,hlt,hg,go_sem]
  refine goK_pure (zgH Z2 c (by decide)) ?_
  simp(disch:=omega) only[hix,go_sem]
  refine goK_pure hb2 ?_
  by_cases p2:([34,34,34]:List UInt8).isPrefixOf (c::r)=true
  ·have hl3:=yF _ _ p2
   simp only[Al2,Al3] at hl3
   have hbl:=zjj s (i+3) (by omega) hsq
   rw[hd3,show ((i+3:Nat):Int)=(i:Int)+3 by omega] at hbl
   have ef:yH (s.length-(i+3)+1) [] (r.drop 2)=yH (r.length+1) [] (r.drop 2):=Yg _ _ _ _ (by rw[zU];omega) (by rw[zU];omega)
   rw[ef] at hbl
   have e1:yp (s.drop i)=(yH (r.length+1) [] (r.drop 2)).map fun x=>(⟨5,zK x.1⟩,x.2):=by rw[ot,if_pos (show zF.isPrefixOf (c::r)=true from p2)]
   simp(disch:=omega) only[p2,wrap64,go_sem]
   refine goK_pure hbl ?_
   cases hx:yH (r.length+1) [] (r.drop 2) with
   | none =>
    rw[hx] at e1
    simp(disch:=omega) only[ziw,h74,h47,go_sem]
    refine hQ _ _ _ H [(zw ⟨5,[]⟩),(.int .i64 0),(.bool false)] nofun (by simp(disch:=omega) only[ir88,resvs,resv,zw,go_sem]) (Low.of_sub (by repeat (first|exact sub_refl _|refine ym ?_ (by assumption)))) ⟨?_,rfl⟩
    exact NxQ.none e1
   | some x =>
    obtain⟨raw,t⟩:=x
    rw[hx] at e1
    simp(disch:=omega) only[ziw,h74,h47,go_sem]
    refine hQ _ _ _ H [(zw ⟨5,zK raw⟩),(.int .i64 ((s.length-t.length:Nat):Int)),(.bool true)] nofun (by simp(disch:=omega) only[ir88,resvs,resv,zw,go_sem]) (Low.of_sub (by repeat (first|exact sub_refl _|refine ym ?_ (by assumption)))) ⟨?_,rfl⟩
    exact NxQ.some e1 rfl
  ·have p2':([34,34,34]:List UInt8).isPrefixOf (c::r)=false:=Bool.eq_false_iff.2 p2
   have hc:(c.toNat:Int)=34:=by rw[c34];rfl
   have hvr:validD r=true:=by rw[hd,c34] at hv;exact Zv (by decide) hv
   have hqu:=zkq s (i+1) (by omega) (by rw[hd1];exact hvr) hsq
   rw[hd1,show ((i+1:Nat):Int)=(i:Int)+1 by omega] at hqu
   have e1:yp (s.drop i)=(Zc z8 r).map fun x=>(⟨5,x.1⟩,x.2):=by rw[ot,if_neg (show ¬ (zF.isPrefixOf (c::r)=true) from p2),if_pos c34]
   simp(disch:=omega) only[p2',hlt,hg,hc,wrap64,go_sem]
   refine goK_pure hqu ?_
   cases hx:Zc z8 r with
   | none =>
    rw[hx] at e1
    simp(disch:=omega) only[zce,h74,h47,go_sem]
    refine hQ _ _ _ H [(zw ⟨5,[]⟩),(.int .i64 0),(.bool false)] nofun (by simp(disch:=omega) only[ir88,resvs,resv,zw,go_sem]) (Low.of_sub (by repeat (first|exact sub_refl _|refine ym ?_ (by assumption)))) ⟨?_,rfl⟩
    exact NxQ.none e1
   | some x =>
    obtain⟨b,t⟩:=x
    rw[hx] at e1
    simp(disch:=omega) only[zce,h74,h47,go_sem]
    refine hQ _ _ _ H [(zw ⟨5,b⟩),(.int .i64 ((s.length-t.length:Nat):Int)),(.bool true)] nofun (by simp(disch:=omega) only[ir88,resvs,resv,zw,go_sem]) (Low.of_sub (by repeat (first|exact sub_refl _|refine ym ?_ (by assumption)))) ⟨?_,rfl⟩
    exact NxQ.some e1 rfl
 have g34:¬ ((c.toNat:Int)=34):=fun e=>c34 (nat 34 e (by decide))
 have p2':([34,34,34]:List UInt8).isPrefixOf (c::r)=false:=by
  rw[← Bool.not_eq_true]
  intro h
  simp only[List.isPrefixOf,Al0,beq_iff_eq] at h
  exact c34 h.1.symm
 have p2:¬ (zF.isPrefixOf (c::r)=true):=by rw[show zF=[34,34,34] from rfl,p2'];decide
 rw[if_neg p2,if_neg c34] at ot
 by_cases p1:([46,46,46]:List UInt8).isPrefixOf (c::r)=true
 ·have hl3:=yF _ _ p1
  simp only[Al2,Al3] at hl3
  rw[if_pos (show ZE.isPrefixOf (c::r)=true from p1)] at ot
  simp(disch:=omega) only[p1,wrap64,go_sem]
  refine hQ _ _ _ H [(zw ⟨1,[46,46,46]⟩),(.int .i64 ((i:Int)+3)),(.bool true)] nofun (by simp(disch:=omega) only[ir88,resvs,resv,zw,go_sem]) (Low.of_sub (by repeat (first|exact sub_refl _|refine ym ?_ (by assumption)))) ⟨?_,rfl⟩
  exact NxQ.some (x:=⟨1,ZE⟩) ot (by rw[zU];omega)
 have p1':([46,46,46]:List UInt8).isPrefixOf (c::r)=false:=Bool.eq_false_iff.2 p1
 rw[if_neg (show ¬ (ZE.isPrefixOf (c::r)=true) from p1)] at ot
 simp(disch:=omega) only[p1',hlt,hg,go_sem]
 refine goK_pure (zgH Z2 c (by decide)) ?_
 by_cases hix:(0:Int)≤Lib.indexByte Z2 c
 ·rw[if_pos hix] at ot
  have ht1:List.drop i (List.take (i+1) s)=[c]:=by rw[List.drop_take,hd,Nat.add_sub_cancel_left];rfl
  have hi1:((i:Int)≤(i:Int)+1)=True:=eq_true (by omega)
  have hi3:((i:Int)+1).toNat=i+1:=by omega
  simp(disch:=omega) only[hix,wrap64,hi1,hle1,hi3,ht1,go_sem]
  refine hQ _ _ _ H [(zw ⟨1,[c]⟩),(.int .i64 ((i:Int)+1)),(.bool true)] nofun (by simp(disch:=omega) only[ir88,resvs,resv,zw,go_sem]) (Low.of_sub (by repeat (first|exact sub_refl _|refine ym ?_ (by assumption)))) ⟨?_,rfl⟩
  exact NxQ.some ot (by omega)
 rw[if_neg hix] at ot
 simp(disch:=omega) only[hix,go_sem]
 refine goK_pure hb2 ?_
 simp(disch:=omega) only[p2',hlt,hg,g34,go_sem]
 refine goK_pure (ze1 c) ?_
 cases hL:isL c with
 | true =>
  rw[if_pos hL] at ot
  have hwl:=zcd (s.drop i)
  rw[zU] at hwl
  rw[← hd] at ot
  simp(disch:=omega) only[go_sem]
  refine goL_st (fun k:Nat=>[(14,.int .i64 k)]) (fun k H'=>H'=((H.upd b4 (.cells [.int .i64 0,.str []])).upd b7 (.cells [.int .i64 0,.str []]))∧i≤k∧k≤s.length∧yi (s.drop i)=(k-i)+yi (s.drop k)) (fun k=>s.length-k) i (by simp(disch:=omega) only[go_sem]) ⟨by first|rfl|simp only[upd_upd],Al4 _,by omega,by omega⟩ ?_
  rintro k H2 J ⟨hH,hik,hks,hk⟩ hJ
  have hb42:H2 b4=some (.cells [.int .i64 0,.str []]):=by rw[hH,upd_ne h47,upd_same]
  have hsub:Sub H H2:=by rw[hH];exact ym (ym (sub_refl _) hb4) hb7H
  have done:yi (s.drop k)=0→yp (s.drop i)=some (⟨2,(s.take k).drop i⟩,s.drop k):=fun h0=>by
   have e:i+yi (s.drop i)=k:=by omega
   rw[ot,List.drop_drop,e]
   congr 3
   rw[List.drop_take];congr 1;omega
  have hik':((i:Int)≤(k:Int))=True:=eq_true (by omega)
  have hks':((k:Int)≤(s.length:Int))=True:=eq_true (by omega)
  rcases z6 s k with ⟨h1,h2⟩|⟨hk1,hdk⟩
  ·have hl2:¬ ((k:Int)<(s.length:Int)):=by omega
   have e1:=done (by rw[h1];rfl)
   simp(disch:=omega) only[hl2,hik',hks',hb42,go_sem]
   refine hQ _ _ _ H [zw ⟨2,(s.take k).drop i⟩,.int .i64 k,.bool true] nofun (by simp(disch:=omega) only[ir88,resvs,resv,zw,go_sem]) (Low.of_sub (ym hsub hb4)) ⟨NxQ.some e1 (by rw[zU];omega),rfl⟩
  have hl2:((k:Int)<(s.length:Int))=True:=eq_true (by omega)
  rw[hdk,zbI] at hk
  simp(disch:=omega) only[hl2,go_sem]
  refine goK_pure (ze1 (s.getD k 0)) ?_
  cases hl:isL (s.getD k 0) with
  | true =>
   simp only[hl,Bool.true_or,if_true] at hk
   simp(disch:=omega) only[hl,go_sem]
   exact goJ (hJ (k+1) _ (by omega) ⟨hH,by omega,by omega,by omega⟩) (by simp(disch:=omega) only[wrap64,Int.natCast_add,go_sem])
  | false =>
   simp(disch:=omega) only[hl,hl2,go_sem]
   refine goK_pure (zdm (s.getD k 0)) ?_
   cases hdg:isD (s.getD k 0) with
   | true =>
    simp only[hl,hdg,Bool.or_true,if_true] at hk
    simp(disch:=omega) only[hdg,go_sem]
    exact goJ (hJ (k+1) _ (by omega) ⟨hH,by omega,by omega,by omega⟩) (by simp(disch:=omega) only[wrap64,Int.natCast_add,go_sem])
   | false =>
    have e1:=done (by rw[hdk,zbI,hl,hdg];rfl)
    simp(disch:=omega) only[hdg,hik',hks',hb42,go_sem]
    refine hQ _ _ _ H [zw ⟨2,(s.take k).drop i⟩,.int .i64 k,.bool true] nofun (by simp(disch:=omega) only[ir88,resvs,resv,zw,go_sem]) (Low.of_sub (ym hsub hb4)) ⟨NxQ.some e1 (by rw[zU];omega),rfl⟩
 | false =>
  rw[if_neg (by rw[hL];decide)] at ot
  rw[← hd] at ot
  have hul:(s.drop i).length≤Lim:=by rw[zU];omega
  have hnr:=zja (s.drop i) hul
  have hnl:=zaE (s.drop i)
  rw[zU] at hnl
  have htl:List.drop i (List.take s.length s)=s.drop i:=by rw[List.take_length]
  simp(disch:=omega) only[hle,htl,go_sem]
  refine goK_pure hnr ?_
  generalize hnn:(zL (s.drop i)).1=n at *
  generalize hkk:(zL (s.drop i)).2=k at *
  by_cases hn0:n=0
  ·have hz:((n:Int)=0)=True:=eq_true (by omega)
   rw[if_pos hn0] at ot
   simp(disch:=omega) only[hz,h74,h47,go_sem]
   refine hQ _ _ _ H [(zw ⟨0,[]⟩),(.int .i64 0),(.bool false)] nofun (by simp(disch:=omega) only[ir88,resvs,resv,zw,go_sem]) (Low.of_sub (by repeat (first|exact sub_refl _|refine ym ?_ (by assumption)))) ⟨?_,rfl⟩
   exact NxQ.none ot
  have hz:¬ ((n:Int)=0):=by omega
  rw[if_neg hn0] at ot
  have hw:IntKind.wrap .i64 ((i:Int)+(n:Int))=((i+n:Nat):Int):=by rw[wrap64 (by omega) (by omega)];omega
  have hin:((i:Int)≤((i+n:Nat):Int))=True:=eq_true (by omega)
  have hns:(((i+n:Nat):Int)≤(s.length:Int))=True:=eq_true (by omega)
  have etk:List.drop i (List.take (i+n) s)=(s.drop i).take n:=by rw[List.drop_take];congr 1;omega
  have edr:(s.drop i).drop n=s.drop (i+n):=by rw[List.drop_drop]
  rw[edr] at ot
  have good:∀ x,yp (s.drop i)=some (⟨k,(s.drop i).take n⟩,s.drop (i+n))→NxQ s i (.tup [zw ⟨k,(s.drop i).take n⟩,.int .i64 x,.bool true])∨x≠((i+n:Nat):Int):=fun x h=>by
   by_cases e:x=((i+n:Nat):Int)
   ·exact .inl (NxQ.some h (by rw[e,zU];omega))
   ·exact .inr e
  rcases z6 s (i+n) with ⟨h1,h2⟩|⟨hk1,hdk⟩
  ·have hl2:¬ (((i+n:Nat):Int)<(s.length:Int)):=by omega
   rw[h1] at ot
   have e1:yp (s.drop i)=some (⟨k,(s.drop i).take n⟩,[]):=ot
   simp(disch:=omega) only[hz,hw,hl2,hin,hns,etk,h74,h47,go_sem]
   refine hQ _ _ _ H [(zw ⟨k,(s.drop i).take n⟩),(.int .i64 ((i+n:Nat):Int)),(.bool true)] nofun (by simp(disch:=omega) only[ir88,resvs,resv,zw,go_sem]) (Low.of_sub (by repeat (first|exact sub_refl _|refine ym ?_ (by assumption)))) ⟨?_,rfl⟩
   exact NxQ.some e1 (by simp;omega)
  have hl2:(((i+n:Nat):Int)<(s.length:Int))=True:=eq_true (by omega)
  obtain⟨d,hgd⟩:∃ d,s.getD (i+n) 0=d:=⟨_,rfl⟩
  rw[hgd] at hdk
  rw[hdk] at ot
  have ha:(d::s.drop (i+n+1)).head?.any (fun d=>isL d||isD d||decide (d=46))=(isL d||isD d||decide (d=46)):=rfl
  rw[ha] at ot
  simp(disch:=omega) only[hz,hw,hl2,hgd,go_sem]
  refine goK_pure (ze1 d) ?_
  cases hld:isL d with
  | true =>
   rw[hld] at ot
   have e1:yp (s.drop i)=.none:=ot
   simp(disch:=omega) only[h74,h47,go_sem]
   refine hQ _ _ _ H [(zw ⟨0,[]⟩),(.int .i64 0),(.bool false)] nofun (by simp(disch:=omega) only[ir88,resvs,resv,zw,go_sem]) (Low.of_sub (by repeat (first|exact sub_refl _|refine ym ?_ (by assumption)))) ⟨?_,rfl⟩
   exact NxQ.none e1
  | false =>
   simp(disch:=omega) only[hl2,hgd,go_sem]
   refine goK_pure (zdm d) ?_
   cases hdg:isD d with
   | true =>
    rw[hld,hdg] at ot
    have e1:yp (s.drop i)=.none:=ot
    simp(disch:=omega) only[h74,h47,go_sem]
    refine hQ _ _ _ H [(zw ⟨0,[]⟩),(.int .i64 0),(.bool false)] nofun (by simp(disch:=omega) only[ir88,resvs,resv,zw,go_sem]) (Low.of_sub (by repeat (first|exact sub_refl _|refine ym ?_ (by assumption)))) ⟨?_,rfl⟩
    exact NxQ.none e1
   | false =>
    by_cases h46:d=46
    ·have g46:((d.toNat:Int)=46)=True:=eq_true (by rw[h46];rfl)
     rw[hld,hdg,h46] at ot
     have e1:yp (s.drop i)=.none:=ot
     simp(disch:=omega) only[hl2,hgd,g46,h74,h47,go_sem]
     refine hQ _ _ _ H [(zw ⟨0,[]⟩),(.int .i64 0),(.bool false)] nofun (by simp(disch:=omega) only[ir88,resvs,resv,zw,go_sem]) (Low.of_sub (by repeat (first|exact sub_refl _|refine ym ?_ (by assumption)))) ⟨?_,rfl⟩
     exact NxQ.none e1
    ·have g46:¬ ((d.toNat:Int)=46):=fun e=>h46 (UInt8.toNat_inj.1 (by show d.toNat=46;omega))
     rw[hld,hdg,decide_eq_false h46] at ot
     have e1:yp (s.drop i)=some (⟨k,(s.drop i).take n⟩,d::s.drop (i+n+1)):=ot
     simp(disch:=omega) only[hl2,hgd,g46,hin,hns,etk,h74,h47,go_sem]
     refine hQ _ _ _ H [(zw ⟨k,(s.drop i).take n⟩),(.int .i64 ((i+n:Nat):Int)),(.bool true)] nofun (by simp(disch:=omega) only[ir88,resvs,resv,zw,go_sem]) (Low.of_sub (by repeat (first|exact sub_refl _|refine ym ?_ (by assumption)))) ⟨?_,rfl⟩
     exact NxQ.some e1 (by rw[← hdk,zU];omega)
theorem zkd (s:List UInt8) (hs:s.length≤Zi):Pure Tryz.prog 34 [.str s] (readA (yB s)):=by
 refine Pure.go ir34 ck34 (Al4 _) fun KP Q hQ=>?_
 have hsq:=hs
 simp only[Zi] at hs
 by_cases h8:8192<s.length
 ·have g8:((8192:Int)<(s.length:Int))=True:=eq_true (by omega)
  simp(disch:=omega) only[ir34,g8,go_sem]
  exact hQ _ _ _ _ nofun rfl (by simp[tupOf,envOf,AV.strip,AV.strip1,yB,h8,readA])
 have g8:¬ ((8192:Int)<(s.length:Int)):=by omega
 simp(disch:=omega) only[ir34,g8,go_sem]
 refine goK_pure (zko s (by simp only[Lim];omega)) ?_
 cases hsb:zbm s with
 | false =>
  simp(disch:=omega) only[go_sem]
  exact hQ _ _ _ _ nofun rfl (by simp[tupOf,envOf,AV.strip,AV.strip1,yB,h8,hsb,readA])
 | true =>
  have e0:yB s=ZD [] s:=by unfold yB ZD;rw[if_neg h8,if_pos hsb]
  have hvs:=zbM _ s (Al4 _) hsb
  rw[e0] at hQ
  simp(disch:=omega) only[go_sem]
  refine goK_ret (zkO s 0 (Nat.zero_le _) hsq _) fun v H1 ⟨⟨i0,hv,hsk,hgp⟩,hH⟩=>?_
  subst hv;subst hH
  simp(disch:=omega) only[go_sem]
  refine goL_st (fun x:Own×List Tok×Nat=>[(4,.sl x.1 2 (cKs x.2.1)),(5,.int .i64 x.2.2)]) (fun x H=>x.2.2≤s.length∧x.2.1.length≤x.2.2∧ZD [] s=ZD x.2.1 (s.drop x.2.2)∧validD (s.drop x.2.2)=true∧(x.2.2<s.length→Zl (s.drop x.2.2)=0)∧OwnS Heap.emp .nil H x.1 x.2.1.length 2) (fun x=>s.length-x.2.2) (.nil,[],i0) (by simp(disch:=omega) only[cKs,List.map_nil,go_sem]) ⟨hsk.2.1,Nat.zero_le _,by simpa using hsk.2.2.1 [],hsk.2.2.2 (by simpa using hvs),hgp,OwnS.refl rfl⟩ ?_
  rintro⟨o,l,i⟩ H J ⟨hi,hll,hr,hvi,hg0,hso⟩ hJ
  simp only at hi hll hr hvi hg0 hso
  have hcl:=za5 l
  by_cases hlt:i<s.length
  case neg =>
   have hlt':¬ ((i:Int)<s.length):=by omega
   rw[List.drop_of_length_le (by omega),zew] at hr
   simp(disch:=omega) only[hlt',go_sem]
   exact hQ _ _ _ _ nofun rfl (by simp[tupOf,envOf,AV.strip,AV.strip1,hr,readA,zed])
  have hlt':((i:Int)<s.length)=True:=eq_true (by omega)
  have hg:=hg0 hlt
  obtain⟨u,hd⟩:∃ u,s.drop i=u:=⟨_,rfl⟩
  have hdl:s.length=i+u.length:=by have:=congrArg List.length hd;rw[zU] at this;omega
  have hne:u≠[]:=fun e=>by rw[e] at hdl;simp at hdl;omega
  simp(disch:=omega) only[hlt',go_sem]
  refine goK_ret (zlX s i hlt hvi hsq _) fun v H1 ⟨hx,hH⟩=>?_
  subst hH
  unfold NxQ at hx
  rw[hd] at hx hr hg hvi
  cases ho:yp u with
  | none =>
   rw[ho] at hx
   obtain⟨a,n,hx⟩:=hx
   subst hx
   rw[zdE hne hg ho] at hr
   simp(disch:=omega) only[zw,go_sem]
   refine goA_intro fun b1 hb1=>?_
   simp(disch:=omega) only[go_sem]
   exact hQ _ _ _ _ nofun rfl (by simp[tupOf,envOf,AV.strip,AV.strip1,hr,readA])
  | some x =>
   obtain⟨x,t⟩:=x
   rw[ho] at hx
   simp only at hx
   subst hx
   have hlt2:=zaU ho
   have hsf:=zfS ho
   have hgd:=zeg hvi ho
   rw[zdT hne hg ho] at hr
   have hk:s.length-t.length≤s.length:=Nat.sub_le _ _
   have hdt:s.drop (s.length-t.length)=t:=by
    have e:s.length-t.length=i+(u.length-t.length):=by omega
    rw[e,← List.drop_drop,hd,hsf]
   simp(disch:=omega) only[zw,go_sem]
   refine goA_intro fun b1 hb1=>?_
   simp(disch:=omega) only[go_sem]
   refine goP_ownS (by rw[hcl];exact(hso.upd hb1).own) (by simp only[hcl,Al2,Al3];omega) (by simp only[hcl,Al2,Al3,maxLen];omega) fun o' H' hs2=>?_
   simp(disch:=omega) only[go_sem]
   refine goK_ret (zkO s (s.length-t.length) hk hsq _) fun v H3 ⟨⟨j,hv3,hsk3,hgp3⟩,hH3⟩=>?_
   subst hv3;subst hH3
   have hvt:validD (s.drop (s.length-t.length))=true:=by rw[hdt];exact hgd.2
   simp(disch:=omega) only[go_sem]
   refine goJ (hJ (o',l++[x],j) H3 (by simp only;have:=hsk3.1;omega) ⟨hsk3.2.1,by have:=hsk3.1;simp;omega,?_,hsk3.2.2.2 hvt,hgp3,(hso.upd (x:=.cells [.int .i64 x.k,.str x.s]) hb1).trans (by simpa[hcl] using hs2)⟩) (by simp(disch:=omega) only[← zhr,go_sem])
   simp only
   rw[hr,← hsk3.2.2.1,hdt]
end Go.Proofs.YtaielcdfcgpbiaaGreatDoor
namespace Go.Proofs.YtaielcdfcgpbiaaGreatDoor
open Go.Ab
section
variable {L:TS} {r bd b:Nat} {H H':Heap} {s s':St} {d:DocD} {o1 o2 o':Own}
end
end Go.Proofs.YtaielcdfcgpbiaaGreatDoor

namespace Go.Proofs.YtaielcdfcgpbiaaGreatDoor
open Go.Ab
theorem zhw (a b:List DirD) (ha:bDs a≤Lim):Pure Tryz.prog 109 [.sl .no 2 (cDs a),.sl .no 2 (cDs b)] (.bool (eqd a b)):=by
 refine Pure.go ir109 ck109 (Al4 _) fun KP Q hQ=>?_
 have h1:=zc0 a
 have h2:=zc0 b
 have hla:=zkr a
 simp only[Lim] at ha
 by_cases hl:a.length=b.length
 case neg =>
  have hl':¬ ((a.length:Int)=b.length):=by omega
  have hne:a≠b:=fun e=>hl (by rw[e])
  simp(disch:=omega) only[ir109,h1,h2,hl',go_sem]
  exact hQ _ _ _ _ nofun rfl (by simp[tupOf,envOf,AV.strip,AV.strip1,z7 hne])
 have hl':((a.length:Int)=b.length)=True:=eq_true (by omega)
 simp(disch:=omega) only[ir109,h1,h2,hl',go_sem]
 refine goL_range a 5 (fun _:Unit=>[]) (fun done rest n H=>b.take done.length=done) () (by simp(disch:=omega) only[go_sem]) rfl ?_ ?_
 ·rintro n H J hp hlt
  simp(disch:=omega) only[h1,hlt,go_sem]
  exact hQ _ _ _ _ nofun rfl (by simp[tupOf,envOf,AV.strip,AV.strip1,ZG (ze2 hl hp)])
 ·rintro done x rest n H J hd hlt _ hp hJ
  obtain⟨y,r,hb⟩:=ze6 hd hl hp
  have g1:=zg7 hd
  have g2:=zg7 hb
  have hlt2:(done.length:Int)<b.length:=by omega
  have hbm:=zkx done x rest
  rw[← hd] at hbm
  have hst:=zdg hb
  have hne:x≠y→a≠b:=zgD hd hb
  obtain⟨s,v⟩:=x
  obtain⟨t,u⟩:=y
  simp only[bD] at hbm
  by_cases hs:s=t
  case neg =>
   have hne2:=hne (by simp[hs])
   simp(disch:=omega) only[h1,h2,hlt,hlt2,g1,g2,hs,cD,go_sem]
   exact hQ _ _ _ _ nofun rfl (by simp[tupOf,envOf,AV.strip,AV.strip1,z7 hne2])
  simp(disch:=omega) only[h1,h2,hlt,hlt2,g1,g2,hs,cD,go_sem]
  refine goK_pure (ziT v u (by simp only[Lim];omega)) ?_
  by_cases hv:v=u
  ·simp(disch:=omega) only[ZG hv,go_sem]
   exact goJ (hJ () _ (by rw[hs,hv];exact hst)) (by simp(disch:=omega) only[wrap64,go_sem])
  ·have:=hne (by simp[hv])
   simp(disch:=omega) only[z7 hv,go_sem]
   exact hQ _ _ _ _ nofun rfl (by simp[tupOf,envOf,AV.strip,AV.strip1,z7 this])
structure TokQ (s:List UInt8) (L:TS) (e:Int):Prop where
 tok:readA (yB s)=.tup [.sl .no 2 (cKs L),.int .i64 e]
 w:wT L≤zk
 num:∀ x∈L,yI x
 or:(e=0∧yB s=.ok L)∨(e≠0∧yB s=.error e)
theorem zmv (s:List UInt8):∃ L e,TokQ s L e:=by
 cases h:yB s with
 | error n=>exact⟨[],n,by rw[h];rfl,by simp[wT],(fun x hx=>nomatch hx),.inr ⟨YT h,h⟩⟩
 | ok L=>exact⟨L,0,by rw[h];rfl,ze7 h,fun x hx=>za1 (Yz.1 (zcK h) x hx),.inl ⟨rfl,h⟩⟩
structure DQ (L:TS) (r bd b2:Nat) (H:Heap) (s:St) (d:SR) (o:Own):Prop where
 rd:H r=some (poc L s)
 box:H bd=some (.cells [.sl o 6 (cEs d.defs),.str d.q,.str d.m])
 own:Owned H o d.defs.length 6
 res:H b2=some (.cells [.sl .nil 6 [],.str [],.str []])
 ne:r≠bd
 n1:r≠b2
 n2:bd≠b2
section
variable {L:TS} {r bd b2 b:Nat} {H H':Heap} {s s':St} {d:SR} {o o':Own}
theorem DQ.call (h:DQ L r bd b2 H s d o) (e:H'=H.upd r (poc L s')):DQ L r bd b2 H' s' d o:=by
 subst e
 have hr:H r=some (.cells _):=h.rd
 exact⟨upd_same ..,by rw[upd_ne (Ne.symm h.ne)];exact h.box,yC h.own hr,by rw[upd_ne (Ne.symm h.n1)];exact h.res,h.ne,h.n1,h.n2⟩
theorem DQ.new (h:DQ L r bd b2 H s d o) (hb:H b=none) (x:AObj):DQ L r bd b2 (H.upd b x) s d o :=
 ⟨by rw[upd_ne (fun e=>by have:=h.rd;rw[e,hb] at this;cases this)];exact h.rd,by rw[upd_ne (fun e=>by have:=h.box;rw[e,hb] at this;cases this)];exact h.box,h.own.upd hb,by rw[upd_ne (fun e=>by have:=h.res;rw[e,hb] at this;cases this)];exact h.res,h.ne,h.n1,h.n2⟩
theorem DQ.set (h:DQ L r bd b2 H s d o) (q m:List UInt8) (t:Bool):DQ L r bd b2 (H.upd bd (.cells [.sl o 6 (cEs d.defs),.str q,.str m])) s ⟨d.defs,q,m,t⟩ o :=
 ⟨by rw[upd_ne h.ne];exact h.rd,upd_same ..,yC h.own h.box,by rw[upd_ne (Ne.symm h.n2)];exact h.res,h.ne,h.n1,h.n2⟩
theorem DQ.app {n:Nat} {xs:List (List AV)} (h:DQ L r bd b2 H s d o) (x:DefD) (hs:OwnS H o H' o' n 6) (hn:n=(d.defs++[x]).length) (hx:xs=cEs (d.defs++[x])) :
  DQ L r bd b2 (H'.upd bd (.cells [.sl o' 6 xs,.str d.q,.str d.m])) s (Zy d x) o':=by
 have hb:=zv h.own h.box hs.kept
 have hr2:=zv h.own (show H r=some (.cells _) from h.rd) hs.kept
 have h2:=zv h.own h.res hs.kept
 subst hn;subst hx
 exact⟨by rw[upd_ne h.ne];exact hr2,upd_same ..,yC hs.own hb,by rw[upd_ne (Ne.symm h.n2)];exact h2,h.ne,h.n1,h.n2⟩
end
theorem zkv {L:TS} {H:Heap} {r bd b2:Nat} {s:St} {d:SR} {o:Own} (hl:wT L≤zk) (h:DQ L r bd b2 H s d o) (hm0:d.m=[]) :
  ACalls Tryz.prog 49 [.ptr r 0,.ptr bd 0] H (fun e H'=>∃ v,e=.ret v∧(v=.tup []∧DQ L r bd b2 H' (zbT L d s).2 (zbT L d s).1 o)):=by
 refine ACalls.go ir49 ck49 (Al4 _) fun KP Q hQ=>?_
 have eR:zbT L d s=zev L d (za L (zd L [58] (zbN L (zd L [123] s)))).1 (zbd L (za L (zd L [58] (zbN L (zd L [123] s)))).2).1 (zbd L (za L (zd L [58] (zbN L (zd L [123] s)))).2).2:=rfl
 simp(disch:=omega) only[ir49,go_sem]
 refine goK_ret (zq hl h.rd _) fun v H1 ⟨hv1,h1⟩=>?_
 subst hv1
 have D1:=h.call h1
 simp(disch:=omega) only[go_sem]
 refine goK_ret (ZT hl D1.rd _) fun v HH ⟨hv,hH⟩=>?_
 subst hv;subst hH
 cases hq:zG L [113,117,101,114,121] (zd L [123] s) with
 | true =>
  have eQ:zbN L (zd L [123] s)=(za L (zd L [123] s)).2:=by simp[zbN,hq]
  simp(disch:=omega) only[go_sem]
  refine goK_ret (zz hl D1.rd) fun v H3 ⟨hv3,h3⟩=>?_
  subst hv3
  have D3:=D1.call h3
  simp(disch:=omega) only[go_sem]
  refine goK_ret (zq hl D3.rd _) fun v H4 ⟨hv4,h4⟩=>?_
  subst hv4
  have D4:=D3.call h4
  rw[← eQ] at D4
  generalize zbN L (zd L [123] s)=s3 at *
  simp(disch:=omega) only[go_sem]
  refine goK_ret (zz hl D4.rd) fun v H5 ⟨hv5,h5⟩=>?_
  subst hv5
  have D5:=D4.call h5
  generalize (za L (zd L [58] s3)).1=nq at *
  generalize (za L (zd L [58] s3)).2=s5 at *
  have g5:=D5.box
  simp(disch:=omega) only[g5,go_sem]
  have D6:=D5.set nq d.m true
  refine goK_ret (ZT hl D6.rd _) fun v H6 ⟨hv6,h6⟩=>?_
  subst hv6;subst h6
  cases hm:zG L [109,117,116,97,116,105,111,110] s5 with
  | true =>
   have eM:zbd L s5=za L (zd L [58] (za L s5).2):=by simp[zbd,hm]
   rw[eM] at eR
   simp(disch:=omega) only[go_sem]
   refine goK_ret (zz hl D6.rd) fun v H7 ⟨hv7,h7⟩=>?_
   subst hv7
   have D7:=D6.call h7
   simp(disch:=omega) only[go_sem]
   refine goK_ret (zq hl D7.rd _) fun v H8 ⟨hv8,h8⟩=>?_
   subst hv8
   have D8:=D7.call h8
   simp(disch:=omega) only[go_sem]
   refine goK_ret (zz hl D8.rd) fun v H9 ⟨hv9,h9⟩=>?_
   subst hv9
   have D9:=D8.call h9
   have g9:=D9.box
   simp only at g9
   simp(disch:=omega) only[g9,go_sem]
   have DA:=D9.set nq (za L (zd L [58] (za L s5).2)).1 true
   refine goK_ret (zq hl DA.rd _) fun v HB ⟨hvB,hB⟩=>?_
   subst hvB
   simp(disch:=omega) only[go_sem]
   exact hQ _ _ _ _ [] nofun rfl (Low.refl _) ⟨rfl,by rw[eR];exact DA.call hB⟩
  | false =>
   have eM:zbd L s5=([],s5):=by simp[zbd,hm]
   rw[eM] at eR
   simp(disch:=omega) only[go_sem]
   refine goK_ret (zq hl D6.rd _) fun v HB ⟨hvB,hB⟩=>?_
   subst hvB
   simp(disch:=omega) only[go_sem]
   have DB:=D6.call hB
   rw[hm0] at DB
   exact hQ _ _ _ _ [] nofun rfl (Low.refl _) ⟨rfl,by rw[eR];exact DB⟩
 | false =>
  have eQ:zbN L (zd L [123] s)=(za L (yc 2 (zd L [123] s))).2:=by simp[zbN,hq]
  simp(disch:=omega) only[go_sem]
  refine goK_ret (Yo D1.rd 2) fun v H2 ⟨hv2,h2⟩=>?_
  subst hv2
  have D2:=D1.call h2
  simp(disch:=omega) only[go_sem]
  refine goK_ret (zz hl D2.rd) fun v H3 ⟨hv3,h3⟩=>?_
  subst hv3
  have D3:=D2.call h3
  simp(disch:=omega) only[go_sem]
  refine goK_ret (zq hl D3.rd _) fun v H4 ⟨hv4,h4⟩=>?_
  subst hv4
  have D4:=D3.call h4
  rw[← eQ] at D4
  generalize zbN L (zd L [123] s)=s3 at *
  simp(disch:=omega) only[go_sem]
  refine goK_ret (zz hl D4.rd) fun v H5 ⟨hv5,h5⟩=>?_
  subst hv5
  have D5:=D4.call h5
  generalize (za L (zd L [58] s3)).1=nq at *
  generalize (za L (zd L [58] s3)).2=s5 at *
  have g5:=D5.box
  simp(disch:=omega) only[g5,go_sem]
  have D6:=D5.set nq d.m true
  refine goK_ret (ZT hl D6.rd _) fun v H6 ⟨hv6,h6⟩=>?_
  subst hv6;subst h6
  cases hm:zG L [109,117,116,97,116,105,111,110] s5 with
  | true =>
   have eM:zbd L s5=za L (zd L [58] (za L s5).2):=by simp[zbd,hm]
   rw[eM] at eR
   simp(disch:=omega) only[go_sem]
   refine goK_ret (zz hl D6.rd) fun v H7 ⟨hv7,h7⟩=>?_
   subst hv7
   have D7:=D6.call h7
   simp(disch:=omega) only[go_sem]
   refine goK_ret (zq hl D7.rd _) fun v H8 ⟨hv8,h8⟩=>?_
   subst hv8
   have D8:=D7.call h8
   simp(disch:=omega) only[go_sem]
   refine goK_ret (zz hl D8.rd) fun v H9 ⟨hv9,h9⟩=>?_
   subst hv9
   have D9:=D8.call h9
   have g9:=D9.box
   simp only at g9
   simp(disch:=omega) only[g9,go_sem]
   have DA:=D9.set nq (za L (zd L [58] (za L s5).2)).1 true
   refine goK_ret (zq hl DA.rd _) fun v HB ⟨hvB,hB⟩=>?_
   subst hvB
   simp(disch:=omega) only[go_sem]
   exact hQ _ _ _ _ [] nofun rfl (Low.refl _) ⟨rfl,by rw[eR];exact DA.call hB⟩
  | false =>
   have eM:zbd L s5=([],s5):=by simp[zbd,hm]
   rw[eM] at eR
   simp(disch:=omega) only[go_sem]
   refine goK_ret (zq hl D6.rd _) fun v HB ⟨hvB,hB⟩=>?_
   subst hvB
   simp(disch:=omega) only[go_sem]
   have DB:=D6.call hB
   rw[hm0] at DB
   exact hQ _ _ _ _ [] nofun rfl (Low.refl _) ⟨rfl,by rw[eR];exact DB⟩
theorem zmn (s:List UInt8):∃ L e,TokQ s L e∧RT L:=by
 obtain⟨L,e,h⟩:=zmv s
 rcases h.or with ⟨_,hR⟩|⟨_,hR⟩
 ·exact⟨L,e,h,fun x hx=>Yz.1 (zcK hR) x hx⟩
 ·exact⟨[],e,⟨by rw[hR];rfl,by simp[wT],(fun x hx=>nomatch hx),.inr ⟨YT hR,hR⟩⟩,fun x hx=>nomatch hx⟩
theorem zhP {L:TS} (hL:RT L) (d:SR) (ht:d.told=decide (d.q≠[])) {s:St} (he:s.e=0) (hd:s.dp=0) :
  mS L (zZ L d s).2<mS L s∧((zZ L d s).2.e=0→(zZ L d s).2.dp=0∧(zZ L d s).1.told=decide ((zZ L d s).1.q≠[])∧(SI d→SI (zZ L d s).1)):=by
 obtain⟨i,dp,e⟩:=s
 simp only at he hd
 subst he;subst hd
 have hr:=zcH (fun x hx=>za1 (hL x hx)) d ht i
 cases hx:zN d (L.drop i) with
 | error n =>
  rw[hx] at hr
  have h0:¬ ((zZ L d ⟨i,0,0⟩).2.e=0):=by rw[hr.2];exact hr.1
  exact⟨by simp[mS,h0],fun h=>absurd h h0⟩
 | ok y =>
  obtain⟨a,t'⟩:=y
  rw[hx] at hr
  obtain⟨i',h1,h2⟩:=hr
  have hlt:=zbV hx
  have htd:=zbK (hL.drop i) ht hx
  have hsi:=(zct hx).2
  rw[h1] at hlt
  rw[h2]
  exact⟨by simp only[mS,if_true];omega,fun _=>⟨rfl,htd,hsi⟩⟩
theorem ziM (L:TS) (d:SR) (s:St):(zZ L d s).1.defs.length≤d.defs.length+1:=by
 unfold zZ YB
 repeat' split
 all_goals simp[zcA,Zy,zbT,zdu,zfC,zev]
theorem zmG {s:List UInt8} {L:TS} {e:Int} (h:TokQ s L e) (hL:RT L) {R:SR×St} (hR:ZO L (L.length+2) true sr0 ⟨0,0,e⟩=R) :
  (R.2.e=0→ZJ s=(zbO R.1,0))∧(R.2.e≠0→ZJ s=(⟨[],[],[]⟩,R.2.e)):=by
 rcases h.or with ⟨he,ht⟩|⟨he,ht⟩
 ·subst he
  have hr:=ziZ hL
  rw[hR] at hr
  cases hx:zcj L with
  | error n =>
   rw[hx] at hr
   refine⟨fun h0=>absurd h0 (by rw[hr.2];exact hr.1),fun _=>?_⟩
   unfold ZJ;rw[ht];simp only[hx];rw[hr.2]
  | ok y =>
   obtain⟨a,t'⟩:=y
   rw[hx] at hr
   obtain⟨i',h1,h2⟩:=hr
   rw[h2]
   refine⟨fun _=>?_,fun h0=>absurd rfl h0⟩
   unfold ZJ;rw[ht];simp only[hx]
 ·rw[zbx he] at hR
  subst hR
  exact⟨fun h0=>absurd h0 he,fun _=>by unfold ZJ;rw[ht]⟩
end Go.Proofs.YtaielcdfcgpbiaaGreatDoor
