import Derived.Test.YtaielcdfcgpbiaaGreatDoorM1
import Derived.Test.YtaielcdfcgpbiaaGreatDoorM2
import Derived.Test.YtaielcdfcgpbiaaGreatDoorM3
import Derived.Test.YtaielcdfcgpbiaaGreatDoorM4
import Derived.Test.YtaielcdfcgpbiaaGreatDoorM5
import Derived.Test.YtaielcdfcgpbiaaGreatDoorM6
import Derived.Test.YtaielcdfcgpbiaaGreatDoorM7
import Derived.Test.YtaielcdfcgpbiaaGreatDoorM8
import Derived.Test.YtaielcdfcgpbiaaGreatDoorM9
set_option maxRecDepth 100000
set_option linter.all false
namespace Go.Proofs.YtaielcdfcgpbiaaGreatDoor
open Go.Ab
abbrev zR3:List AV:=[.sl .nil 6 [],.str [],.str []]
theorem zl5 (s:List UInt8) (hs:s.length≤Zi):Pure Tryz.prog 18 [.str s] (.tup [.agg (zcB (ZJ s).1),.int .i64 (ZJ s).2]):=by
 refine Pure.go ir18 ck18 (Al4 _) fun KP Q hQ=>?_
 obtain⟨L,e,hq,hL⟩:=zmn s
 have hl:=hq.w
 have hn:=hq.num
 have hll:L.length≤zk:=Nat.le_trans (Zp L) hl
 simp only[zk] at hll
 have hcl:=za5 L
 have wIT:(([105,110,116,101,114,102,97,99,101]:List UInt8)=[116,121,112,101])=False:=eq_false (by decide)
 have wUT:(([117,110,105,111,110]:List UInt8)=[116,121,112,101])=False:=eq_false (by decide)
 have wUI:(([117,110,105,111,110]:List UInt8)=[105,110,116,101,114,102,97,99,101])=False:=eq_false (by decide)
 have wET:(([101,110,117,109]:List UInt8)=[116,121,112,101])=False:=eq_false (by decide)
 have wEI:(([101,110,117,109]:List UInt8)=[105,110,116,101,114,102,97,99,101])=False:=eq_false (by decide)
 have wEU:(([101,110,117,109]:List UInt8)=[117,110,105,111,110])=False:=eq_false (by decide)
 have wPT:(([105,110,112,117,116]:List UInt8)=[116,121,112,101])=False:=eq_false (by decide)
 have wPI:(([105,110,112,117,116]:List UInt8)=[105,110,116,101,114,102,97,99,101])=False:=eq_false (by decide)
 have wPU:(([105,110,112,117,116]:List UInt8)=[117,110,105,111,110])=False:=eq_false (by decide)
 have wPE:(([105,110,112,117,116]:List UInt8)=[101,110,117,109])=False:=eq_false (by decide)
 obtain⟨R,hR⟩:∃ R,ZO L (L.length+2) true sr0 ⟨0,0,e⟩=R:=⟨_,rfl⟩
 obtain⟨q1,q2⟩:=zmG hq hL hR
 have ht:=zkd s hs
 rw[hq.tok] at ht
 simp(disch:=omega) only[ir18,go_sem]
 refine goA_intro fun b2 hb2=>?_
 simp(disch:=omega) only[go_sem]
 refine goK_pure (Pure.low ht) ?_
 simp(disch:=omega) only[go_sem]
 refine goA_intro fun br hbr=>?_
 have hr2:br≠b2:=fun e=>by subst e;rw[upd_same] at hbr;cases hbr
 simp(disch:=omega) only[go_sem]
 refine goA_intro fun bd hbd=>?_
 have hdr:bd≠br:=fun e=>by subst e;rw[upd_same] at hbd;cases hbd
 have hd2:bd≠b2:=fun e=>by subst e;rw[upd_ne (Ne.symm hr2),upd_same] at hbd;cases hbd
 obtain⟨H0,hH0⟩:∃ H0,H0=(((Heap.emp).upd b2 (.cells zR3)).upd br (.cells [.sl .no 2 (cKs L),.int .i64 0,.int .i64 0,.int .i64 e])).upd bd (.cells zR3):=⟨_,rfl⟩
 have D0:DQ L br bd b2 H0 ⟨0,0,e⟩ sr0 .nil:=⟨by rw[hH0,upd_ne (Ne.symm hdr),upd_same];rfl,by rw[hH0,upd_same];rfl,rfl,by rw[hH0,upd_ne (Ne.symm hd2),upd_ne (Ne.symm hr2),upd_same],Ne.symm hdr,hr2,hd2⟩
 simp(disch:=omega) only[go_sem]
 try simp only[upd_upd]
 try rw[← hH0]
 clear hH0
 refine goL_st (fun x:Bool×SR×St×Own=>[(8,.bool x.1)]) (fun x H'=>DQ L br bd b2 H' x.2.2.1 x.2.1 x.2.2.2∧(x.2.2.1.e=0→x.2.2.1.dp=0)∧(x.2.2.1.e=0→x.2.1.told=decide (x.2.1.q≠[]))∧(x.2.2.1.e=0→SI x.2.1)∧(∃ m,mS L x.2.2.1<m∧ZO L m x.1 x.2.1 x.2.2.1=R)∧x.2.1.defs.length+mS L x.2.2.1≤L.length+1) (fun x=>mS L x.2.2.1) (true,sr0,⟨0,0,e⟩,.nil) (by simp(disch:=omega) only[go_sem]) ⟨D0,fun _=>rfl,fun _=>rfl,fun _ _=>⟨rfl,rfl⟩,⟨_,by have:=zek L ⟨0,0,e⟩;simp only;omega,hR⟩,by have:=zek L ⟨0,0,e⟩;have h0:sr0.defs.length=0:=rfl;simp only;omega⟩ ?_
 rintro⟨first,d,u,o⟩ H1 J ⟨D1,hdp,htd,hsi,⟨m,hm,hR1⟩,hlen⟩ hJ
 simp only at D1 hdp htd hsi hm hR1 hlen
 have gr:=D1.rd
 simp only[poc] at gr
 have gd:=D1.box
 have g21:=D1.res
 have nrd:=D1.ne
 have hdl:=zcZ d.defs
 obtain⟨m,rfl⟩:∃ k,m=k+1:=⟨m-1,by omega⟩
 rw[ZO] at hR1
 by_cases hue:u.e=0
 case neg =>
  rw[if_neg (fun h=>hue h.1)] at hR1
  subst hR1
  have e1:=q2 hue
  rw[e1] at hQ
  simp(disch:=omega) only[gr,hue,g21,hr2,Ne.symm hr2,hcl,go_sem]
  refine hQ _ _ _ [.agg zR3,.int .i64 u.e] nofun (by simp(disch:=omega) only[ir18,resvs,resv,go_sem]) (by simp[tupOf,envOf,AV.strip,AV.strip1,zcB,cEs])
 by_cases hgo:first=true∨u.i<L.length
 case neg =>
  rw[if_neg (fun h=>hgo h.2)] at hR1
  subst hR1
  have e1:=q1 hue
  rw[e1] at hQ
  have hff:first=false:=by cases first;rfl;exact absurd (.inl rfl) hgo
  subst hff
  have hil:¬ ((u.i:Int)<(L.length:Int)):=by have:¬ (u.i<L.length):=fun h=>hgo (.inr h);omega
  cases htt:d.told with
  | true =>
   have hqn:¬ (d.q=[]):=by have:=htd hue;rw[htt] at this;simpa using this.symm
   simp(disch:=omega) only[gr,hue,g21,hr2,Ne.symm hr2,hcl,hil,gd,hqn,go_sem]
   refine hQ _ _ _ [.agg [.sl o 6 (cEs d.defs),.str d.q,.str d.m],.int .i64 0] nofun (by simp(disch:=omega) only[ir18,resvs,resv,go_sem]) (by simp[tupOf,envOf,AV.strip,AV.strip1,zcB,zbO,htt])
  | false =>
   obtain⟨hq0,hm0⟩:=hsi hue htt
   rw[hq0,hm0] at gd
   have ef:zbO d=⟨d.defs,[81,117,101,114,121],zd1 d.defs⟩:=by simp[zbO,htt,zd1]
   rw[ef] at hQ
   simp(disch:=omega) only[gr,hue,g21,hr2,Ne.symm hr2,hcl,hil,gd,hd2,Ne.symm hd2,go_sem]
   refine goL_range d.defs 10 (fun x:Unit=>[]) (fun done rest x H'=>H' bd=some (.cells [.sl o 6 (cEs d.defs),.str [81,117,101,114,121],.str (zd1 done)])∧H' b2=some (.cells zR3)) () (by simp(disch:=omega) only[go_sem]) ⟨by rw[upd_same];rfl,by rw[upd_ne (Ne.symm hd2)];exact g21⟩ ?_ ?_
   ·rintro _ H4 J4 ⟨g64,g24⟩ hlt4
    simp(disch:=omega) only[hdl,hlt4,g64,g24,hd2,Ne.symm hd2,go_sem]
    refine hQ _ _ _ [.agg [.sl o 6 (cEs d.defs),.str [81,117,101,114,121],.str (zd1 d.defs)],.int .i64 0] nofun (by simp(disch:=omega) only[ir18,resvs,resv,go_sem]) (by simp[tupOf,envOf,AV.strip,AV.strip1,zcB])
   ·rintro done x rest _ H4 J4 hdd hlt4 hlt4' ⟨g64,g24⟩ hJ4
    have hg:=zfl hdd
    have hms:=zet done x
    obtain⟨k,nm,faces,flds,parts,ps⟩:=x
    rw[ziI] at hg
    simp only at hms
    by_cases hnm:nm=[77,117,116,97,116,105,111,110]
    ·rw[if_pos hnm] at hms
     have hnm':=eq_true hnm
     simp(disch:=omega) only[hdl,hlt4,hg,hnm',g64,wrap64,go_sem]
     refine goJ (hJ4 () _ ⟨by rw[upd_same,hms],by rw[upd_ne (Ne.symm hd2)];exact g24⟩) (by simp(disch:=omega) only[hdl,go_sem])
    ·rw[if_neg hnm] at hms
     simp(disch:=omega) only[hdl,hlt4,hg,hnm,g64,wrap64,go_sem]
     refine goJ (hJ4 () _ ⟨by rw[hms];exact g64,g24⟩) (by simp(disch:=omega) only[hdl,go_sem])
 rw[if_pos ⟨hue,hgo⟩] at hR1
 obtain⟨p1,p2⟩:=zhP hL d (htd hue) hue (hdp hue)
 have hsl:=ziM L d u
 have hk0:d.defs.length≤L.length+1:=by omega
 cases first
 case' true =>
  simp(disch:=omega) only[gr,hue,go_sem]
 case' false =>
  have hil:((u.i:Int)<(L.length:Int))=True:=eq_true (by rcases hgo with h|h;cases h;omega)
  simp(disch:=omega) only[gr,hue,hcl,hil,go_sem]
 all_goals
  refine goK_ret (zdz hl D1.rd) fun v H2 ⟨hv2,h2⟩=>?_
  subst hv2
  have D2:=D1.call h2
  have P1:(zx L u).e=0→(zx L u).dp=16-((16:Nat):Int):=zfk (L:=L) (fun h=>by rw[hdp h];rfl)
  generalize hs1:zx L u=s1 at *
  simp(disch:=omega) only[go_sem]
  refine goK_ret (zeM hl D2.rd) fun v H3 ⟨hv3,hH⟩=>?_
  subst hv3;subst hH
  cases c1:zG L [116,121,112,101] s1 with
  | true =>
   have hwd:(s1.hd L).k=2∧(s1.hd L).s=[116,121,112,101]:=by simpa[zG] using c1
   have htk:zw (s1.hd L)=.agg [.int .i64 2,.str [116,121,112,101]]:=by simp[zw,hwd.1,hwd.2]
   simp(disch:=omega) only[htk,go_sem]
   refine goA_intro fun b9 hb9=>?_
   simp(disch:=omega) only[eq_self,go_sem]
   have n9:br≠b9:=fun e=>by subst e;rw[D2.rd] at hb9;cases hb9
   have D3:=D2.new hb9 (.cells [.int .i64 2,.str [116,121,112,101]])
   refine goK_ret (zz hl D3.rd) fun v H4 ⟨hv4,h4⟩=>?_
   subst hv4
   have D4:=D3.call h4
   have g94:=oth h4 n9 (upd_same ..)
   have P4:=yg (L:=L) P1
   have gd4:=D4.box
   simp(disch:=omega) only[g94,gd4,go_sem]
   refine goK_ret (zlg hl hn D4.rd P4) fun v H5 ⟨hv5,h5⟩=>?_
   subst hv5
   have D5:=D4.call h5
   have g5:=D5.box
   simp(disch:=omega) only[g5,yM,yf,go_sem]
   refine goP_ownS (by rw[hdl];exact D5.own) (by simp only[hdl,Al2,Al3];omega) (by simp only[hdl,Al2,Al3,maxLen];omega) fun o6 H6 hs6=>?_
   have g6:=zv D5.own g5 hs6.kept
   have eD:zZ L d u=zcA d (YS L 1 (za L s1).2):=by
    show YB L d (zx L u)=_
    rw[hs1]
    simp only[YB,c1,if_true]
   simp(disch:=omega) only[g6,yM,yf,go_sem]
   refine goJ (hJ (false,(zZ L d u).1,(zZ L d u).2,o6) _ p1 ⟨by rw[eD];exact D5.app (YS L 1 (za L s1).2).1 (by simpa[hdl] using hs6) (by simp) (by simp[cEs,yw]),fun h=>(p2 h).1,fun h=>(p2 h).2.1,fun h=>(p2 h).2.2 (hsi hue),⟨m,by simp only;omega,hR1⟩,by simp only;omega⟩) (by simp(disch:=omega) only[go_sem])
  | false =>
  cases c2:zG L [105,110,116,101,114,102,97,99,101] s1 with
  | true =>
   have hwd:(s1.hd L).k=2∧(s1.hd L).s=[105,110,116,101,114,102,97,99,101]:=by simpa[zG] using c2
   have htk:zw (s1.hd L)=.agg [.int .i64 2,.str [105,110,116,101,114,102,97,99,101]]:=by simp[zw,hwd.1,hwd.2]
   simp(disch:=omega) only[htk,go_sem]
   refine goA_intro fun b9 hb9=>?_
   simp(disch:=omega) only[wIT,eq_self,go_sem]
   have n9:br≠b9:=fun e=>by subst e;rw[D2.rd] at hb9;cases hb9
   have D3:=D2.new hb9 (.cells [.int .i64 2,.str [105,110,116,101,114,102,97,99,101]])
   refine goK_ret (zz hl D3.rd) fun v H4 ⟨hv4,h4⟩=>?_
   subst hv4
   have D4:=D3.call h4
   have g94:=oth h4 n9 (upd_same ..)
   have P4:=yg (L:=L) P1
   have gd4:=D4.box
   simp(disch:=omega) only[g94,gd4,go_sem]
   refine goK_ret (zlf hl hn D4.rd P4) fun v H5 ⟨hv5,h5⟩=>?_
   subst hv5
   have D5:=D4.call h5
   have g5:=D5.box
   simp(disch:=omega) only[g5,yM,yf,go_sem]
   refine goP_ownS (by rw[hdl];exact D5.own) (by simp only[hdl,Al2,Al3];omega) (by simp only[hdl,Al2,Al3,maxLen];omega) fun o6 H6 hs6=>?_
   have g6:=zv D5.own g5 hs6.kept
   have eD:zZ L d u=zcA d (YS L 2 (za L s1).2):=by
    show YB L d (zx L u)=_
    rw[hs1]
    simp only[YB,c1,c2,Al7,if_true,if_false]
   simp(disch:=omega) only[g6,yM,yf,go_sem]
   refine goJ (hJ (false,(zZ L d u).1,(zZ L d u).2,o6) _ p1 ⟨by rw[eD];exact D5.app (YS L 2 (za L s1).2).1 (by simpa[hdl] using hs6) (by simp) (by simp[cEs,yw]),fun h=>(p2 h).1,fun h=>(p2 h).2.1,fun h=>(p2 h).2.2 (hsi hue),⟨m,by simp only;omega,hR1⟩,by simp only;omega⟩) (by simp(disch:=omega) only[go_sem])
  | false =>
  cases c3:zG L [117,110,105,111,110] s1 with
  | true =>
   have hwd:(s1.hd L).k=2∧(s1.hd L).s=[117,110,105,111,110]:=by simpa[zG] using c3
   have htk:zw (s1.hd L)=.agg [.int .i64 2,.str [117,110,105,111,110]]:=by simp[zw,hwd.1,hwd.2]
   simp(disch:=omega) only[htk,go_sem]
   refine goA_intro fun b9 hb9=>?_
   simp(disch:=omega) only[wUT,wUI,eq_self,go_sem]
   have n9:br≠b9:=fun e=>by subst e;rw[D2.rd] at hb9;cases hb9
   have D3:=D2.new hb9 (.cells [.int .i64 2,.str [117,110,105,111,110]])
   refine goK_ret (zz hl D3.rd) fun v H4 ⟨hv4,h4⟩=>?_
   subst hv4
   have D4:=D3.call h4
   have g94:=oth h4 n9 (upd_same ..)
   have P4:=yg (L:=L) P1
   have gd4:=D4.box
   simp(disch:=omega) only[g94,gd4,go_sem]
   refine goK_ret (zkP hl hn D4.rd P4) fun v H5 ⟨hv5,h5⟩=>?_
   subst hv5
   have D5:=D4.call h5
   have g5:=D5.box
   simp(disch:=omega) only[g5,yM,yf,go_sem]
   refine goP_ownS (by rw[hdl];exact D5.own) (by simp only[hdl,Al2,Al3];omega) (by simp only[hdl,Al2,Al3,maxLen];omega) fun o6 H6 hs6=>?_
   have g6:=zv D5.own g5 hs6.kept
   have eD:zZ L d u=zcA d (zaw L (za L s1).2):=by
    show YB L d (zx L u)=_
    rw[hs1]
    simp only[YB,c1,c2,c3,Al7,if_true,if_false]
   simp(disch:=omega) only[g6,yM,yf,go_sem]
   refine goJ (hJ (false,(zZ L d u).1,(zZ L d u).2,o6) _ p1 ⟨by rw[eD];exact D5.app (zaw L (za L s1).2).1 (by simpa[hdl] using hs6) (by simp) (by simp[cEs,yw]),fun h=>(p2 h).1,fun h=>(p2 h).2.1,fun h=>(p2 h).2.2 (hsi hue),⟨m,by simp only;omega,hR1⟩,by simp only;omega⟩) (by simp(disch:=omega) only[go_sem])
  | false =>
  cases c4:zG L [101,110,117,109] s1 with
  | true =>
   have hwd:(s1.hd L).k=2∧(s1.hd L).s=[101,110,117,109]:=by simpa[zG] using c4
   have htk:zw (s1.hd L)=.agg [.int .i64 2,.str [101,110,117,109]]:=by simp[zw,hwd.1,hwd.2]
   simp(disch:=omega) only[htk,go_sem]
   refine goA_intro fun b9 hb9=>?_
   simp(disch:=omega) only[wET,wEI,wEU,eq_self,go_sem]
   have n9:br≠b9:=fun e=>by subst e;rw[D2.rd] at hb9;cases hb9
   have D3:=D2.new hb9 (.cells [.int .i64 2,.str [101,110,117,109]])
   refine goK_ret (zz hl D3.rd) fun v H4 ⟨hv4,h4⟩=>?_
   subst hv4
   have D4:=D3.call h4
   have g94:=oth h4 n9 (upd_same ..)
   have P4:=yg (L:=L) P1
   have gd4:=D4.box
   simp(disch:=omega) only[g94,gd4,go_sem]
   refine goK_ret (zlD hl hn D4.rd P4) fun v H5 ⟨hv5,h5⟩=>?_
   subst hv5
   have D5:=D4.call h5
   have g5:=D5.box
   simp(disch:=omega) only[g5,yM,yf,go_sem]
   refine goP_ownS (by rw[hdl];exact D5.own) (by simp only[hdl,Al2,Al3];omega) (by simp only[hdl,Al2,Al3,maxLen];omega) fun o6 H6 hs6=>?_
   have g6:=zv D5.own g5 hs6.kept
   have eD:zZ L d u=zcA d (zb0 L (za L s1).2):=by
    show YB L d (zx L u)=_
    rw[hs1]
    simp only[YB,c1,c2,c3,c4,Al7,if_true,if_false]
   simp(disch:=omega) only[g6,yM,yf,go_sem]
   refine goJ (hJ (false,(zZ L d u).1,(zZ L d u).2,o6) _ p1 ⟨by rw[eD];exact D5.app (zb0 L (za L s1).2).1 (by simpa[hdl] using hs6) (by simp) (by simp[cEs,yw]),fun h=>(p2 h).1,fun h=>(p2 h).2.1,fun h=>(p2 h).2.2 (hsi hue),⟨m,by simp only;omega,hR1⟩,by simp only;omega⟩) (by simp(disch:=omega) only[go_sem])
  | false =>
  cases c5:zG L [105,110,112,117,116] s1 with
  | true =>
   have hwd:(s1.hd L).k=2∧(s1.hd L).s=[105,110,112,117,116]:=by simpa[zG] using c5
   have htk:zw (s1.hd L)=.agg [.int .i64 2,.str [105,110,112,117,116]]:=by simp[zw,hwd.1,hwd.2]
   simp(disch:=omega) only[htk,go_sem]
   refine goA_intro fun b9 hb9=>?_
   simp(disch:=omega) only[wPT,wPI,wPU,wPE,eq_self,go_sem]
   have n9:br≠b9:=fun e=>by subst e;rw[D2.rd] at hb9;cases hb9
   have D3:=D2.new hb9 (.cells [.int .i64 2,.str [105,110,112,117,116]])
   refine goK_ret (zz hl D3.rd) fun v H4 ⟨hv4,h4⟩=>?_
   subst hv4
   have D4:=D3.call h4
   have g94:=oth h4 n9 (upd_same ..)
   have P4:=yg (L:=L) P1
   have gd4:=D4.box
   simp(disch:=omega) only[g94,gd4,go_sem]
   refine goK_ret (zle hl hn D4.rd P4) fun v H5 ⟨hv5,h5⟩=>?_
   subst hv5
   have D5:=D4.call h5
   have g5:=D5.box
   simp(disch:=omega) only[g5,yM,yf,go_sem]
   refine goP_ownS (by rw[hdl];exact D5.own) (by simp only[hdl,Al2,Al3];omega) (by simp only[hdl,Al2,Al3,maxLen];omega) fun o6 H6 hs6=>?_
   have g6:=zv D5.own g5 hs6.kept
   have eD:zZ L d u=zcA d (zat L (za L s1).2):=by
    show YB L d (zx L u)=_
    rw[hs1]
    simp only[YB,c1,c2,c3,c4,c5,Al7,if_true,if_false]
   simp(disch:=omega) only[g6,yM,yf,go_sem]
   refine goJ (hJ (false,(zZ L d u).1,(zZ L d u).2,o6) _ p1 ⟨by rw[eD];exact D5.app (zat L (za L s1).2).1 (by simpa[hdl] using hs6) (by simp) (by simp[cEs,yw]),fun h=>(p2 h).1,fun h=>(p2 h).2.1,fun h=>(p2 h).2.2 (hsi hue),⟨m,by simp only;omega,hR1⟩,by simp only;omega⟩) (by simp(disch:=omega) only[go_sem])
  | false =>
  by_cases hk:(s1.hd L).k=2
  ·have n1:((s1.hd L).s=[116,121,112,101])=False:=eq_false (by simpa[zG,hk] using c1)
   have n2:((s1.hd L).s=[105,110,116,101,114,102,97,99,101])=False:=eq_false (by simpa[zG,hk] using c2)
   have n3:((s1.hd L).s=[117,110,105,111,110])=False:=eq_false (by simpa[zG,hk] using c3)
   have n4:((s1.hd L).s=[101,110,117,109])=False:=eq_false (by simpa[zG,hk] using c4)
   have n5:((s1.hd L).s=[105,110,112,117,116])=False:=eq_false (by simpa[zG,hk] using c5)
   have hk':=eq_true hk
   simp(disch:=omega) only[zw,go_sem]
   refine goA_intro fun b9 hb9=>?_
   simp(disch:=omega) only[hk',n1,n2,n3,n4,n5,go_sem]
   have D3:=D2.new hb9 (.cells [.int .i64 (s1.hd L).k,.str (s1.hd L).s])
   refine goK_ret (ZT hl D3.rd _) fun v H4 ⟨hv4,h4⟩=>?_
   subst hv4;subst h4
   cases c6:zG L [115,99,104,101,109,97] s1 with
   | true =>
    have g3:=D3.box
    by_cases hqn:d.q=[]
    ·have hqn':=eq_true hqn
     have htf:d.told=false:=by rw[htd hue];simp[hqn]
     have hm0:=(hsi hue htf).2
     have eD:zZ L d u=zbT L d (za L s1).2:=by
      show YB L d (zx L u)=_
      rw[hs1]
      simp only[YB,c1,c2,c3,c4,c5,c6,Al7,if_false,hqn,decide_true,Bool.and_self,if_true]
     simp(disch:=omega) only[g3,hqn',go_sem]
     refine goK_ret (zz hl D3.rd) fun v H5 ⟨hv5,h5⟩=>?_
     subst hv5
     have D5:=D3.call h5
     simp(disch:=omega) only[go_sem]
     refine goK_ret (zkv hl D5 hm0) fun v H6 ⟨hv6,D6⟩=>?_
     subst hv6
     rw[← eD] at D6
     simp(disch:=omega) only[go_sem]
     exact goJ (hJ (false,(zZ L d u).1,(zZ L d u).2,o) _ p1 ⟨D6,fun h=>(p2 h).1,fun h=>(p2 h).2.1,fun h=>(p2 h).2.2 (hsi hue),⟨m,by simp only;omega,hR1⟩,by simp only;omega⟩) (by simp(disch:=omega) only[go_sem])
    ·have eD:zZ L d u=(d,yc 2 s1):=by
      show YB L d (zx L u)=_
      rw[hs1]
      simp only[YB,c1,c2,c3,c4,c5,c6,Al7,if_false,hqn,decide_false,Bool.and_false]
     simp(disch:=omega) only[g3,hqn,go_sem]
     refine goK_ret (Yo D3.rd 2) fun v H5 ⟨hv5,h5⟩=>?_
     subst hv5
     have D5:=D3.call h5
     simp(disch:=omega) only[go_sem]
     exact goJ (hJ (false,(zZ L d u).1,(zZ L d u).2,o) _ p1 ⟨by rw[eD];exact D5,fun h=>(p2 h).1,fun h=>(p2 h).2.1,fun h=>(p2 h).2.2 (hsi hue),⟨m,by simp only;omega,hR1⟩,by simp only;omega⟩) (by simp(disch:=omega) only[go_sem])
   | false =>
    have eD:zZ L d u=(d,yc 2 s1):=by
     show YB L d (zx L u)=_
     rw[hs1]
     simp only[YB,c1,c2,c3,c4,c5,c6,Al7,if_false,Bool.false_and]
    simp(disch:=omega) only[go_sem]
    refine goK_ret (Yo D3.rd 2) fun v H5 ⟨hv5,h5⟩=>?_
    subst hv5
    have D5:=D3.call h5
    simp(disch:=omega) only[go_sem]
    exact goJ (hJ (false,(zZ L d u).1,(zZ L d u).2,o) _ p1 ⟨by rw[eD];exact D5,fun h=>(p2 h).1,fun h=>(p2 h).2.1,fun h=>(p2 h).2.2 (hsi hue),⟨m,by simp only;omega,hR1⟩,by simp only;omega⟩) (by simp(disch:=omega) only[go_sem])
  ·have c6:zG L [115,99,104,101,109,97] s1=false:=by simp[zG,hk]
   simp(disch:=omega) only[zw,go_sem]
   refine goA_intro fun b9 hb9=>?_
   simp(disch:=omega) only[hk,go_sem]
   have D3:=D2.new hb9 (.cells [.int .i64 (s1.hd L).k,.str (s1.hd L).s])
   refine goK_ret (ZT hl D3.rd _) fun v H4 ⟨hv4,h4⟩=>?_
   subst hv4;subst h4
   rw[c6]
   have eD:zZ L d u=(d,yc 2 s1):=by
    show YB L d (zx L u)=_
    rw[hs1]
    simp only[YB,c1,c2,c3,c4,c5,c6,Al7,if_false,Bool.false_and]
   simp(disch:=omega) only[go_sem]
   refine goK_ret (Yo D3.rd 2) fun v H5 ⟨hv5,h5⟩=>?_
   subst hv5
   have D5:=D3.call h5
   simp(disch:=omega) only[go_sem]
   exact goJ (hJ (false,(zZ L d u).1,(zZ L d u).2,o) _ p1 ⟨by rw[eD];exact D5,fun h=>(p2 h).1,fun h=>(p2 h).2.1,fun h=>(p2 h).2.2 (hsi hue),⟨m,by simp only;omega,hR1⟩,by simp only;omega⟩) (by simp(disch:=omega) only[go_sem])
theorem ziu (l:List (List UInt8)) (hl:l.length≤Lim):Pure Tryz.prog 51 [.sl .no 1 (cT l),.sl .no 1 (cT l)] (.bool true):=by
 refine Pure.go ir51 ck51 (Al4 _) fun KP Q hQ=>?_
 have hcl:=zbn l
 simp only[Lim] at hl
 simp(disch:=omega) only[ir51,hcl,go_sem]
 refine goL_range l 5 (fun x:Unit=>[]) (fun done rest x H=>True) () (by simp(disch:=omega) only[go_sem]) trivial ?_ ?_
 ·rintro _ H J _ hlt
  simp(disch:=omega) only[hcl,hlt,go_sem]
  exact hQ _ _ _ _ nofun rfl (by simp[tupOf,envOf,AV.strip,AV.strip1])
 ·rintro done x rest _ H J hd hlt hlt' _ hJ
  have hg:(cT l).getD done.length []=[.str x]:=by rw[hd];simp[cT]
  simp(disch:=omega) only[hcl,hlt,hg,wrap64,go_sem]
  exact goJ (hJ () H trivial) (by simp(disch:=omega) only[go_sem])
theorem zhe (l:List VarD) (hl:bWs l≤Lim):Pure Tryz.prog 52 [.sl .no 10 (cWs l),.sl .no 10 (cWs l)] (.bool true):=by
 refine Pure.go ir52 ck52 (Al4 _) fun KP Q hQ=>?_
 have hcl:=zfc l
 have hml:=zjE l
 have hl':=hl
 simp only[Lim] at hl'
 simp(disch:=omega) only[ir52,hcl,go_sem]
 refine goL_range l 5 (fun x:Unit=>[]) (fun done rest x H=>True) () (by simp(disch:=omega) only[go_sem]) trivial ?_ ?_
 ·rintro _ H J _ hlt
  simp(disch:=omega) only[hcl,hlt,go_sem]
  exact hQ _ _ _ _ nofun rfl (by simp[tupOf,envOf,AV.strip,AV.strip1])
 ·rintro done x rest _ H J hd hlt hlt' _ hJ
  have hg:=zka hd
  have hbm:=zjR done x rest
  rw[← hd] at hbm
  obtain⟨nm,⟨tn,tl,tm⟩,h,v⟩:=x
  simp only[bW] at hbm
  rw[zf2] at hg
  have hs:=zkK v (by simp only[Lim];omega) v
  rw[ZG rfl] at hs
  simp(disch:=omega) only[zh,zf,zc,zg,ze,zb,zm,hcl,hlt,hg,fitsAll,K1.fits,keqs,AV.keq1,Bool.and_true,go_sem]
  refine goK_pure hs ?_
  simp(disch:=omega) only[zh,zf,zc,zg,ze,zb,zm,hcl,hlt,hg,wrap64,go_sem]
  exact goJ (hJ () H trivial) (by simp(disch:=omega) only[go_sem])
theorem zlv (x:FldD) (hl:bL x≤Lim):Pure Tryz.prog 53 [.agg (cL x),.agg (cL x)] (.bool true):=by
 refine Pure.go ir53 ck53 (Al4 _) fun KP Q hQ=>?_
 obtain⟨nm,ps,⟨tn,tl,tm⟩,dirs⟩:=x
 simp only[bL] at hl
 have h1:=zhw dirs dirs (by omega)
 rw[ZG rfl] at h1
 simp(disch:=omega) only[ir53,zlS,fitsAll,K1.fits,keqs,AV.keq1,Bool.and_true,go_sem]
 refine goK_pure (zhe ps (by omega)) ?_
 simp(disch:=omega) only[go_sem]
 refine goK_pure h1 ?_
 simp(disch:=omega) only[go_sem]
 exact hQ _ _ _ _ nofun rfl (by simp[tupOf,envOf,AV.strip,AV.strip1])
theorem zms (x:DefD) (hl:bE x≤Lim):Pure Tryz.prog 21 [.agg (cE x),.agg (cE x)] (.bool true):=by
 refine Pure.go ir21 ck21 (Al4 _) fun KP Q hQ=>?_
 obtain⟨k,nm,faces,flds,parts,ps⟩:=x
 simp only[bE] at hl
 have hcl:=zaa flds
 have hlf:=zjP flds
 have htf:=ziQ faces
 have htp:=ziQ parts
 have hl':=hl
 simp only[Lim] at hl'
 simp(disch:=omega) only[ir21,ziI,go_sem]
 refine goK_pure (ziu faces (by omega)) ?_
 simp(disch:=omega) only[go_sem]
 refine goK_pure (ziu parts (by omega)) ?_
 simp(disch:=omega) only[go_sem]
 refine goK_pure (zhe ps (by omega)) ?_
 simp(disch:=omega) only[hcl,go_sem]
 refine goL_range flds 5 (fun x:Unit=>[]) (fun done rest x H=>True) () (by simp(disch:=omega) only[go_sem]) trivial ?_ ?_
 ·rintro _ H J _ hlt
  simp(disch:=omega) only[hcl,hlt,go_sem]
  exact hQ _ _ _ _ nofun rfl (by simp[tupOf,envOf,AV.strip,AV.strip1])
 ·rintro done x rest _ H J hd hlt hlt' _ hJ
  have hg:=zkb hd
  have hbm:=zks done x rest
  rw[← hd] at hbm
  have hf:=zlv x (by omega)
  have h6:(cL x).length=6:=rfl
  have t6:(cL x).take 6=cL x:=rfl
  simp(disch:=omega) only[hcl,hlt,hg,h6,t6,go_sem]
  refine goK_pure hf ?_
  simp(disch:=omega) only[wrap64,go_sem]
  exact goJ (hJ () H trivial) (by simp(disch:=omega) only[go_sem])
theorem zmI (s:SchD) (hl:zgK s≤Lim):Pure Tryz.prog 19 [.agg (zcB s),.agg (zcB s)] (.bool true):=by
 refine Pure.go ir19 ck19 (Al4 _) fun KP Q hQ=>?_
 obtain⟨defs,q,m⟩:=s
 simp only[zgK] at hl
 have ed:zcB ⟨defs,q,m⟩=[.sl .no 6 (cEs defs),.str q,.str m]:=rfl
 have hcl:=zcZ defs
 have hlf:=zjL defs
 have hl':=hl
 simp only[Lim] at hl'
 rw[ed]
 simp(disch:=omega) only[ir19,hcl,go_sem]
 refine goL_range defs 5 (fun x:Unit=>[]) (fun done rest x H=>True) () (by simp(disch:=omega) only[go_sem]) trivial ?_ ?_
 ·rintro _ H J _ hlt
  simp(disch:=omega) only[hcl,hlt,go_sem]
  exact hQ _ _ _ _ nofun rfl (by simp[tupOf,envOf,AV.strip,AV.strip1])
 ·rintro done x rest _ H J hd hlt hlt' _ hJ
  have hg:=zfl hd
  have hbm:=zkl done x rest
  rw[← hd] at hbm
  have hf:=zms x (by omega)
  have h6:(cE x).length=6:=rfl
  have t6:(cE x).take 6=cE x:=rfl
  simp(disch:=omega) only[hcl,hlt,hg,h6,t6,go_sem]
  refine goK_pure hf ?_
  simp(disch:=omega) only[wrap64,go_sem]
  exact goJ (hJ () H trivial) (by simp(disch:=omega) only[go_sem])
theorem zkp {s:List UInt8} {L:List Tok} {n:Int} (h:yB s=.ok L) (he:zcj L=.error n):n≠0:=zgW _ _ he
theorem zkh {s:List UInt8} {L:List Tok} {d:SR} {t:TS} (h:yB s=.ok L) (h2:zcj L=.ok (d,t)):ZJ s=(zbO d,0):=by unfold ZJ;rw[h];simp only[h2]
theorem zgh (s:List UInt8):((ZJ s).2≠0∧(ZJ s).1=⟨[],[],[]⟩)∨∃ L d,yB s=.ok L∧zcj L=.ok (d,[])∧ZJ s=(zbO d,0):=by
 cases h:yB s with
 | error n=>left;unfold ZJ;rw[h];exact⟨YT h,rfl⟩
 | ok L =>
  cases h2:zcj L with
  | error n=>left;unfold ZJ;rw[h];simp only[h2];exact⟨zkp h h2,trivial⟩
  | ok x =>
   obtain⟨d,t⟩:=x
   obtain rfl:=(zfI h2).1
   exact .inr ⟨L,d,rfl,h2,zkh h h2⟩
theorem zk4 (d:SR):zgK (zbO d)≤bSR d+13:=by
 unfold zbO
 split
 ·simp only[zgK,bSR];omega
 ·simp only[zgK,bSR]
  split<;>simp<;>omega
theorem zlj (s:List UInt8):zgK (ZJ s).1≤zk+13∧zlF (ZJ s).1:=by
 rcases zgh s with ⟨_,h⟩|⟨L,d,h1,h2,h3⟩
 ·rw[h];exact⟨by simp[zgK,bEs],fun x hx=>nomatch hx⟩
 ·rw[h3]
  have h4:=zfI h2
  have hw:=ze7 h1
  have hf:=zk4 d
  refine⟨by simp only;omega,?_⟩
  have:=h4.2.2
  unfold zbO
  split<;>exact this
def zl1:List UInt8:=[117,110,105,111,110,32,85,32,61,32,65,32,124,32,66]
def zmm:List UInt8:=[115,99,97,108,97,114,32,88]
theorem zmg:ZJ zl1=(⟨[⟨3,[85],[],[],[[65],[66]],[]⟩],[81,117,101,114,121],[]⟩,0):=by kernel_rfl
theorem zlG:ZJ zmm=(⟨[],[],[]⟩,2):=by kernel_rfl
theorem ziY:Pure Tryz.prog 16 [] (.bool true):=by
 refine Pure.go ir16 ck16 (Al4 _) fun KP Q hQ=>?_
 have h1:=zdU zl1 (by decide)
 have h2:=zdU zmm (by decide)
 rw[zmg] at h1
 rw[zlG] at h2
 have ed:zcB ⟨[⟨3,[85],[],[],[[65],[66]],[]⟩],[81,117,101,114,121],[]⟩=[.sl .no 6 [[.int .i64 3,.str [85],.sl .no 1 [],.sl .no 6 [],.sl .no 1 [[.str [65]],[.str [66]]],.sl .no 10 []]],.str [81,117,101,114,121],.str []]:=rfl
 have ez:zcB ⟨[],[],[]⟩=[.sl .no 6 [],.str [],.str []]:=rfl
 simp(disch:=omega) only[ir16,go_sem]
 refine goK_pure (h1:Pure Tryz.prog 17 [.str _] _) ?_
 simp(disch:=omega) only[ed,go_sem]
 refine goA_intro fun b1 hb1=>?_
 simp(disch:=omega) only[go_sem]
 refine goK_pure (h2:Pure Tryz.prog 17 [.str _] _) ?_
 simp(disch:=omega) only[ez,go_sem]
 refine goA_intro fun b2 hb2=>?_
 have h21:b2≠b1:=fun e=>by subst e;rw[upd_same] at hb2;cases hb2
 simp(disch:=omega) only[Ne.symm h21,h21,Al2,Al3,List.getD_cons_zero,List.getD_cons_succ,go_sem]
 exact hQ _ _ _ _ nofun rfl (by simp[tupOf,envOf,AV.strip,AV.strip1])
theorem zh4 (s:List UInt8) (hs:s.length≤Zi):Pure Tryz.prog 4 [.str s] (.bool true):=by
 refine Pure.go ir4 ck4 (Al4 _) fun KP Q hQ=>?_
 by_cases h1:(8202:Int)<(s.length:Int)
 ·simp(disch:=omega) only[ir4,h1,go_sem]
  refine goK_pure ziY ?_
  simp(disch:=omega) only[go_sem]
  exact hQ _ _ _ _ nofun rfl (by simp[tupOf,envOf,AV.strip,AV.strip1])
 have hb:=(zlj s).1
 have hsm:=zmI (ZJ s).1 (by simp only[zk] at hb;simp only[Lim];omega)
 have hp6:=zl5 s hs
 have hp:=zdU s hs
 generalize ZJ s=R at *
 obtain⟨d,n⟩:=R
 simp only at hsm hp hp6
 simp(disch:=omega) only[ir4,h1,go_sem]
 refine goK_pure hp ?_
 have ed:zcB d=[.sl .no 6 (cEs d.defs),.str d.q,.str d.m]:=rfl
 rw[ed] at hp6 hsm
 simp(disch:=omega) only[ed,go_sem]
 refine goA_intro fun b3 hb3=>?_
 simp(disch:=omega) only[go_sem]
 refine goK_pure hp6 ?_
 simp(disch:=omega) only[go_sem]
 refine goA_intro fun b5 hb5=>?_
 have h53:b5≠b3:=fun e=>by subst e;rw[upd_same] at hb5;cases hb5
 simp(disch:=omega) only[h53,Ne.symm h53,go_sem]
 refine goK_pure hsm ?_
 simp(disch:=omega) only[go_sem]
 refine goK_pure ziY ?_
 simp(disch:=omega) only[go_sem]
 exact hQ _ _ _ _ nofun rfl (by simp[tupOf,envOf,AV.strip,AV.strip1])
end Go.Proofs.YtaielcdfcgpbiaaGreatDoor
