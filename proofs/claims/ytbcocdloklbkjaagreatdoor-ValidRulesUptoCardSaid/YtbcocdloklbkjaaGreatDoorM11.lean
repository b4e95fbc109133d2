import Derived.Test.YtbcocdloklbkjaaGreatDoorM1
import Derived.Test.YtbcocdloklbkjaaGreatDoorM2
import Derived.Test.YtbcocdloklbkjaaGreatDoorM3
import Derived.Test.YtbcocdloklbkjaaGreatDoorM4
import Derived.Test.YtbcocdloklbkjaaGreatDoorM5
import Derived.Test.YtbcocdloklbkjaaGreatDoorM6
import Derived.Test.YtbcocdloklbkjaaGreatDoorM7
import Derived.Test.YtbcocdloklbkjaaGreatDoorM8
import Derived.Test.YtbcocdloklbkjaaGreatDoorM9
import Derived.Test.YtbcocdloklbkjaaGreatDoorM10
set_option maxRecDepth 100000
set_option linter.all false
namespace Go.Proofs.YtbcocdloklbkjaaGreatDoor
open Go.Ab
structure MkH (s:SchD) (b bf bs bp:Nat) (st:RSt) (o:Own) (H:zb):Prop where
 look:H b=some (.cells (zr s++[.int .i64 st.2.2,.mp bf,.mp bs,.mp bp]))
 frs:∃ es,H bf=some (.map (.one .s) es)∧Y7 es=cFr st.1
 sh:H bs=some (.map kPr [])
 pr:H bp=some (.map kPr [])
 ne:bs≠bp
 own:ya H o st.2.1.length 1
theorem MkH.keep {s:SchD} {b bf bs bp:Nat} {st:RSt} {o:Own} {H H':zb} (h:MkH s b bf bs bp st o H) (hk:∀ c x,H c=some x→H' c=some x):MkH s b bf bs bp st o H':=by
 obtain⟨es,h1,h2⟩:=h.frs
 exact⟨hk _ _ h.look,⟨es,hk _ _ h1,h2⟩,hk _ _ h.sh,hk _ _ h.pr,h.ne,zde h.own fun c k z hc=>hk _ _ hc⟩
theorem MkH.items {s:SchD} {b bf bs bp no' n:Nat} {st:RSt} {o o2:Own} {H H':zb} (h:MkH s b bf bs bp st o H) (hk:ItK H b (zr s) no' [.mp bf,.mp bs,.mp bp] H' o2 n):MkH s b bf bs bp (st.1,st.2.1,no') o H':=by
 obtain⟨es,h1,h2⟩:=h.frs
 have n1:bf≠b:=fun e=>by have:=h.look;rw[← e,h1] at this;cases this
 have n2:bs≠b:=fun e=>by have:=h.look;rw[← e,h.sh] at this;cases this
 have n3:bp≠b:=fun e=>by have:=h.look;rw[← e,h.pr] at this;cases this
 refine⟨hk.look,⟨es,hk.kept _ _ h1 n1,h2⟩,hk.kept _ _ h.sh n2,hk.kept _ _ h.pr n3,h.ne,zde h.own fun c k z hc=>hk.kept _ _ hc fun e=>?_⟩
 have:=h.look;rw[← e,hc] at this;cases this
theorem MkH.app {s:SchD} {b bf bs bp n2:Nat} {st:RSt} {o o2:Own} {ls:List (List ItD)} {H H':zb} (h:MkH s b bf bs bp st o H) (h':OwnS H o H' o2 n2 1) (hn:n2=ls.length):MkH s b bf bs bp (st.1,ls,st.2.2) o2 H':=by
 subst hn
 obtain⟨es,h1,h2⟩:=h.frs
 have hm:∀ c kt es,H c=some (.map kt es)→∀ d,o≠.tip c d:=fun c kt es hc d e=>by
  have:=h.own;subst e
  have h2:H c=some (.tip (d+st.2.1.length) 1):=this
  rw[hc] at h2;cases h2
 exact⟨h'.kept _ _ h.look (zeZ h.own h.look),⟨es,h'.kept _ _ h1 (hm _ _ _ h1),h2⟩,h'.kept _ _ h.sh (hm _ _ _ h.sh),h'.kept _ _ h.pr (hm _ _ _ h.pr),h.ne,h'.own⟩
theorem MkH.put {s:SchD} {b bf bs bp:Nat} {st:RSt} {o:Own} {H:zb} {es:List (AV×AV)} {n:List UInt8} {it:List ItD} {o2:Own} (h:MkH s b bf bs bp st o H) (h1:H bf=some (.map (.one .s) es)) (h2:Y7 es=cFr st.1) (hf:Zz st.1 n=none) :
  MkH s b bf bs bp (st.1++[(n,it)],st.2.1,st.2.2) o (H.upd bf (.map (.one .s) (zba es (.str n) (.sl o2 10 (yK it))))):=by
 have n1:b≠bf:=fun e=>by have:=h.look;rw[e,h1] at this;cases this
 have n2:bs≠bf:=fun e=>by have:=h.sh;rw[e,h1] at this;cases this
 have n3:bp≠bf:=fun e=>by have:=h.pr;rw[e,h1] at this;cases this
 refine⟨by simp only[zb.upd,n1,if_false];exact h.look,⟨_,upd_same ..,?_⟩,by simp only[zb.upd,n2,if_false];exact h.sh,by simp only[zb.upd,n3,if_false];exact h.pr,h.ne,zde h.own fun c k z hc=>?_⟩
 ·rw[zgs,h2]
  exact zme n it st.1 hf
 ·have:c≠bf:=fun e=>by subst e;rw[h1] at hc;cases hc
  simp only[zb.upd,this,if_false];exact hc
theorem MkH.low {s:SchD} {b bf bs bp:Nat} {st:RSt} {o:Own} {H:zb} (h:MkH s b bf bs bp st o H):∃ B,Low B H∧LkH s st.1 b bf bs bp st.2.2 ([],[]) B:=by
 obtain⟨es,h1,h2⟩:=h.frs
 have n1:b≠bf:=fun e=>by have:=h.look;rw[e,h1] at this;cases this
 have n2:bs≠bf:=fun e=>by have:=h.sh;rw[e,h1] at this;cases this
 have n3:bp≠bf:=fun e=>by have:=h.pr;rw[e,h1] at this;cases this
 refine⟨_,Low.map h1,⟨by simp only[zb.upd,n1,if_false];exact h.look,by rw[upd_same,h2],by simp only[zb.upd,n2,if_false];exact h.sh,by simp only[zb.upd,n3,if_false];exact h.pr,h.ne⟩⟩
theorem mgC (s:SchD) (d:DocD) (n:Int) (hs:zN s≤Lim) (hb:Zc d≤Lim) (hb1:zy d≤1073741824) (hl:zaK s d=true):zi Tryz.prog 23 [.agg (zr s),.agg (zX d),.int .i64 n] (.bool (zcc s d n)):=by
 have hloop:=zn1 d hb
 have hex:=zpx (s:=s) hl (by simp only[Lim];omega)
 have hls:=fun b bf bs bp no l h=>lsC s (zfr s d).1 b bf bs bp no hs 64 l (Al4 _) (hex l h)
 have hit:=fun b bf bs bp l typ no H (h1:no+bSs l≤1073741824) h2=>zsV s hs b (.mp bf) (.mp bs) (.mp bp) (bSs l) l typ no H (Al4 _) h1 h2
 have hroot:=fun o=>zoq s o
 have hbd:bOs d.ops+bFs d.frags=zy d:=rfl
 have l1:=Y2 d.frags
 have l2:=Z4 d.ops
 have m1:=yO d.frags
 have m2:=Zt d.ops
 have eN:zcc s d n=(decide (n=24)&&(!zdy d&&(zgR (lsF s (zfr s d).1 64) (zfr s d).2.1 ([],[])).1)):=rfl
 generalize zcc s d n=F at *
 generalize zdy d=lp at *
 have eA:zfr s d=d.ops.foldl (rOp s) (d.frags.foldl (rFr s) ([],[],0)):=rfl
 have hnoF:=zsg s
 have hnoO:=zr7 s
 have hcd:zX d=[.sl .no 5 (cOs d.ops),.sl .no 4 (cFs d.frags)]:=rfl
 have hcs:∃ x1 x2 x3,zr s=[x1,x2,x3]:=⟨_,_,_,rfl⟩
 have hfit:∀ s,KT.fits (.one .s) (.str s)=true:=fun _=>rfl
 obtain⟨sd,sq,sm⟩:=s
 generalize hS:(⟨sd,sq,sm⟩:SchD)=s at *
 have hcs:zr s=[.sl .no 6 (cEs sd),.str sq,.str sm]:=by rw[← hS];rfl
 simp only[hcd] at hloop ⊢
 simp only[hcs,Al6,zdC] at hit hroot ⊢
 have look:∀ {b bf bs bp st o H},MkH s b bf bs bp st o H→H b=some (.cells [.sl .no 6 (cEs sd),.str sq,.str sm,.int .i64 st.2.2,.mp bf,.mp bs,.mp bp]):=fun h=>by have:=h.look;rwa [hcs] at this
 refine zi.go ir23 ck23 (Al4 _) fun KP Q hQ=>?_
 by_cases hn:n=24
 case neg =>
  simp(disch:=omega) only[ir23,hn,go_sem]
  exact hQ _ _ _ _ nofun rfl (by simp[zd,ze,AV.strip,AV.strip1,eN,hn])
 have hn':=eq_true hn
 simp only[hn,decide_true,Bool.true_and] at eN
 simp(disch:=omega) only[ir23,hn',go_sem]
 refine za hloop ?_
 cases lp with
 | true =>
  simp(disch:=omega) only[go_sem]
  exact hQ _ _ _ _ nofun rfl (by simp[zd,ze,AV.strip,AV.strip1,eN])
 | false =>
 simp only[Bool.not_false,Bool.true_and] at eN
 simp(disch:=omega) only[go_sem]
 refine zc fun bf hbf=>?_
 simp(disch:=omega) only[go_sem]
 refine zc fun bs hbs=>?_
 simp(disch:=omega) only[go_sem]
 refine zc fun bp hbp=>?_
 simp(disch:=omega) only[go_sem]
 refine zc fun b hb=>?_
 have q1:bf≠bs:=fun e=>by subst e;simp[zb.upd] at hbs
 have q2:bf≠bp:=fun e=>by subst e;simp[zb.upd,q1] at hbp
 have q3:bs≠bp:=fun e=>by subst e;simp[zb.upd] at hbp
 have q4:bf≠b:=fun e=>by subst e;simp[zb.upd,q1,q2] at hb
 have q5:bs≠b:=fun e=>by subst e;simp[zb.upd,q3] at hb
 have q6:bp≠b:=fun e=>by subst e;simp[zb.upd] at hb
 have hM0:∀ H0:zb,H0 b=some (.cells [.sl .no 6 (cEs sd),.str sq,.str sm,.int .i64 0,.mp bf,.mp bs,.mp bp])→H0 bf=some (.map (.one .s) [])→H0 bs=some (.map kPr [])→H0 bp=some (.map kPr [])→MkH s b bf bs bp ([],[],0) .nil H0:=fun H0 g1 g2 g3 g4=>⟨by rw[hcs];exact g1,⟨[],g2,rfl⟩,g3,g4,q3,rfl⟩
 generalize hFR:d.frags.foldl (rFr s) ([],[],0)=FR at *
 generalize hRA:zfr s d=RA at *
 simp(disch:=omega) only[l1,q1,q2,q3,q4,q5,q6,Ne.symm q1,Ne.symm q2,Ne.symm q3,Ne.symm q4,Ne.symm q5,Ne.symm q6,go_sem]
 refine zf d.frags 32 (fun x:Own×RSt=>[(8,.sl x.1 1 (cIL x.2.2.1))]) (fun done rest x H'=>rest.foldl (rFr s) x.2=FR∧x.2.2.1.length≤done.length∧x.2.2.2≤bFs done∧MkH s b bf bs bp x.2 x.1 H') (.nil,([],[],0)) (by simp(disch:=omega) only[cIL,List.map,go_sem]) ⟨hFR,by simp,by simp,hM0 _ (by simp[zb.upd]) (by simp[zb.upd,q1,q2,q4]) (by simp[zb.upd,q3,q5]) (by simp[zb.upd,q6])⟩ ?_ ?_
 ·rintro⟨o1,fr,ls,no⟩ H1 J ⟨hn1,hle1,hle2,hM1⟩ hlt
  simp only[List.foldl] at hn1
  simp only at hle1 hle2
  subst hn1
  simp(disch:=omega) only[l1,hlt,l2,go_sem]
  refine zf d.ops 74 (fun x:Own×RSt=>[(8,.sl x.1 1 (cIL x.2.2.1))]) (fun done rest x H'=>rest.foldl (rOp s) x.2=RA∧x.2.2.1.length≤d.frags.length+done.length∧x.2.2.2≤bFs d.frags+bOs done∧MkH s b bf bs bp x.2 x.1 H') (o1,(fr,ls,no)) (by simp(disch:=omega) only[go_sem]) ⟨eA.symm,by simpa using hle1,by simp only;omega,hM1⟩ ?_ ?_
  ·rintro⟨o2,fr2,ls2,no2⟩ H2 J2 ⟨hn2,hle3,hle4,hM2⟩ hlt2
   simp only[List.foldl] at hn2
   simp only at hle3 hle4
   subst hn2
   obtain⟨B,hlow,hLk⟩:=hM2.low
   simp only at hLk eN hls
   have l3:=zix ls2
   generalize hR:zgR (lsF s fr2 64) ls2 ([],[])=R at *
   simp(disch:=omega) only[l2,hlt2,l3,go_sem]
   refine zf ls2 91 (fun _:yT=>[]) (fun done rest S' H'=>zgR (lsF s fr2 64) rest S'=R∧∃ B,Low B H'∧LkH s fr2 b bf bs bp no2 S' B) ([],[]) (by simp(disch:=omega) only[go_sem]) ⟨hR,B,hlow,hLk⟩ ?_ ?_
   ·rintro S3 H3 J3 ⟨hn3,_⟩ hlt3
    simp only[zgR] at hn3
    rw[← hn3] at eN
    simp(disch:=omega) only[l3,hlt3,go_sem]
    exact hQ _ _ _ _ nofun rfl (by simp[zd,ze,AV.strip,AV.strip1,eN])
   ·rintro done3 x3 rest3 S3 H3 J3 hd3 hlt3 _ ⟨hn3,B3,hlow3,hLk3⟩ hJ3
    have hg3:=zpu hd3
    have hcall:=zj.lowH hlow3 (hls b bf bs bp no2 x3 (by rw[hd3];simp) S3 B3 hLk3)
    simp only[zgR] at hn3
    generalize hG:lsF s fr2 64 x3 S3=G at *
    obtain⟨gr,gS⟩:=G
    simp(disch:=omega) only[l3,hlt3,hg3,go_sem]
    refine yH (XP:=fun _ _=>False) hcall (fun v H7 ⟨e7,hH7,hK7⟩=>?_) (fun _ _ h=>h.elim)
    subst e7
    cases gr with
    | true =>
     simp only at hn3
     simp(disch:=omega) only[go_sem]
     exact goJ (hJ3 gS H7 ⟨hn3,H7,Low.refl _,hH7⟩) (by simp(disch:=omega) only[wrap64,go_sem])
    | false =>
     simp only at hn3
     rw[← hn3] at eN
     simp(disch:=omega) only[go_sem]
     exact hQ _ _ _ _ nofun rfl (by simp[zd,ze,AV.strip,AV.strip1,eN])
  ·rintro done2 x2 rest2 ⟨o2,fr2,ls2,no2⟩ H2 J2 hd2 hlt2 _ ⟨hn2,hle3,hle4,hM2⟩ hJ2
   have hg2:=Ym hd2
   have hbm:=Y1 done2 x2 rest2
   rw[← hd2] at hbm
   have hb2:bOs (done2++[x2])=bOs done2+bO x2:=by simp[bOs]
   rw[List.foldl_cons] at hn2
   simp only at hle3 hle4
   have hrx:=hroot x2
   have hno2:=hnoO (fr2,ls2,no2) x2
   have erx:rOp s (fr2,ls2,no2) x2=(fr2,ls2++[(Zp s x2.sels (Yx s x2) no2).1],(Zp s x2.sels (Yx s x2) no2).2):=rfl
   rw[erx] at hn2 hno2
   simp only at hno2
   obtain⟨k,nm,vs,ds,ss⟩:=x2
   simp only[bO] at hbm hb2 hno2
   generalize Yx s ⟨k,nm,vs,ds,ss⟩=rt at *
   rw[Y3] at hg2 hrx
   have lo2:=look hM2
   have l3:=zix ls2
   simp only at lo2
   have hol:=Zt done2
   simp(disch:=omega) only[l2,hlt2,hg2,go_sem]
   refine zc fun b14 hb14=>?_
   have w1:b≠b14:=fun e=>by subst e;rw[lo2] at hb14;cases hb14
   have hM3:=hM2.keep (ZA (x:=.cells [.int .i64 k,.str nm,.sl .no 10 (cWs vs),.sl .no 2 (cDs ds),.sl .no 7 (cSs ss)]) hb14)
   have hI:=hit b bf bs bp ss rt no2 _ (by omega) (look hM3)
   generalize hIT:Zp s ss rt no2=IT at *
   simp(disch:=omega) only[w1,Ne.symm w1,go_sem]
   refine za hrx ?_
   simp(disch:=omega) only[w1,Ne.symm w1,go_sem]
   refine yH (XP:=fun _ _=>False) hI (fun v H4 ⟨o4,e4,hk4⟩=>?_) (fun _ _ h=>h.elim)
   subst e4
   have hM4:=hM3.items (by rw[hcs];exact hk4)
   simp only at hM4
   simp(disch:=omega) only[go_sem]
   refine zw (by rw[l3];exact hM4.own) ?_ ?_ fun o' H5 hs5=>?_
   ·simp only[l3,Al2,Al3];omega
   ·simp only[l3,Al2,Al3,maxLen];omega
   simp only[l3,Al2,Al3,Nat.zero_add] at hs5
   have e1:cIL ls2++[[AV.sl .no 10 (yK IT.1)]]=cIL (ls2++[IT.1]):=by simp[cIL]
   have hM5:=hM4.app (ls:=ls2++[IT.1]) hs5 (by simp)
   simp(disch:=omega) only[wrap64,e1,go_sem]
   exact goJ (hJ2 (o',(fr2,ls2++[IT.1],IT.2)) H5 ⟨hn2,by simp;omega,by simp only;omega,hM5⟩) (by simp(disch:=omega) only[wrap64,go_sem])
 ·rintro done x rest ⟨o1,fr,ls,no⟩ H1 J hd hlt _ ⟨hn1,hle1,hle2,hM1⟩ hJ
  have hg:=YX hd
  have hbm:=zie done x rest
  rw[← hd] at hbm
  have hb2:bFs (done++[x])=bFs done+bF x:=by simp[bFs]
  rw[List.foldl_cons] at hn1
  simp only at hle1 hle2
  have hno2:=hnoF (fr,ls,no) x
  obtain⟨es,hes1,hes2⟩:=hM1.frs
  simp only at hes2
  have hmg:(zaC es (.str x.nm)).map AV.strip1=(Zz fr x.nm).map fun e=>.sl .no 10 (yK e.2):=by rw[← zgG,hes2,zi3]
  have hgs:=fun v=>zi9 x.nm v es
  have erx:rFr s (fr,ls,no) x=match Zz fr x.nm with
   | some _=>(fr,ls,no)
   | none=>(fr++[(x.nm,(Zp s x.sels x.on no).1)],ls++[(Zp s x.sels x.on no).1],(Zp s x.sels x.on no).2):=rfl
  obtain⟨nm,on,ds,ss⟩:=x
  simp only at hmg erx hgs
  simp only[bF] at hbm hb2 hno2
  rw[Ya] at hg
  have lo1:=look hM1
  have l3:=zix ls
  simp only at lo1
  have hol:=yO done
  simp(disch:=omega) only[l1,hlt,hg,go_sem]
  refine zc fun b10 hb10=>?_
  have w1:b≠b10:=fun e=>by subst e;rw[lo1] at hb10;cases hb10
  have w2:bf≠b10:=fun e=>by subst e;rw[hes1] at hb10;cases hb10
  have hM3:=hM1.keep (ZA (x:=.cells [.str nm,.str on,.sl .no 2 (cDs ds),.sl .no 7 (cSs ss)]) hb10)
  cases hme:zaC es (.str nm) with
  | some w =>
   rw[hme] at hmg
   cases hff:Zz fr nm with
   | none=>rw[hff] at hmg;simp at hmg
   | some e =>
    rw[hff] at erx
    rw[erx] at hn1 hno2
    simp only at hno2
    simp(disch:=omega) only[w1,Ne.symm w1,w2,Ne.symm w2,lo1,hes1,hme,hfit,Yu,Option.getD_some,Option.isSome_some,go_sem]
    exact goJ (hJ (o1,(fr,ls,no)) _ ⟨hn1,by simp;omega,by simp only;omega,hM3⟩) (by simp(disch:=omega) only[wrap64,go_sem])
  | none =>
   rw[hme] at hmg
   cases hff:Zz fr nm with
   | some e=>rw[hff] at hmg;simp at hmg
   | none =>
    rw[hff] at erx
    rw[erx] at hn1 hno2
    simp only at hno2
    have hI:=hit b bf bs bp ss on no _ (by omega) (look hM3)
    generalize hIT:Zp s ss on no=IT at *
    simp(disch:=omega) only[w1,Ne.symm w1,w2,Ne.symm w2,lo1,hes1,hme,hfit,Yu,Option.getD_none,Option.isSome_none,go_sem]
    refine yH (XP:=fun _ _=>False) hI (fun v H4 ⟨o4,e4,hk4⟩=>?_) (fun _ _ h=>h.elim)
    subst e4
    have hM4:=hM3.items (by rw[hcs];exact hk4)
    simp only at hM4
    have c10:H4 b10=some (.cells [.str nm,.str on,.sl .no 2 (cDs ds),.sl .no 7 (cSs ss)]):=hk4.kept b10 _ (upd_same ..) (Ne.symm w1)
    have hbf4:H4 bf=some (.map (.one .s) es):=hk4.kept bf _ (by simp only[zb.upd,w2,if_false];exact hes1) (fun e=>by rw[e,lo1] at hes1;cases hes1)
    have lo4:=look hM4
    simp only at lo4
    have nfb:bf≠b:=fun e=>by rw[e,lo1] at hes1;cases hes1
    have hM5:=hM4.put (n:=nm) (it:=IT.1) (o2:=o4) hbf4 hes2 hff
    have lo5:=look hM5
    simp only at hM5 lo5
    have hg5:=hgs (.sl o4 10 (yK IT.1))
    simp(disch:=omega) only[c10,hbf4,lo4,nfb,Ne.symm nfb,w1,Ne.symm w1,w2,Ne.symm w2,hfit,hg5,Yu,Option.getD_some,go_sem]
    refine zw (by rw[l3];exact hM5.own) ?_ ?_ fun o' H6 hs6=>?_
    ·simp only[l3,Al2,Al3];omega
    ·simp only[l3,Al2,Al3,maxLen];omega
    simp only[l3,Al2,Al3,Nat.zero_add] at hs6
    have e1:cIL ls++[[AV.sl .no 10 (yK IT.1)]]=cIL (ls++[IT.1]):=by simp[cIL]
    have hM6:=hM5.app (ls:=ls++[IT.1]) hs6 (by simp)
    simp(disch:=omega) only[wrap64,e1,go_sem]
    exact goJ (hJ (o',(fr++[(nm,IT.1)],ls++[IT.1],IT.2)) H6 ⟨hn1,by simp;omega,by simp only;omega,hM6⟩) (by simp(disch:=omega) only[wrap64,go_sem])
noncomputable def ZO (s:SchD) (d:DocD) (n:Int):Bool :=
 if n<9 then zbQ s d n else if n<12 then zcS s d n else if n<15 then zcI s d n else if n<18 then zcM s d n
 else if n<22 then zgw s d n else if n<24 then zdY s d n else zcc s d n
structure ValH (s:SchD) (d:DocD):Prop where
 sw:zcr s
 dw:zf2 d
 sb:zN s≤1048576
 db:zy d≤1048575
 lt:zaK s d=true
theorem zp7 (s:SchD) (d:DocD) (n:Int) (h:ValH s d):zi Tryz.prog 8 [.agg (zr s),.agg (zX d),.int .i64 n] (.bool (ZO s d n)):=by
 have hsb:=h.sb
 have hdb:=h.db
 have hs1:zN s≤Lim:=by simp only[Lim];omega
 have hs2:zN s+1≤Lim:=by simp only[Lim];omega
 have hd1:zy d≤Lim:=by simp only[Lim];omega
 have hr:Zc d≤Lim:=by simp only[Zc,Lim];omega
 have hb2:zy d*zy d+zy d≤1099511627776:=by
  have:zy d*zy d≤1048575*1048575:=Nat.mul_le_mul hdb hdb
  omega
 have r1:=zs2 s d n hs1 hr hb2
 have r2:=znW s d n hs2 hd1
 have r3:=zoF s d n hs1 hd1
 have r4:=zol s d n hs1 hd1
 have r5:=zr0 s d n hs1 hr hb2
 have r6:=zpR s d n hs1 hr hb2
 have r7:=mgC s d n hs1 hr (by omega) h.lt
 have e0:ZO s d n=if n<9 then zbQ s d n else if n<12 then zcS s d n else if n<15 then zcI s d n else if n<18 then zcM s d n
  else if n<22 then zgw s d n else if n<24 then zdY s d n else zcc s d n:=rfl
 generalize ZO s d n=F at *
 generalize zbQ s d n=x1 at *
 generalize zcS s d n=x2 at *
 generalize zcI s d n=x3 at *
 generalize zcM s d n=x4 at *
 generalize zgw s d n=x5 at *
 generalize zdY s d n=x6 at *
 generalize zcc s d n=x7 at *
 have hcd:zX d=[.sl .no 5 (cOs d.ops),.sl .no 4 (cFs d.frags)]:=rfl
 have hcs:zr s=[.sl .no 6 (cEs s.defs),.str s.q,.str s.m]:=rfl
 simp only[hcs,hcd] at r1 r2 r3 r4 r5 r6 r7 ⊢
 refine zi.go ir8 ck8 (Al4 _) fun KP Q hQ=>?_
 by_cases h1:n<9
 ·rw[if_pos h1] at e0
  have h1':=eq_true h1
  simp(disch:=omega) only[ir8,h1',go_sem]
  refine za r1 ?_
  simp(disch:=omega) only[go_sem]
  exact hQ _ _ _ _ nofun rfl (by simp[zd,ze,AV.strip,AV.strip1,e0])
 rw[if_neg h1] at e0
 by_cases h2:n<12
 ·rw[if_pos h2] at e0
  have h2':=eq_true h2
  simp(disch:=omega) only[ir8,h1,h2',go_sem]
  refine za r2 ?_
  simp(disch:=omega) only[go_sem]
  exact hQ _ _ _ _ nofun rfl (by simp[zd,ze,AV.strip,AV.strip1,e0])
 rw[if_neg h2] at e0
 by_cases h3:n<15
 ·rw[if_pos h3] at e0
  have h3':=eq_true h3
  simp(disch:=omega) only[ir8,h1,h2,h3',go_sem]
  refine za r3 ?_
  simp(disch:=omega) only[go_sem]
  exact hQ _ _ _ _ nofun rfl (by simp[zd,ze,AV.strip,AV.strip1,e0])
 rw[if_neg h3] at e0
 by_cases h4:n<18
 ·rw[if_pos h4] at e0
  have h4':=eq_true h4
  simp(disch:=omega) only[ir8,h1,h2,h3,h4',go_sem]
  refine za r4 ?_
  simp(disch:=omega) only[go_sem]
  exact hQ _ _ _ _ nofun rfl (by simp[zd,ze,AV.strip,AV.strip1,e0])
 rw[if_neg h4] at e0
 by_cases h5:n<22
 ·rw[if_pos h5] at e0
  have h5':=eq_true h5
  simp(disch:=omega) only[ir8,h1,h2,h3,h4,h5',go_sem]
  refine za r5 ?_
  simp(disch:=omega) only[go_sem]
  exact hQ _ _ _ _ nofun rfl (by simp[zd,ze,AV.strip,AV.strip1,e0])
 rw[if_neg h5] at e0
 by_cases h6:n<24
 ·rw[if_pos h6] at e0
  have h6':=eq_true h6
  simp(disch:=omega) only[ir8,h1,h2,h3,h4,h5,h6',go_sem]
  refine za r6 ?_
  simp(disch:=omega) only[go_sem]
  exact hQ _ _ _ _ nofun rfl (by simp[zd,ze,AV.strip,AV.strip1,e0])
 rw[if_neg h6] at e0
 simp(disch:=omega) only[ir8,h1,h2,h3,h4,h5,h6,go_sem]
 refine za r7 ?_
 simp(disch:=omega) only[go_sem]
 exact hQ _ _ _ _ nofun rfl (by simp[zd,ze,AV.strip,AV.strip1,e0])
noncomputable def zdG (s:SchD) (d:DocD):Nat→Int→Int
 | 0,_=>0
 | k+1,n=>if ZO s d n=true then zdG s d k (n+1) else n
noncomputable def zaf (s:SchD) (d:DocD):Int:=if zec s 9 1≠0∨zax d=false then 25 else zdG s d 24 1
theorem ziL (s:SchD) (d:DocD) (h:ValH s d):zi Tryz.prog 9 [.agg (zr s),.agg (zX d)] (.int .i64 (zaf s d)):=by
 have hsb:=h.sb
 have hdb:=h.db
 have hR:=fun n=>zp7 s d n h
 have hs:=zq1 s h.sw (by simp only[Lim];omega)
 have hd:=zqs d h.dw (by simp only[Lim];omega)
 have e0:zaf s d=if zec s 9 1≠0∨zax d=false then 25 else zdG s d 24 1:=rfl
 have eC:∀ k n,zdG s d (k+1) n=if ZO s d n=true then zdG s d k (n+1) else n:=fun _ _=>rfl
 have eC0:∀ n,zdG s d 0 n=0:=fun _=>rfl
 generalize zaf s d=F at *
 generalize zdG s d=C at *
 generalize ZO s d=V at *
 generalize zec s 9 1=x1 at *
 generalize zax d=x2 at *
 have hcd:zX d=[.sl .no 5 (cOs d.ops),.sl .no 4 (cFs d.frags)]:=rfl
 have hcs:zr s=[.sl .no 6 (cEs s.defs),.str s.q,.str s.m]:=rfl
 simp only[hcs,hcd] at hR hs hd ⊢
 refine zi.go ir9 ck9 (Al4 _) fun KP Q hQ=>?_
 simp(disch:=omega) only[ir9,go_sem]
 refine za hs ?_
 by_cases hx:x1=0
 case neg =>
  rw[if_pos (.inl hx)] at e0
  simp(disch:=omega) only[hx,go_sem]
  exact hQ _ _ _ _ nofun rfl (by simp[zd,ze,AV.strip,AV.strip1,e0])
 have hx':=eq_true hx
 simp(disch:=omega) only[hx',go_sem]
 refine za hd ?_
 cases x2 with
 | false =>
  rw[if_pos (.inr rfl)] at e0
  simp(disch:=omega) only[go_sem]
  exact hQ _ _ _ _ nofun rfl (by simp[zd,ze,AV.strip,AV.strip1,e0])
 | true =>
 rw[if_neg (by simp[hx])] at e0
 simp(disch:=omega) only[go_sem]
 refine zbp (fun x:Nat×Int=>[(5,.int .i64 0),(6,.int .i64 x.2)]) (fun x _=>(x.1:Int)+x.2=25∧x.1≤24∧C x.1 x.2=F) (fun x=>x.1) (24,1) (by simp(disch:=omega) only[go_sem]) ⟨by omega,by omega,e0.symm⟩ ?_
 rintro⟨k,n⟩ H J ⟨hk,hn9,hn⟩ hJ
 simp only at hk hn9 hn
 cases k with
 | zero =>
  rw[eC0] at hn
  subst hn
  have hle:¬ (n≤24):=by omega
  simp(disch:=omega) only[hle,go_sem]
  exact hQ _ _ _ _ nofun rfl (by simp[zd,ze,AV.strip,AV.strip1])
 | succ k =>
  rw[eC] at hn
  have hr:=hR n
  have hle:(n≤24)=True:=eq_true (by omega)
  generalize hx:V n=x at *
  simp(disch:=omega) only[hle,go_sem]
  refine za hr ?_
  cases x with
  | true =>
   rw[if_pos rfl] at hn
   simp(disch:=omega) only[wrap64,go_sem]
   exact goJ (hJ (k,n+1) _ (by simp only;omega) ⟨by simp only;omega,by simp only;omega,hn⟩) (by simp(disch:=omega) only[wrap64,go_sem])
  | false =>
   rw[if_neg (by simp)] at hn
   subst hn
   simp(disch:=omega) only[go_sem]
   exact hQ _ _ _ _ nofun rfl (by simp[zd,ze,AV.strip,AV.strip1])
theorem zp0 (d:DocD) (n:List UInt8) (hl:d.frags.length≤Lim):zi Tryz.prog 36 [.agg (zX d),.str n] (.tup [.agg (cF ((yD d n).getD zFr)),.bool (yD d n).isSome]):=by
 have l1:=Y2 d.frags
 simp only[Lim] at hl
 have hF:∀ done rest,d.frags=done++rest→(∀ f∈done,f.nm≠n)→yD d n=rest.find? (zct n):=fun done rest e h=>by
  rw[yD,e,List.find?_append,List.find?_eq_none.2 (fun f hf=>by simp[zct,h f hf])]
  rfl
 have hcd:zX d=[.sl .no 5 (cOs d.ops),.sl .no 4 (cFs d.frags)]:=rfl
 rw[hcd]
 generalize yD d n=F at *
 refine zi.go ir36 ck36 (Al4 _) fun KP Q hQ=>?_
 simp(disch:=omega) only[ir36,go_sem]
 refine zc fun b4 hb4=>?_
 simp(disch:=omega) only[l1,go_sem]
 refine zf d.frags 6 (fun _:Unit=>[]) (fun done rest _ H'=>(∀ f∈done,f.nm≠n)∧H' b4=some (.cells [.str [],.str [],.sl .nil 2 [],.sl .nil 7 []])) () (by simp(disch:=omega) only[go_sem]) ⟨by simp,upd_same ..⟩ ?_ ?_
 ·rintro _ H1 J ⟨hn,c4⟩ hlt
  have e:=hF d.frags [] (by simp) hn
  simp only[List.find?_nil] at e
  simp(disch:=omega) only[l1,hlt,c4,go_sem]
  refine hQ _ _ _ [.agg [.str [],.str [],.sl .nil 2 [],.sl .nil 7 []],.bool false] nofun (by simp(disch:=omega) only[ir36,zQ,Zv,go_sem]) (by rw[e];rfl)
 ·rintro done x rest _ H1 J hd hlt _ ⟨hn,c4⟩ hJ
  have hg:=YX hd
  have e:=hF done (x::rest) hd hn
  obtain⟨fn,fo,fd,fs⟩:=x
  rw[Ya] at hg
  by_cases hx:fn=n
  ·have hx':=eq_true hx
   have e2:F=some ⟨fn,fo,fd,fs⟩:=by rw[e];simp[zct,hx]
   simp(disch:=omega) only[l1,hlt,hg,hx',c4,go_sem]
   refine hQ _ _ _ [.agg [.str fn,.str fo,.sl .no 2 (cDs fd),.sl .no 7 (cSs fs)],.bool true] nofun (by simp(disch:=omega) only[ir36,zQ,Zv,go_sem]) (by rw[e2];rfl)
  ·simp(disch:=omega) only[l1,hlt,hg,hx,c4,go_sem]
   exact goJ (hJ () _ ⟨fun f hf=>by
    rcases List.mem_append.1 hf with h|h
    ·exact hn f h
    ·simp only[List.mem_singleton] at h;subst h;exact hx,c4⟩) (by simp(disch:=omega) only[wrap64,go_sem])
mutual
theorem zq4 {d:DocD} {g:Nat→List SelD→Nat} {Z:Nat} (hg:∀ m n,g m (frS d n)≤m+Z):∀(x:SelD) (r:Nat),zgo d g x r≤r+bS x+Z
 | .mk k al nm args dirs on sels,r=>by
  have h1:=zgK hg sels r 0
  simp only[zgo,bS]
  split
  ·rename_i hc
   have h2:=hg (r-(1+Zo d g sels r 0)) nm
   omega
  ·omega
theorem zgK {d:DocD} {g:Nat→List SelD→Nat} {Z:Nat} (hg:∀ m n,g m (frS d n)≤m+Z):∀(l:List SelD) (most n:Nat),Zo d g l most n≤n∨Zo d g l most n≤most+bSs l+Z
 | [],most,n=>.inl (by simp[Zo])
 | x::xs,most,n=>by
  simp only[Zo,bSs]
  split
  ·have h1:=zq4 hg x (most-n)
   rcases zgK hg xs most (n+zgo d g x (most-n)) with h|h
   ·right;omega
   ·right;omega
  ·left;omega
end
theorem zkw {d:DocD} {D:Nat} (hD:∀ n,bSs (frS d n)≤D):∀(k m:Nat) (l:List SelD),few d k m l≤m+bSs l+1+k*D
 | 0,m,l=>by simp only[few];omega
 | k+1,m,l=>by
  have h:=zgK (d:=d) (g:=few d k) (Z:=1+D+k*D) (fun m n=>by
   have h1:=zkw hD k m (frS d n)
   have h2:=hD n
   omega) l m 0
  simp only[few,Nat.add_mul,Nat.one_mul]
  omega
theorem zrE (d:DocD) (n:List UInt8):bSs (frS d n)≤zy d:=by
 cases hf:yD d n with
 | none=>simp[frS,hf,zFr,bSs]
 | some f =>
  have hm:f∈d.frags:=List.mem_of_find?_eq_some hf
  have h1:=zag f
  have h2:=zbw hm
  simp only[frS,hf,Option.getD_some,zy]
  omega
theorem zuE (d:DocD) (hdb:zy d≤1048575):∀(k c:Nat) (l:List SelD) (most:Nat),bSs l≤c→c≤1048575→most<k→k≤41→zi Tryz.prog 15 [.agg (zX d),.sl .no 7 (cSs l),.int .i64 most] (.int .i64 (few d k most l)):=by
 have hfl:=yO d.frags
 have h0:bFs d.frags≤zy d:=by simp only[zy];omega
 have hfr:=fun n=>zp0 d n (by simp only[Lim];omega)
 have hD:=zrE d
 have hcd:zX d=[.sl .no 5 (cOs d.ops),.sl .no 4 (cFs d.frags)]:=rfl
 intro k
 induction k with
 | zero=>intro c l most h1 h2 h3;omega
 | succ k ihk =>
 intro c
 induction c using Nat.strongRecOn with
 | _ c ihc =>
 intro l most hb hc hm hk
 have hg:∀ nm m,m<k→zi Tryz.prog 15 [.agg (zX d),.sl .no 7 (cSs (frS d nm)),.int .i64 m] (.int .i64 (few d k m (frS d nm))):=fun nm m hm=>ihk (zy d) (frS d nm) m (hD nm) hdb hm (by omega)
 have hs:∀ sels,bSs sels<c→∀ m,m<k+1→zi Tryz.prog 15 [.agg (zX d),.sl .no 7 (cSs sels),.int .i64 m] (.int .i64 (Zo d (few d k) sels m 0)):=fun sels h m hm=>ihc (bSs sels) h sels m (Al4 _) (by omega) hm hk
 have hup:=zkw hD (k+1) most l
 have hge:=zgz d (few d k)
 have e0:few d (k+1) most l=Zo d (few d k) l most 0:=rfl
 have eC:∀ x xs n,Zo d (few d k) (x::xs) most n=if n≤most then Zo d (few d k) xs most (n+zgo d (few d k) x (most-n)) else n:=fun x xs n=>by simp only[Zo]
 have eN:∀ n,Zo d (few d k) [] most n=n:=fun n=>by simp only[Zo]
 have eX:∀ kk al nm args dirs on sels r,zgo d (few d k) (.mk kk al nm args dirs on sels) r=if kk=1∧1+Zo d (few d k) sels r 0≤r then 1+Zo d (few d k) sels r 0+few d k (r-(1+Zo d (few d k) sels r 0)) (frS d nm) else 1+Zo d (few d k) sels r 0:=fun kk al nm args dirs on sels r=>by simp only[zgo]
 have hmul:(k+1)*zy d≤41*1048575:=Nat.mul_le_mul hk hdb
 have l1:=YJ l
 have hll:=YA l
 generalize hF:few d (k+1) most l=F at *
 generalize hgk:few d k=gk at *
 simp only[hcd] at hfr hs hg ⊢
 refine zi.go ir15 ck15 (Al4 _) fun KP Q hQ=>?_
 simp(disch:=omega) only[ir15,go_sem]
 refine zf l 8 (fun n:Nat=>[(7,.int .i64 n)]) (fun done rest n _=>Zo d gk rest most n=F) 0 (by simp(disch:=omega) only[go_sem]) e0.symm ?_ ?_
 ·rintro n H J hn hlt
  rw[eN] at hn
  subst hn
  simp(disch:=omega) only[l1,hlt,go_sem]
  exact hQ _ _ _ _ nofun rfl (by simp[zd,ze,AV.strip,AV.strip1])
 ·rintro done x rest n H J hd hlt _ hn hJ
  have hg2:=zab hd
  have hbm:=zbf done x rest
  rw[← hd] at hbm
  rw[eC] at hn
  obtain⟨kk,al,nm,args,dirs,on,sels⟩:=x
  rw[eX] at hn
  simp only[bS] at hbm
  rw[y6] at hg2
  by_cases hnm:n≤most
  case neg =>
   rw[if_neg hnm] at hn
   subst hn
   have hnm':¬ ((n:Int)≤most):=by omega
   simp(disch:=omega) only[l1,hlt,hnm',go_sem]
   exact hQ _ _ _ _ nofun rfl (by simp[zd,ze,AV.strip,AV.strip1])
  rw[if_pos hnm] at hn
  have hnm':((n:Int)≤most)=True:=eq_true (by omega)
  have hin:=hs sels (by omega) (most-n) (by omega)
  have ecast:((most-n:Nat):Int)=most-n:=by omega
  rw[ecast] at hin
  generalize hA:Zo d gk sels (most-n) 0=A at *
  by_cases hc1:kk=1∧1+A≤most-n
  ·rw[if_pos hc1] at hn
   have hge2:=hge rest most (n+(1+A+gk (most-n-(1+A)) (frS d nm)))
   rw[hn] at hge2
   have hk1:=eq_true hc1.1
   have hle2:((n:Int)+1+A≤most)=True:=eq_true (by omega)
   have hfx:=hfr nm
   have hfn:=hg nm (most-n-(1+A)) (by omega)
   have ecast2:((most-n-(1+A):Nat):Int)=most-(n+1+A):=by omega
   rw[ecast2] at hfn
   generalize hG:gk (most-n-(1+A)) (frS d nm)=G at *
   have efs:frS d nm=((yD d nm).getD zFr).sels:=rfl
   rw[efs] at hfn
   generalize (yD d nm).isSome=fs at *
   generalize (yD d nm).getD zFr=f at *
   obtain⟨fn,fo,fd,fss⟩:=f
   rw[Ya] at hfx
   simp only at hfn
   simp(disch:=omega) only[l1,hlt,hnm',hg2,wrap64,go_sem]
   refine za hin ?_
   simp(disch:=omega) only[l1,hlt,hnm',hg2,wrap64,hk1,hle2,go_sem]
   refine za hfx ?_
   simp(disch:=omega) only[go_sem]
   refine zc fun b9 hb9=>?_
   simp(disch:=omega) only[wrap64,go_sem]
   refine za hfn ?_
   simp(disch:=omega) only[wrap64,go_sem]
   have ec:((n+(1+A+G):Nat):Int)=n+1+A+G:=by omega
   exact goJ (hJ (n+(1+A+G)) _ hn) (by simp(disch:=omega) only[wrap64,ec,go_sem])
  ·rw[if_neg hc1] at hn
   have hge2:=hge rest most (n+(1+A))
   rw[hn] at hge2
   by_cases hk1:kk=1
   ·have hk1':=eq_true hk1
    have hle2:¬ ((n:Int)+1+A≤most):=fun h=>hc1 ⟨hk1,by omega⟩
    simp(disch:=omega) only[l1,hlt,hnm',hg2,wrap64,go_sem]
    refine za hin ?_
    simp(disch:=omega) only[l1,hlt,hnm',hg2,wrap64,hk1',hle2,go_sem]
    have ec:((n+(1+A):Nat):Int)=n+1+A:=by omega
    exact goJ (hJ (n+(1+A)) _ hn) (by simp(disch:=omega) only[wrap64,ec,go_sem])
   ·simp(disch:=omega) only[l1,hlt,hnm',hg2,wrap64,go_sem]
    refine za hin ?_
    simp(disch:=omega) only[l1,hlt,hnm',hg2,wrap64,hk1,go_sem]
    have ec:((n+(1+A):Nat):Int)=n+1+A:=by omega
    exact goJ (hJ (n+(1+A)) _ hn) (by simp(disch:=omega) only[wrap64,ec,go_sem])
theorem zeX (d:DocD) {Z:Nat}:∀(l:List (List SelD)) (n:Nat),(∀ x∈l,few d 41 40 x≤Z)→ZP d l n≤n∨ZP d l n≤40+Z
 | [],n,_=>.inl (Al4 _)
 | x::r,n,h=>by
  simp only[ZP]
  split
  ·have h1:=h x (Yz ..)
   rcases zeX d r (n+few d 41 40 x) (fun y hy=>h y (zap _ hy)) with h2|h2
   ·right;omega
   ·exact .inr h2
  ·exact .inl (Al4 _)
theorem znH (s:SchD) (d:DocD) (hsb:zN s≤1048576) (hdb:zy d≤1048575):zi Tryz.prog 6 [.agg (zr s),.agg (zX d)] (.bool (zaK s d)):=by
 have r1:=zqo s (by simp only[Lim];omega)
 have r2:=zsO d (by simp only[Lim];omega)
 have hbl:=@zhc d
 have hmo:∀ o∈d.ops,o.sels∈Zb d:=fun o ho=>by simp only[Zb,List.mem_append,List.mem_map];exact .inl ⟨o,ho,rfl⟩
 have hmf:∀ f∈d.frags,f.sels∈Zb d:=fun f hf=>by simp only[Zb,List.mem_append,List.mem_map];exact .inr ⟨f,hf,rfl⟩
 have hfew:=fun x (h:x∈Zb d)=>zuE d hdb 41 (zy d) x 40 (hbl h) hdb (by omega) (Al4 _)
 have hup:=fun x (h:x∈Zb d)=>(by
  have:=zkw (zrE d) 41 40 x
  have:=hbl h
  omega:few d 41 40 x≤50000000)
 have hol:=Zt d.ops
 have hfl:=yO d.frags
 have h0:bOs d.ops+bFs d.frags=zy d:=rfl
 have l1:=Z4 d.ops
 have l2:=Y2 d.frags
 have u1:=zeX d (d.ops.map (·.sels)) 0 (Z:=50000000) (fun x hx=>hup x (by obtain⟨o,ho,rfl⟩:=List.mem_map.1 hx;exact hmo o ho))
 have u2:=zeX d (d.frags.map (·.sels)) (ZP d (d.ops.map (·.sels)) 0) (Z:=50000000) (fun x hx=>hup x (by obtain⟨o,ho,rfl⟩:=List.mem_map.1 hx;exact hmf o ho))
 have hge:=zdd d
 have e0:zaK s d=(zeU s&&ze2 d&&decide (ZP d (d.frags.map (·.sels)) (ZP d (d.ops.map (·.sels)) 0)≤40)):=rfl
 have eC:∀ x r n,ZP d (x::r) n=if n≤40 then ZP d r (n+few d 41 40 x) else n:=fun _ _ _=>rfl
 have eN:∀ n,ZP d [] n=n:=fun _=>rfl
 have eX:∀(l:List (List SelD)) n,¬ n≤40→ZP d l n=n:=fun l n h=>by cases l with|nil=>rfl|cons x r=>rw[eC,if_neg h]
 generalize zaK s d=F at *
 generalize zeU s=x1 at *
 generalize ze2 d=x2 at *
 have hcd:zX d=[.sl .no 5 (cOs d.ops),.sl .no 4 (cFs d.frags)]:=rfl
 have hcs:zr s=[.sl .no 6 (cEs s.defs),.str s.q,.str s.m]:=rfl
 simp only[hcs,hcd] at r1 r2 hfew ⊢
 generalize hA:ZP d=A at *
 refine zi.go ir6 ck6 (Al4 _) fun KP Q hQ=>?_
 simp(disch:=omega) only[ir6,go_sem]
 refine za r1 ?_
 cases x1 with
 | false =>
  simp(disch:=omega) only[go_sem]
  exact hQ _ _ _ _ nofun rfl (by simp[zd,ze,AV.strip,AV.strip1,e0])
 | true =>
 simp(disch:=omega) only[go_sem]
 refine za r2 ?_
 cases x2 with
 | false =>
  simp(disch:=omega) only[go_sem]
  exact hQ _ _ _ _ nofun rfl (by simp[zd,ze,AV.strip,AV.strip1,e0])
 | true =>
 simp only[Bool.true_and] at e0
 generalize hT:A (d.frags.map (·.sels)) (A (d.ops.map (·.sels)) 0)=T at *
 have second:True:=trivial
 simp(disch:=omega) only[go_sem]
 refine zf d.ops 6 (fun n:Nat=>[(5,.int .i64 n)]) (fun done rest n _=>A (rest.map (·.sels)) n=A (d.ops.map (·.sels)) 0) 0 (by simp(disch:=omega) only[go_sem]) rfl ?_ ?_
 ·rintro n H J hn hlt
  simp only[List.map_nil] at hn
  rw[eN] at hn
  rw[← hn] at hT u1
  simp(disch:=omega) only[l1,hlt,go_sem]
  refine zf d.frags 7 (fun n:Nat=>[(5,.int .i64 n)]) (fun done rest n _=>A (rest.map (·.sels)) n=T) n (by simp(disch:=omega) only[go_sem]) hT ?_ ?_
  ·rintro n2 H2 J2 hn2 hlt2
   simp only[List.map_nil] at hn2
   rw[eN] at hn2
   subst hn2
   have ed:decide ((n2:Int)≤40)=decide (n2≤40):=decide_eq_decide.2 (by omega)
   simp(disch:=omega) only[l2,hlt2,go_sem]
   exact hQ _ _ _ _ nofun rfl (by simp[zd,ze,AV.strip,AV.strip1,e0,ed])
  ·rintro done x rest n2 H2 J2 hd hlt2 _ hn2 hJ2
   have hg:=YX hd
   have hxm:=hmf x (by rw[hd];simp)
   have hfx:=hfew x.sels hxm
   have hux:=hup x.sels hxm
   rw[List.map_cons,eC] at hn2
   obtain⟨fn,fo,fd,fs⟩:=x
   rw[Ya] at hg
   simp only at hfx hux hn2
   by_cases h4:n2≤40
   case neg =>
    rw[if_neg h4] at hn2
    subst hn2
    have ed:decide ((n2:Int)≤40)=decide (n2≤40):=decide_eq_decide.2 (by omega)
    have h4':¬ ((n2:Int)≤40):=by omega
    simp(disch:=omega) only[l2,hlt2,h4',go_sem]
    exact hQ _ _ _ _ nofun rfl (by simp[zd,ze,AV.strip,AV.strip1,e0,h4])
   rw[if_pos h4] at hn2
   have h4':((n2:Int)≤40)=True:=eq_true (by omega)
   generalize few d 41 40 fs=w at *
   have ec:((n2+w:Nat):Int)=n2+w:=by omega
   simp(disch:=omega) only[l2,hlt2,h4',hg,go_sem]
   refine za hfx ?_
   simp(disch:=omega) only[wrap64,go_sem]
   exact goJ (hJ2 (n2+w) _ hn2) (by simp(disch:=omega) only[wrap64,ec,go_sem])
 ·rintro done x rest n H J hd hlt _ hn hJ
  have hg:=Ym hd
  have hxm:=hmo x (by rw[hd];simp)
  have hfx:=hfew x.sels hxm
  have hux:=hup x.sels hxm
  rw[List.map_cons,eC] at hn
  obtain⟨ok,onm,vs,ds,ss⟩:=x
  rw[Y3] at hg
  simp only at hfx hux hn
  by_cases h4:n≤40
  case neg =>
   rw[if_neg h4] at hn
   rw[← hn,eX _ n h4] at hT
   subst hT
   have h4':¬ ((n:Int)≤40):=by omega
   simp(disch:=omega) only[l1,hlt,h4',l2,go_sem]
   refine zf d.frags 7 (fun _:Unit=>[(5,.int .i64 n)]) (fun _ _ _ _=>True) () (by simp(disch:=omega) only[go_sem]) trivial ?_ ?_
   ·rintro _ H2 J2 _ hlt2
    simp(disch:=omega) only[l2,hlt2,h4',go_sem]
    exact hQ _ _ _ _ nofun rfl (by simp[zd,ze,AV.strip,AV.strip1,e0,h4])
   ·rintro done2 x2 rest2 _ H2 J2 hd2 hlt2 _ _ hJ2
    simp(disch:=omega) only[l2,hlt2,h4',go_sem]
    exact hQ _ _ _ _ nofun rfl (by simp[zd,ze,AV.strip,AV.strip1,e0,h4])
  rw[if_pos h4] at hn
  have h4':((n:Int)≤40)=True:=eq_true (by omega)
  generalize few d 41 40 ss=w at *
  have ec:((n+w:Nat):Int)=n+w:=by omega
  simp(disch:=omega) only[l1,hlt,h4',hg,go_sem]
  refine za hfx ?_
  simp(disch:=omega) only[wrap64,go_sem]
  exact goJ (hJ (n+w) _ hn) (by simp(disch:=omega) only[wrap64,ec,go_sem])
def YB:SchD:=⟨[⟨1,[81],[],[⟨[97],[],⟨[73,110,116],0,0⟩,[]⟩],[],[]⟩],[81],[]⟩
def zd6:SchD:=⟨[],[],[]⟩
def zf0 (n:List UInt8):DocD:=⟨[⟨0,[],[],[],[.mk 0 [] n [] [] [] []]⟩],[]⟩
def zib:DocD:=zf0 [110,111,116,104,101,114,101]
def zft:DocD:=zf0 [97]
theorem zsW:zaf YB zib=9:=by decide +kernel
theorem zte:zaf YB zft=0:=by decide +kernel
theorem zsk:zaf zd6 zft=25:=by decide +kernel
theorem zto:ZO YB zft 24=true:=by decide +kernel
theorem zsG:ZO YB zft 25=false:=by decide +kernel
theorem zrm:zcr YB:=by
 intro x hx
 simp only[YB,List.mem_singleton] at hx
 subst hx
 refine⟨fun y hy=>?_,fun y hy=>(nomatch hy)⟩
 simp only[List.mem_singleton] at hy
 subst hy
 exact⟨fun y hy=>(nomatch hy),by simp[inR],by simp[inR],fun y hy=>(nomatch hy)⟩
theorem zr1:zcr zd6:=fun x hx=>nomatch hx
theorem zoV (n:List UInt8):zf2 (zf0 n):=by
 refine⟨fun x hx=>?_,fun x hx=>(nomatch hx)⟩
 simp only[zf0,List.mem_singleton] at hx
 subst hx
 exact⟨fun y hy=>(nomatch hy),fun y hy=>(nomatch hy),⟨trivial,fun y hy=>(nomatch hy),trivial⟩,trivial⟩
theorem ztd:ValH YB zib:=⟨zrm,zoV _,by decide,by decide,by decide +kernel⟩
theorem zk0:ValH YB zft:=⟨zrm,zoV _,by decide,by decide,by decide +kernel⟩
theorem zsZ:ValH zd6 zft:=⟨zr1,zoV _,by decide,by decide,by decide +kernel⟩
theorem zqn:zr YB=[.sl .no 6 [[.int .i64 1,.str [81],.sl .no 1 [],.sl .no 6 [[.str [97],.sl .no 10 [],.str [73,110,116],.int .i64 0,.int .i64 0,.sl .no 2 []]],.sl .no 1 [],.sl .no 10 []]],.str [81],.str []]:=by rfl
theorem ztq:zr zd6=[.sl .no 6 [],.str [],.str []]:=by rfl
theorem zsY (n:List UInt8):zX (zf0 n)=[.sl .no 5 [[.int .i64 0,.str [],.sl .no 10 [],.sl .no 2 [],.sl .no 7 [[.int .i64 0,.str [],.str n,.sl .no 6 [],.sl .no 2 [],.str [],.sl .no 7 []]]]],.sl .no 4 []]:=by rfl
theorem zqp:zi Tryz.prog 16 [] (.agg (zr YB)):=by
 rw[zqn]
 refine zi.go ir16 ck16 (Al4 _) fun KP Q hQ=>?_
 simp(disch:=omega) only[ir16,go_sem]
 refine zc fun b0 hb0=>?_
 simp(disch:=omega) only[go_sem]
 exact hQ _ _ _ [.agg [.sl .full 6 [[.int .i64 1,.str [81],.sl .no 1 [],.sl .no 6 [[.str [97],.sl .no 10 [],.str [73,110,116],.int .i64 0,.int .i64 0,.sl .no 2 []]],.sl .no 1 [],.sl .no 10 []]],.str [81],.str []]] nofun (by simp(disch:=omega) only[ir16,zQ,Zv,go_sem]) rfl
theorem znJ:zi Tryz.prog 7 [] (.bool true):=by
 have hw:=zqp
 have h1:=ziL YB zib ztd
 have h2:=ziL YB zft zk0
 have h3:=ziL zd6 zft zsZ
 have h4:=zp7 YB zft 24 zk0
 have h5:=zp7 YB zft 25 zk0
 rw[zsW] at h1
 rw[zte] at h2
 rw[zsk] at h3
 rw[zto] at h4
 rw[zsG] at h5
 rw[zib,zqn,zsY] at h1
 rw[zft,zqn,zsY] at h2 h4 h5
 rw[zft,ztq,zsY] at h3
 rw[zqn] at hw
 refine zi.go ir7 ck7 (Al4 _) fun KP Q hQ=>?_
 simp(disch:=omega) only[ir7,go_sem]
 refine zc fun b1 hb1=>?_
 simp(disch:=omega) only[go_sem]
 refine zc fun b2 hb2=>?_
 have hne:b1≠b2:=fun e=>by subst e;simp[zb.upd] at hb2
 simp(disch:=omega) only[hne,Ne.symm hne,go_sem]
 refine za hw ?_
 simp(disch:=omega) only[hne,Ne.symm hne,go_sem]
 refine za (zi.low h1) ?_
 simp(disch:=omega) only[hne,Ne.symm hne,go_sem]
 refine za hw ?_
 simp(disch:=omega) only[hne,Ne.symm hne,go_sem]
 refine za (zi.low h2) ?_
 simp(disch:=omega) only[hne,Ne.symm hne,go_sem]
 refine za (zi.low h3) ?_
 simp(disch:=omega) only[hne,Ne.symm hne,go_sem]
 refine za hw ?_
 simp(disch:=omega) only[hne,Ne.symm hne,go_sem]
 refine za (zi.low h4) ?_
 simp(disch:=omega) only[hne,Ne.symm hne,go_sem]
 refine za hw ?_
 simp(disch:=omega) only[hne,Ne.symm hne,go_sem]
 refine za (zi.low h5) ?_
 simp(disch:=omega) only[go_sem]
 exact hQ _ _ _ _ nofun rfl (by simp[zd,ze,AV.strip,AV.strip1])
theorem zhf (s:SchD) (d:DocD):∀(k:Nat) (n:Int),1≤n→(zdG s d k n=0∧∀ i,n≤i→i<n+k→ZO s d i=true)∨(n≤zdG s d k n∧zdG s d k n<n+k∧ZO s d (zdG s d k n)=false∧∀ i,n≤i→i<zdG s d k n→ZO s d i=true)
 | 0,n,h=>.inl ⟨rfl,fun i h1 h2=>by omega⟩
 | k+1,n,h=>by
  simp only[zdG]
  cases hv:ZO s d n with
  | false =>
   right
   simp only[Al7,if_false]
   exact⟨by omega,by omega,hv,fun i h1 h2=>by omega⟩
  | true =>
   simp only[if_true]
   rcases zhf s d k (n+1) (by omega) with ⟨h1,h2⟩|⟨h1,h2,h3,h4⟩
   ·refine .inl ⟨h1,fun i i1 i2=>?_⟩
    by_cases e:i=n
    ·rw[e];exact hv
    ·exact h2 i (by omega) (by omega)
   ·refine .inr ⟨by omega,by omega,h3,fun i i1 i2=>?_⟩
    by_cases e:i=n
    ·rw[e];exact hv
    ·exact h4 i (by omega) i2
theorem zkY (s:SchD) (d:DocD) (n:Int) (h:n<1∨24<n):ZO s d n=false:=by
 unfold ZO
 rcases h with h|h
 ·rw[if_pos (by omega)]
  unfold zbQ
  repeat rw[if_neg (by omega)]
 ·repeat rw[if_neg (by omega)]
  simp only[zcc]
  rw[decide_eq_false (by omega)]
  rfl
theorem zjV (s:SchD) (d:DocD) (n:Int) (hsw:zcr s) (hdw:zf2 d) (hsb:zN s≤1048576) (hdb:zy d≤1048575):zi Tryz.prog 3 [.agg (zr s),.agg (zX d),.int .i64 n] (.bool true):=by
 have hL:=znH s d hsb hdb
 have hA:=znJ
 have hV:=fun h=>zp7 s d n ⟨hsw,hdw,hsb,hdb,h⟩
 have hC:=fun h=>ziL s d ⟨hsw,hdw,hsb,hdb,h⟩
 have hout:=zkY s d n
 have hspec:=zhf s d 24 1 (by omega)
 have e0:zaf s d=25∨zaf s d=zdG s d 24 1:=by
  unfold zaf
  split
  ·exact .inl rfl
  ·exact .inr rfl
 generalize zaK s d=lt at *
 generalize zdG s d 24 1=k at *
 generalize zaf s d=C at *
 generalize ZO s d=V at *
 have hcd:zX d=[.sl .no 5 (cOs d.ops),.sl .no 4 (cFs d.frags)]:=rfl
 have hcs:zr s=[.sl .no 6 (cEs s.defs),.str s.q,.str s.m]:=rfl
 simp only[hcs,hcd] at hL hV hC ⊢
 refine zi.go ir3 ck3 (Al4 _) fun KP Q hQ=>?_
 simp(disch:=first|omega|assumption) only[ir3,go_sem]
 refine za hL ?_
 cases lt with
 | false =>
  simp(disch:=first|omega|assumption) only[go_sem]
  refine za hA ?_
  simp(disch:=first|omega|assumption) only[go_sem]
  exact hQ _ _ _ _ nofun rfl (by simp[zd,ze,AV.strip,AV.strip1])
 | true =>
 replace hV:=hV rfl
 replace hC:=hC rfl
 by_cases h1:n<1
 ·have h1':=eq_true h1
  rw[hout (.inl h1)] at hV
  simp(disch:=first|omega|assumption) only[h1',go_sem]
  refine za hV ?_
  simp(disch:=first|omega|assumption) only[go_sem]
  refine za hA ?_
  simp(disch:=first|omega|assumption) only[go_sem]
  exact hQ _ _ _ _ nofun rfl (by simp[zd,ze,AV.strip,AV.strip1])
 by_cases h2:24<n
 ·have h2':=eq_true h2
  rw[hout (.inr h2)] at hV
  simp(disch:=first|omega|assumption) only[h1,h2',go_sem]
  refine za hV ?_
  simp(disch:=first|omega|assumption) only[go_sem]
  refine za hA ?_
  simp(disch:=first|omega|assumption) only[go_sem]
  exact hQ _ _ _ _ nofun rfl (by simp[zd,ze,AV.strip,AV.strip1])
 simp(disch:=first|omega|assumption) only[h1,h2,go_sem]
 refine za hC ?_
 have k0:0≤k∧k≤24:=by
  rcases hspec with ⟨h3,_⟩|⟨h3,h4,_⟩
  ·omega
  ·omega
 have c0:¬ (C<0):=by omega
 have c1:¬ (25<C):=by omega
 by_cases hc:C=25
 ·have hc':=eq_true hc
  subst hc
  simp(disch:=first|omega|assumption) only[go_sem]
  refine za hA ?_
  simp(disch:=first|omega|assumption) only[go_sem]
  exact hQ _ _ _ _ nofun rfl (by simp[zd,ze,AV.strip,AV.strip1])
 have hck:C=k:=by rcases e0 with h|h;exact absurd h hc;exact h
 by_cases hz:0<C
 case neg =>
  have hk0:C=0:=by omega
  have hv:V n=true:=by
   rcases hspec with ⟨_,h4⟩|⟨h3,_⟩
   ·exact h4 n (by omega) (by omega)
   ·omega
  have hnc:¬ (n=C):=by omega
  rw[hv] at hV
  simp(disch:=first|omega|assumption) only[c0,c1,hc,hz,go_sem]
  refine za hV ?_
  simp(disch:=first|omega|assumption) only[hnc,go_sem]
  refine za hA ?_
  simp(disch:=first|omega|assumption) only[go_sem]
  exact hQ _ _ _ _ nofun rfl (by simp[zd,ze,AV.strip,AV.strip1])
 have hz':=eq_true hz
 by_cases hnc:C<n
 ·have hnc':=eq_true hnc
  simp(disch:=first|omega|assumption) only[c0,c1,hc,hz',hnc',go_sem]
  refine za hA ?_
  simp(disch:=first|omega|assumption) only[go_sem]
  exact hQ _ _ _ _ nofun rfl (by simp[zd,ze,AV.strip,AV.strip1])
 rcases hspec with ⟨h3,_⟩|⟨_,_,h5,h6⟩
 ·omega
 by_cases he:n=C
 ·have hv:V n=false:=by rw[he,hck];exact h5
  have he':=eq_true he
  rw[hv] at hV
  simp(disch:=first|omega|assumption) only[c0,c1,hc,hz',hnc,go_sem]
  refine za hV ?_
  simp(disch:=first|omega|assumption) only[he',go_sem]
  refine za hA ?_
  simp(disch:=first|omega|assumption) only[go_sem]
  exact hQ _ _ _ _ nofun rfl (by simp[zd,ze,AV.strip,AV.strip1])
 ·have hv:V n=true:=h6 n (by omega) (by omega)
  rw[hv] at hV
  simp(disch:=first|omega|assumption) only[c0,c1,hc,hz',hnc,go_sem]
  refine za hV ?_
  simp(disch:=first|omega|assumption) only[he,go_sem]
  refine za hA ?_
  simp(disch:=first|omega|assumption) only[go_sem]
  exact hQ _ _ _ _ nofun rfl (by simp[zd,ze,AV.strip,AV.strip1])
end Go.Proofs.YtbcocdloklbkjaaGreatDoor
