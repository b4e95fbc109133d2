import Derived.Test.YtbjofkamhijjlaaGreatDoorM1
import Derived.Test.YtbjofkamhijjlaaGreatDoorM2
import Derived.Test.YtbjofkamhijjlaaGreatDoorM3
import Derived.Test.YtbjofkamhijjlaaGreatDoorM4
import Derived.Test.YtbjofkamhijjlaaGreatDoorM5
import Derived.Test.YtbjofkamhijjlaaGreatDoorM6
import Derived.Test.YtbjofkamhijjlaaGreatDoorM7
import Derived.Test.YtbjofkamhijjlaaGreatDoorM8
set_option maxRecDepth 100000
set_option linter.all false
namespace Go.Proofs.YtbjofkamhijjlaaGreatDoor
open Go.Ab
theorem zsg (x:SelD):zg Tryz.prog 169 [.agg (cS x)] (.str (ZG x)):=by
 obtain⟨k,al,nm,args,dirs,on,sels⟩:=x
 rw[yM]
 refine zg.go ir169 ck169 (Al4 _) fun KP Q hQ=>?_
 by_cases h0:k=0
 case neg =>
  simp(disch:=omega) only[ir169,h0,go_sem]
  exact hQ _ _ _ _ nofun rfl (by simp[zd,ze,AV.strip,AV.strip1,ZG,h0])
 subst h0
 by_cases ha:al=[]
 ·have ha':=eq_true ha
  simp(disch:=omega) only[ir169,ha',go_sem]
  exact hQ _ _ _ _ nofun rfl (by simp[zd,ze,AV.strip,AV.strip1,ZG,ha])
 ·simp(disch:=omega) only[ir169,ha,go_sem]
  exact hQ _ _ _ _ nofun rfl (by simp[zd,ze,AV.strip,AV.strip1,ZG,ha])
theorem zwS (s:SchD) (a b:TyD) (hl:s.defs.length≤Lim):zg Tryz.prog 235 [.agg (zl s),.agg (cTy a),.agg (cTy b)] (.bool (zby s a b)):=by
 have h1:=zlM s a.nm hl
 have h2:=zlM s b.nm hl
 have h3:=zhV s a.nm hl
 have h4:=zhV s b.nm hl
 have e0:zby s a b=(decide (a.lists=b.lists)&&decide (a.musts=b.musts)&&(if Yb s a.nm||Yb s b.nm then decide (a.nm=b.nm) else ZC s a.nm&&ZC s b.nm)):=rfl
 generalize zby s a b=F at *
 generalize Yb s a.nm=x1 at *
 generalize Yb s b.nm=x2 at *
 generalize ZC s a.nm=x3 at *
 generalize ZC s b.nm=x4 at *
 obtain⟨a1,a2,a3⟩:=a
 obtain⟨b1,b2,b3⟩:=b
 obtain⟨sd,sq,sm⟩:=s
 simp only[zl,cTy] at h1 h2 h3 h4 e0 ⊢
 refine zg.go ir235 ck235 (Al4 _) fun KP Q hQ=>?_
 by_cases z2:a2=b2
 case neg =>
  simp(disch:=omega) only[ir235,z2,go_sem]
  exact hQ _ _ _ _ nofun rfl (by simp[zd,ze,AV.strip,AV.strip1,e0,z2])
 by_cases z3:a3=b3
 case neg =>
  simp(disch:=omega) only[ir235,z2,z3,go_sem]
  exact hQ _ _ _ _ nofun rfl (by simp[zd,ze,AV.strip,AV.strip1,e0,z3])
 have z2':=eq_true z2
 have z3':=eq_true z3
 simp only[z2,z3,decide_true,Bool.true_and] at e0
 simp(disch:=omega) only[ir235,z2',z3',go_sem]
 refine za h1 ?_
 cases x1 with
 | true =>
  simp(disch:=omega) only[go_sem]
  exact hQ _ _ _ _ nofun rfl (by simp[zd,ze,AV.strip,AV.strip1,e0])
 | false =>
 simp(disch:=omega) only[go_sem]
 refine za h2 ?_
 cases x2 with
 | true =>
  simp(disch:=omega) only[go_sem]
  exact hQ _ _ _ _ nofun rfl (by simp[zd,ze,AV.strip,AV.strip1,e0])
 | false =>
 simp(disch:=omega) only[go_sem]
 refine za h3 ?_
 cases x3 with
 | false =>
  simp(disch:=omega) only[go_sem]
  exact hQ _ _ _ _ nofun rfl (by simp[zd,ze,AV.strip,AV.strip1,e0])
 | true =>
 simp(disch:=omega) only[go_sem]
 refine za h4 ?_
 simp(disch:=omega) only[go_sem]
 exact hQ _ _ _ _ nofun rfl (by simp[zd,ze,AV.strip,AV.strip1,e0])
noncomputable def zl6 (b:List Mem) (m:Mem):Bool:=(zau (mN m) b).2&&eqd (vM m) (zau (mN m) b).1
noncomputable def Yu (a b:List Mem):Bool:=a.all (zl6 b)&&decide (a.length=b.length)
theorem zwB (a b:List Mem) (ha:bMs a≤Lim) (hb:bMs b≤Lim):zg Tryz.prog 210 [.sl .no 6 (cMs a),.sl .no 6 (cMs b)] (.bool (Yu a b)):=by
 have l1:=yS a
 have l2:=yS b
 have hal:=y5 a
 have hbl:=y5 b
 have ha':=ha
 have hb':=hb
 simp only[Lim] at ha' hb'
 have hG:=fun n=>zsA n b (by omega)
 have hS:∀ x∈a,∀ u,zg Tryz.prog 173 [.agg (cV (vM x)),.agg (cV u)] (.bool (eqd (vM x) u)):=fun x hx u=>by
  obtain⟨n,v⟩:=x
  have:=ze4 hx
  exact zua v (by omega) u
 refine zg.go ir210 ck210 (Al4 _) fun KP Q hQ=>?_
 simp(disch:=omega) only[ir210,l1,go_sem]
 refine zf a 11 (fun _:Unit=>[]) (fun done rest _ H=>rest.all (zl6 b)=a.all (zl6 b)) () (by simp(disch:=omega) only[go_sem]) rfl ?_ ?_
 ·rintro _ H J hn hlt
  have e0:Yu a b=decide ((a.length:Int)=b.length):=by
   rw[Yu,← hn]
   simp only[List.all_nil,Bool.true_and]
   exact decide_eq_decide.2 (by omega)
  simp(disch:=omega) only[l1,hlt,l2,go_sem]
  exact hQ _ _ _ _ nofun rfl (by simp[zd,ze,AV.strip,AV.strip1,e0])
 ·rintro done x rest _ H J hd hlt _ hn hJ
  have hg:=Zy hd
  have hx:=hS x (by rw[hd];simp)
  rw[List.all_cons] at hn
  have e1:zl6 b x=((zau (mN x) b).2&&eqd (vM x) (zau (mN x) b).1):=rfl
  generalize zl6 b x=y at *
  obtain⟨xn,xv⟩:=x
  simp only[mN,vM] at e1 hx
  have hgx:=hG xn
  replace hx:=hx (zau xn b).1
  generalize (zau xn b).2=y2 at *
  generalize (zau xn b).1=u at *
  generalize eqd xv u=y3 at *
  obtain⟨xk,xq,xs,xl,xml⟩:=xv
  obtain⟨uk,uq,us,ul,uml⟩:=u
  rw[zA,ye] at hg
  rw[ye,ye] at hx
  rw[ye] at hgx
  simp(disch:=omega) only[l1,hlt,hg,go_sem]
  refine zc fun b6 hb6=>?_
  simp(disch:=omega) only[go_sem]
  refine za hgx ?_
  cases y2 with
  | false =>
   have e0:Yu a b=false:=by rw[Yu,← hn,e1];rfl
   simp(disch:=omega) only[go_sem]
   refine zc fun b7 hb7=>?_
   simp(disch:=omega) only[go_sem]
   exact hQ _ _ _ _ nofun rfl (by simp[zd,ze,AV.strip,AV.strip1,e0])
  | true =>
   simp(disch:=omega) only[go_sem]
   refine zc fun b7 hb7=>?_
   have hne:b6≠b7:=fun e=>by subst e;simp[zb.upd] at hb7
   simp(disch:=omega) only[hne,Ne.symm hne,go_sem]
   refine za hx ?_
   cases y3 with
   | false =>
    have e0:Yu a b=false:=by rw[Yu,← hn,e1];rfl
    simp(disch:=omega) only[go_sem]
    exact hQ _ _ _ _ nofun rfl (by simp[zd,ze,AV.strip,AV.strip1,e0])
   | true =>
    rw[e1] at hn
    simp(disch:=omega) only[go_sem]
    exact goJ (hJ () _ (by simpa using hn)) (by simp(disch:=omega) only[wrap64,go_sem])
def cSn (l:List (List UInt8)):List (AV×AV):=l.map fun n=>(.str n,.bool true)
def cFr (fr:List (List UInt8×List ItD)):List (AV×AV):=fr.map fun e=>(.str e.1,.sl .no 10 (yB e.2))
def cPr (l:PrS):List (AV×AV):=l.map fun e=>(.agg [.int .i64 e.1.1,.int .i64 e.1.2],.bool e.2)
theorem zdD {H H':zb} {o:Own} {n sz:Nat} (h:zK H o n sz) (hk:∀ c k z,H c=some (.tip k z)→H' c=some (.tip k z)):zK H' o n sz:=by
 cases o with
 | tip c d=>exact hk c _ _ h
 | no=>exact h
 | nil=>exact h
 | full=>exact h
structure ItK (H:zb) (b:Nat) (c0:List AV) (no':Nat) (tl:List AV) (H':zb) (o:Own) (n:Nat):Prop where
 own:zK H' o n 10
 look:H' b=some (.cells (c0++.int .i64 no'::tl))
 kept:∀ c x,H c=some x→c≠b→H' c=some x
 new:∀ c d,o=.tip c d→H c=none
theorem zvl (s:SchD) (hs:zI s≤Lim) (b:Nat) (m1 m2 m3:AV):∀ c:Nat,∀(l:List SelD) (typ:List UInt8) (no:Nat) (H:zb),bSs l≤c→no+c≤1073741824→H b=some (.cells (zl s++.int .i64 no::[m1,m2,m3])) →
  zi Tryz.prog 85 [.ptr b 0,.str typ,.sl .no 7 (cSs l)] H (fun e H'=>match e with|.ret v=>∃ o,v=.sl o 10 (yB (zM s l typ no).1)∧ItK H b (zl s) (zM s l typ no).2 [m1,m2,m3] H' o (zM s l typ no).1.length|.pan _=>False):=by
 intro c
 induction c using Nat.strongRecOn with
 | _ c ih =>
 intro l typ no H hc hno hb
 have l1:=ZI l
 have hll:=Z6 l
 have hwith:=fun x=>zgE s typ x hs
 have hno1:=fun l no=>zdz s l typ no
 have hno2:=zdz s
 have eN:zM s [] typ=fun no=>([],no):=by funext no;simp[zM]
 have eC:∀ x r no,zM s (x::r) typ no=((itS s x typ no).1::(zM s r typ (itS s x typ no).2).1,(zM s r typ (itS s x typ no).2).2):=fun x r no=>by simp only[zM]
 have eX:∀ k al nm args dirs on sels no,itS s (.mk k al nm args dirs on sels) typ no=(.mk (no+1) (.mk k al nm args dirs on sels) typ (zM s sels (zy s typ (.mk k al nm args dirs on sels)) (no+1)).1,(zM s sels (zy s typ (.mk k al nm args dirs on sels)) (no+1)).2):=fun k al nm args dirs on sels no=>by simp only[itS]
 have hlen:=zkX s l typ no
 generalize hF:zM s l typ no=F at *
 obtain⟨sd,sq,sm⟩:=s
 generalize hS:(⟨sd,sq,sm⟩:SchD)=s at *
 have hcs:zl s=[.sl .no 6 (cEs sd),.str sq,.str sm]:=by rw[← hS];rfl
 simp only[hcs,Al6,zcU] at hwith ih hb ⊢
 refine zi.goO ir85 ck85 (Al4 _) fun KP Q hQ hP=>?_
 simp(disch:=omega) only[ir85,l1,go_sem]
 refine zf l 13 (fun x:Own×List ItD×Nat=>[(7,.sl x.1 10 (yB x.2.1))]) (fun done rest x H'=>(x.2.1++(zM s rest typ x.2.2).1,(zM s rest typ x.2.2).2)=F∧x.2.1.length=done.length∧x.2.2≤no+bSs done∧ItK H b [.sl .no 6 (cEs sd),.str sq,.str sm] x.2.2 [m1,m2,m3] H' x.1 x.2.1.length) (.nil,[],no) (by simp(disch:=omega) only[yB,go_sem]) ⟨by simpa using hF,rfl,by simp[bSs],rfl,hb,fun c x hc _=>hc,fun c d e=>by cases e⟩ ?_ ?_
 ·rintro⟨o1,a,n1⟩ H1 J ⟨hn,hal,hle,hk⟩ hlt
  simp only[eN,List.append_nil] at hn
  subst hn
  simp(disch:=omega) only[l1,hlt,go_sem]
  exact hQ _ _ H1 H1 [.sl o1 10 (yB a)] nofun rfl (Low.refl _) ⟨o1,rfl,hk⟩
 ·rintro done x rest ⟨o1,a,n1⟩ H1 J hd hlt hlt2 ⟨hn,hal,hle,hk⟩ hJ
  have hg:=Y4 hd
  have hbm:=zaH done x rest
  rw[← hd] at hbm
  have hb1:bSs (done++[x])=bSs done+bS x:=by rw[zns];simp[bSs]
  have hdl:=Z6 done
  simp only[eC] at hn
  simp only at hal hle
  obtain⟨ko,kl,kk,kn⟩:=hk
  simp only at ko kl kk kn
  obtain⟨k,al,nm,args,dirs,on,sels⟩:=x
  simp only[eX] at hn
  have hw:=hwith (.mk k al nm args dirs on sels)
  simp only[bS] at hbm hb1
  rw[yM] at hg hw
  generalize hty:zy s typ (.mk k al nm args dirs on sels)=ty2 at *
  have hih:=fun H' h=>ih (bSs sels) (by omega) sels ty2 (n1+1) H' (Al4 _) (by omega) h
  have hn2:=hno2 sels ty2 (n1+1)
  generalize hG:zM s sels ty2 (n1+1)=G at *
  have hx1:(bS (.mk k al nm args dirs on sels))=1+al.length+nm.length+on.length+bMs args+bDs dirs+bSs sels:=rfl
  simp(disch:=omega) only[l1,hlt,hg,go_sem]
  refine zc fun b9 hb9=>?_
  have hne:b≠b9:=fun e=>by subst e;rw[kl] at hb9;cases hb9
  simp only[Al6,zcU] at kl
  simp(disch:=omega) only[kl,hne,Ne.symm hne,wrap64,go_sem]
  refine za hw ?_
  simp(disch:=omega) only[kl,hne,Ne.symm hne,go_sem]
  refine yn (XP:=fun _ _=>False) (hih _ (by simp[zb.upd,hne,splice])) (fun v H2 ⟨o2,e2,hk2⟩=>?_) (fun _ _ h=>h.elim)
  subst e2
  obtain⟨jo,jl,jk,jn⟩:=hk2
  simp only[Al6,zcU] at jl
  have j9:H2 b9=some (.cells [.int .i64 k,.str al,.str nm,.sl .no 6 (cMs args),.sl .no 2 (cDs dirs),.str on,.sl .no 7 (cSs sels)]):=jk b9 _ (by simp[zb.upd,hne,Ne.symm hne]) (Ne.symm hne)
  have jt:∀ c k z,H1 c=some (.tip k z)→H2 c=some (.tip k z):=fun c k z h=>by
   have n1:c≠b:=fun e=>by subst e;rw[kl] at h;cases h
   have n2:c≠b9:=fun e=>by subst e;rw[hb9] at h;cases h
   exact jk c _ (by simp only[zb.upd,n1,n2,if_false];exact h) n1
  have jow:=zdD ko jt
  have h3:=YA a
  simp(disch:=omega) only[jl,j9,hne,Ne.symm hne,go_sem]
  refine zp (by rw[h3];exact jow) ?_ ?_ fun o' H3 hs3=>?_
  ·simp only[h3,Al2,Al3];omega
  ·simp only[h3,Al2,Al3,maxLen];omega
  simp only[h3,Al2,Al3,Nat.zero_add] at hs3
  have e1:yB a++[[.int .i64 ((n1:Int)+1),.int .i64 k,.str al,.str nm,.sl .no 6 (cMs args),.sl .no 2 (cDs dirs),.str on,.sl .no 7 (cSs sels),.str typ,.sl .no 10 (yB G.1)]]=yB (a++[.mk (n1+1) (.mk k al nm args dirs on sels) typ G.1]):=by
   rw[← zdf,zlJ,ZL];rfl
  have hk3:ItK H b [.sl .no 6 (cEs sd),.str sq,.str sm] G.2 [m1,m2,m3] H3 o' (a.length+1):=by
   refine⟨hs3.own,hs3.kept b _ jl (zfT jow jl),fun c x hc hcb=>?_,fun c d e=>?_⟩
   ·have c1:=kk c x hc hcb
    have n2:c≠b9:=fun e=>by subst e;rw[hb9] at c1;cases c1
    have c2:=jk c x (by simp only[zb.upd,hcb,n2,if_false];exact c1) hcb
    exact hs3.kept c x c2 fun d e=>by rw[kn c d e] at hc;cases hc
   ·rcases hs3.new c d e with h|⟨d0,h⟩
    ·cases hx:H c with
     | none=>rfl
     | some x =>
      by_cases hcb:c=b
      ·subst hcb;rw[jl] at h;cases h
      ·have c1:=kk c x hx hcb
       have n2:c≠b9:=fun e=>by subst e;rw[hb9] at c1;cases c1
       rw[jk c x (by simp only[zb.upd,hcb,n2,if_false];exact c1) hcb] at h;cases h
    ·exact kn c d0 h
  simp(disch:=omega) only[wrap64,e1,go_sem]
  exact goJ (hJ (o',a++[.mk (n1+1) (.mk k al nm args dirs on sels) typ G.1],G.2) H3 ⟨by simpa[zb0] using hn,by simp[hal],by simp only;omega,by simpa using hk3⟩) (by simp(disch:=omega) only[wrap64,go_sem])
theorem zmM (a b:List UInt8):(AV.str a).keq (.str b)=decide (a=b):=by
 show (a==b)=_
 by_cases h:a=b<;>simp[h]
theorem znM (n:List UInt8):∀ l,zaV (cSn l) (.str n)=if zL n l=true then some (.bool true) else none
 | []=>rfl
 | x::r=>by
  have:=znM n r
  simp only[cSn] at this
  simp only[cSn,List.map_cons,zaV,zmM,zL,this]
  by_cases h:n=x
  ·subst h;simp
  ·have h':¬ x=n:=fun e=>h e.symm
   simp[h,h']
theorem zni (n:List UInt8):∀ l,zL n l=false→zbs (cSn l) (.str n) (.bool true)=cSn (l++[n])
 | [],_=>rfl
 | x::r,h=>by
  simp only[zL] at h
  split at h
  ·cases h
  ·rename_i hx
   have hx':¬ n=x:=fun e=>hx e.symm
   have:=zni n r h
   simp only[cSn] at this
   simp only[cSn,List.map_cons,zbs,zmM,hx',decide_false,Al7,if_false,this,Al6]
theorem znw (n:List UInt8):∀ fr:List (List UInt8×List ItD),(zaV (cFr fr) (.str n)=none∧frL fr n=[])∨zaV (cFr fr) (.str n)=some (.sl .no 10 (yB (frL fr n)))
 | []=>.inl ⟨rfl,rfl⟩
 | (a,u)::r=>by
  have:=znw n r
  simp only[cFr,frL] at this
  simp only[cFr,frL,List.map_cons,zaV,zmM,List.find?_cons]
  by_cases h:n=a
  ·simp[h]
  ·simpa[h] using this
structure FlK (H:zb) (bm:Nat) (seen':List (List UInt8)) (H':zb) (o:Own) (n:Nat):Prop where
 own:zK H' o n 10
 seen:H' bm=some (.map (.one .s) (cSn seen'))
 kept:∀ c x,H c=some x→c≠bm→H' c=some x
 new:∀ c d,o=.tip c d→H c=none
theorem FlK.beside {H H1 H2:zb} {bm n n2:Nat} {s1 s2:List (List UInt8)} {o o2:Own} (h:FlK H bm s1 H1 o n) (h':FlK H1 bm s2 H2 o2 n2):FlK H bm s2 H2 o n:=by
 refine⟨zdD h.own fun c k z hc=>h'.kept c _ hc fun e=>?_,h'.seen,fun c x hc hn=>h'.kept c x (h.kept c x hc hn) hn,h.new⟩
 subst e;rw[h.seen] at hc;cases hc
theorem FlK.upd {H H1:zb} {bm n b:Nat} {s1:List (List UInt8)} {o:Own} {x:AObj} (h:FlK H bm s1 H1 o n) (hb:H1 b=none):FlK H bm s1 (H1.upd b x) o n:=by
 have hne:∀ c y,H1 c=some y→c≠b:=fun c y h e=>by subst e;rw[hb] at h;cases h
 refine⟨h.own.upd hb,?_,fun c y hc hn=>?_,h.new⟩
 ·simp only[zb.upd,hne _ _ h.seen,if_false];exact h.seen
 ·have:=h.kept c y hc hn
  simp only[zb.upd,hne _ _ this,if_false];exact this
theorem FlK.app {H H1 H2:zb} {bm n n2:Nat} {s1:List (List UInt8)} {o o2:Own} (h:FlK H bm s1 H1 o n) (h':OwnS H1 o H2 o2 n2 10):FlK H bm s1 H2 o2 n2:=by
 have hmt:∀ d,o≠.tip bm d:=fun d e=>by
  have:=h.own;subst e
  have h2:H1 bm=some (.tip (d+n) 10):=this
  rw[h.seen] at h2;cases h2
 refine⟨h'.own,h'.kept bm _ h.seen hmt,fun c x hc hn=>h'.kept c x (h.kept c x hc hn) (fun d e=>by rw[h.new c d e] at hc;cases hc),fun c d e=>?_⟩
 rcases h'.new c d e with h3|⟨d0,h3⟩
 ·cases hx:H c with
  | none=>rfl
  | some x =>
   by_cases hcb:c=bm
   ·subst hcb;rw[h.seen] at h3;cases h3
   ·rw[h.kept c x hx hcb] at h3;cases h3
 ·exact h.new c d0 h3
theorem zup (fr:List (List UInt8×List ItD)) (b bf:Nat) (x0 x1 x2 x3 x5 x6:AV):∀ n:Nat,∀(l:List ItD) (seen:List (List UInt8)) (H:zb) (bm f:Nat),Ex fr n l→n≤f→n≤1000→H b=some (.cells [x0,x1,x2,x3,.mp bf,x5,x6])→H bf=some (.map (.one .s) (cFr fr))→H bm=some (.map (.one .s) (cSn seen))→bf≠bm →
  zi Tryz.prog 168 [.ptr b 0,.sl .no 10 (yB l),.mp bm] H (fun e H'=>match e with|.ret v=>∃ o,v=.sl o 10 (yB (flF fr f l seen).1)∧FlK H bm (flF fr f l seen).2 H' o (flF fr f l seen).1.length|.pan _=>False):=by
 intro n
 induction n using Nat.strongRecOn with
 | _ n ih =>
 intro l seen H bm f hx hf hn hb hbf hbm hne
 have l1:=YA l
 have hll:l.length≤n:=by
  have h:∀(l:List ItD) n,Ex fr n l→l.length≤n:=by
   intro l
   induction l with
   | nil=>intro n _;simp
   | cons x r ih =>
    intro n h
    cases h with
    | cons hle h1 h2 h3 ha=>have:=ih _ h3;simp only[Al2];omega
  exact h l n hx
 have hfe:=zfR (seen:=seen) hx hf
 have hpre:∀ done rest,l=done++rest→(done.foldl (ZN (flF fr (f-1)) fr) ([],seen)).1.length≤n:=fun done rest e=>by
  have h1:Ex fr n done:=Ex.pre (b:=rest) (by rw[← e];exact hx)
  rw[← zfR h1 hf]
  exact zgH h1 hf
 have hmid:∀ done no k al nm args dirs on sels typ sub rest,l=done++.mk no (.mk k al nm args dirs on sels) typ sub::rest→∃ i j,i+j+1≤n∧Ex fr i sub∧(k=1→Ex fr j (frL fr nm)):=fun done no k al nm args dirs on sels typ sub rest e=>by
  rw[e] at hx
  exact hx.mid
 have hst:∀ acc no k al nm args dirs on sels typ sub,ZN (flF fr (f-1)) fr acc (.mk no (.mk k al nm args dirs on sels) typ sub)=if k=0 then (acc.1++[.mk no (.mk k al nm args dirs on sels) typ sub],acc.2)
   else if k=2 then (acc.1++(flF fr (f-1) sub acc.2).1,(flF fr (f-1) sub acc.2).2)
   else if k=1∧zL nm acc.2=false then (acc.1++(flF fr (f-1) (frL fr nm) (acc.2++[nm])).1,(flF fr (f-1) (frL fr nm) (acc.2++[nm])).2) else acc:=fun _ _ _ _ _ _ _ _ _ _ _=>rfl
 generalize hF:flF fr f l seen=F at *
 generalize hg':ZN (flF fr (f-1)) fr=stp at *
 have hfit:∀ s,KT.fits (.one .s) (.str s)=true:=fun _=>rfl
 refine zi.goO ir168 ck168 (Al4 _) fun KP Q hQ hP=>?_
 simp(disch:=omega) only[ir168,l1,go_sem]
 refine zf l 12 (fun x:Own×(List ItD×List (List UInt8))=>[(7,.sl x.1 10 (yB x.2.1))]) (fun done rest x H'=>x.2=done.foldl stp ([],seen)∧rest.foldl stp x.2=F∧FlK H bm x.2.2 H' x.1 x.2.1.length) (.nil,([],seen)) (by simp(disch:=omega) only[yB,go_sem]) ⟨rfl,hfe.symm,rfl,hbm,fun c x hc _=>hc,fun c d e=>by cases e⟩ ?_ ?_
 ·rintro⟨o1,a,sn⟩ H1 J ⟨_,hn1,hk⟩ hlt
  simp only[List.foldl] at hn1
  subst hn1
  simp(disch:=omega) only[l1,hlt,go_sem]
  exact hQ _ _ H1 H1 [.sl o1 10 (yB a)] nofun rfl (Low.refl _) ⟨o1,rfl,hk⟩
 ·rintro done x rest ⟨o1,a,sn⟩ H1 J hd hlt hlt2 ⟨hd1,hn1,hk⟩ hJ
  have hg:=zcg hd
  rw[List.foldl_cons] at hn1
  simp only at hd1 hn1
  replace hk:FlK H bm sn H1 o1 a.length:=hk
  have hp1:=hpre (done++[x]) rest (by rw[hd];simp)
  rw[List.foldl_append,← hd1,List.foldl_cons,List.foldl_nil] at hp1
  have hd2:stp (a,sn) x=(done++[x]).foldl stp ([],seen):=by rw[List.foldl_append,← hd1];rfl
  obtain⟨no,⟨k,al,nm,args,dirs,on,sels⟩,typ,sub⟩:=x
  obtain⟨i,j,hij,hx1,hx2⟩:=hmid done no k al nm args dirs on sels typ sub rest hd
  have hstx:=hst (a,sn) no k al nm args dirs on sels typ sub
  have hbm1:=hk.seen
  have hb1:=hk.kept b _ hb fun e=>by subst e;rw[hbm] at hb;cases hb
  have hbf1:=hk.kept bf _ hbf hne
  have h3:=YA a
  rw[ZL] at hg
  simp(disch:=omega) only[l1,hlt,hg,go_sem]
  refine zc fun b9 hb9=>?_
  have hu:=hk.upd (x:=.cells [.int .i64 no,.int .i64 k,.str al,.str nm,.sl .no 6 (cMs args),.sl .no 2 (cDs dirs),.str on,.sl .no 7 (cSs sels),.str typ,.sl .no 10 (yB sub)]) hb9
  have n1:b≠b9:=fun e=>by subst e;rw[hb1] at hb9;cases hb9
  have n2:bf≠b9:=fun e=>by subst e;rw[hbf1] at hb9;cases hb9
  have n3:bm≠b9:=fun e=>by subst e;rw[hbm1] at hb9;cases hb9
  have c9:(H1.upd b9 (.cells [.int .i64 no,.int .i64 k,.str al,.str nm,.sl .no 6 (cMs args),.sl .no 2 (cDs dirs),.str on,.sl .no 7 (cSs sels),.str typ,.sl .no 10 (yB sub)])) b9=some (.cells [.int .i64 no,.int .i64 k,.str al,.str nm,.sl .no 6 (cMs args),.sl .no 2 (cDs dirs),.str on,.sl .no 7 (cSs sels),.str typ,.sl .no 10 (yB sub)]):=upd_same ..
  have cb:(H1.upd b9 (.cells [.int .i64 no,.int .i64 k,.str al,.str nm,.sl .no 6 (cMs args),.sl .no 2 (cDs dirs),.str on,.sl .no 7 (cSs sels),.str typ,.sl .no 10 (yB sub)])) b=some (.cells [x0,x1,x2,x3,.mp bf,x5,x6]):=by simp only[zb.upd,n1,if_false];exact hb1
  have cf:(H1.upd b9 (.cells [.int .i64 no,.int .i64 k,.str al,.str nm,.sl .no 6 (cMs args),.sl .no 2 (cDs dirs),.str on,.sl .no 7 (cSs sels),.str typ,.sl .no 10 (yB sub)])) bf=some (.map (.one .s) (cFr fr)):=by simp only[zb.upd,n2,if_false];exact hbf1
  have cm:=hu.seen
  by_cases k0:k=0
  ·have k0':=eq_true k0
   rw[if_pos k0] at hstx
   rw[hstx] at hn1 hp1 hd2
   simp only[Al5,Al2,Al3] at hp1
   simp(disch:=omega) only[k0',go_sem]
   refine zp (by rw[h3];exact hu.own) ?_ ?_ fun o' H3 hs3=>?_
   ·simp only[h3,Al2,Al3];omega
   ·simp only[h3,Al2,Al3,maxLen];omega
   simp only[h3,Al2,Al3,Nat.zero_add] at hs3
   have e1:yB a++[[.int .i64 no,.int .i64 k,.str al,.str nm,.sl .no 6 (cMs args),.sl .no 2 (cDs dirs),.str on,.sl .no 7 (cSs sels),.str typ,.sl .no 10 (yB sub)]]=yB (a++[.mk no (.mk k al nm args dirs on sels) typ sub]):=by
    rw[← zdf,zlJ,ZL]
   simp(disch:=omega) only[wrap64,e1,go_sem]
   exact goJ (hJ (o',(a++[.mk no (.mk k al nm args dirs on sels) typ sub],sn)) H3 ⟨hd2,hn1,by simpa using hu.app hs3⟩) (by simp(disch:=omega) only[wrap64,go_sem])
  rw[if_neg k0] at hstx
  by_cases k2:k=2
  ·have k2':=eq_true k2
   rw[if_pos k2] at hstx
   rw[hstx] at hn1 hp1 hd2
   have hih:=ih i (by omega) sub sn _ bm (f-1) hx1 (by omega) (by omega) cb cf cm hne
   simp only[Al5] at hp1
   generalize hG:flF fr (f-1) sub sn=G at *
   have h4:=YA G.1
   simp(disch:=omega) only[k0,k2',go_sem]
   refine yn (XP:=fun _ _=>False) hih (fun v H2 ⟨o2,e2,hk2⟩=>?_) (fun _ _ h=>h.elim)
   subst e2
   have hu2:=hu.beside hk2
   simp(disch:=omega) only[go_sem]
   refine zp (by rw[h3];exact hu2.own) ?_ ?_ fun o' H3 hs3=>?_
   ·simp only[h3,h4];omega
   ·simp only[h3,h4,maxLen];omega
   simp only[h3,h4] at hs3
   simp(disch:=omega) only[wrap64,zeg,zdf,go_sem]
   exact goJ (hJ (o',(a++G.1,G.2)) H3 ⟨hd2,hn1,by simpa using hu2.app hs3⟩) (by simp(disch:=omega) only[wrap64,go_sem])
  rw[if_neg k2] at hstx
  by_cases k1:k=1
  case neg =>
   rw[if_neg (fun h=>k1 h.1)] at hstx
   rw[hstx] at hn1 hp1 hd2
   simp(disch:=omega) only[k0,k2,k1,go_sem]
   exact goJ (hJ (o1,(a,sn)) _ ⟨hd2,hn1,hu⟩) (by simp(disch:=omega) only[wrap64,go_sem])
  have k1':=eq_true k1
  have hmg:=znM nm sn
  cases hh:zL nm sn with
  | true =>
   rw[if_neg (fun h=>by rw[hh] at h;cases h.2)] at hstx
   rw[hstx] at hn1 hp1 hd2
   rw[if_pos hh] at hmg
   simp(disch:=omega) only[k0,k2,k1',cm,n3,Ne.symm n3,hbm1,hmg,hfit,YR,Option.getD_some,go_sem]
   exact goJ (hJ (o1,(a,sn)) _ ⟨hd2,hn1,hu⟩) (by simp(disch:=omega) only[wrap64,go_sem])
  | false =>
   rw[if_pos ⟨k1,hh⟩] at hstx
   rw[hstx] at hn1 hp1 hd2
   rw[if_neg (by rw[hh];simp)] at hmg
   have hms:=zni nm sn hh
   have hxj:=hx2 k1
   simp only[Al5] at hp1
   generalize hH2:H1.upd b9 (.cells [.int .i64 no,.int .i64 k,.str al,.str nm,.sl .no 6 (cMs args),.sl .no 2 (cDs dirs),.str on,.sl .no 7 (cSs sels),.str typ,.sl .no 10 (yB sub)])=H2 at *
   have nbm:b≠bm:=fun e=>by subst e;rw[cb] at cm;cases cm
   have nm9:b9≠bm:=Ne.symm n3
   have cb4:(H2.upd bm (.map (.one .s) (cSn (sn++[nm])))) b=some (.cells [x0,x1,x2,x3,.mp bf,x5,x6]):=by simp only[zb.upd,nbm,if_false];exact cb
   have cf4:(H2.upd bm (.map (.one .s) (cSn (sn++[nm])))) bf=some (.map (.one .s) (cFr fr)):=by simp only[zb.upd,hne,if_false];exact cf
   have c94:(H2.upd bm (.map (.one .s) (cSn (sn++[nm])))) b9=some (.cells [.int .i64 no,.int .i64 k,.str al,.str nm,.sl .no 6 (cMs args),.sl .no 2 (cDs dirs),.str on,.sl .no 7 (cSs sels),.str typ,.sl .no 10 (yB sub)]):=by simp only[zb.upd,nm9,if_false];exact c9
   have hu4:FlK H bm (sn++[nm]) (H2.upd bm (.map (.one .s) (cSn (sn++[nm])))) o1 a.length:=by
    refine⟨zdD hu.own fun c k z hc=>?_,upd_same ..,fun c x hc hn=>?_,hu.new⟩
    ·have:c≠bm:=fun e=>by subst e;rw[cm] at hc;cases hc
     simp only[zb.upd,this,if_false];exact hc
    ·simp only[zb.upd,hn,if_false];exact hu.kept c x hc hn
   have hih:=ih j (by omega) (frL fr nm) (sn++[nm]) (H2.upd bm (.map (.one .s) (cSn (sn++[nm])))) bm (f-1) hxj (by omega) (by omega) cb4 cf4 (upd_same ..) hne
   generalize hG:flF fr (f-1) (frL fr nm) (sn++[nm])=G at *
   have h4:=YA G.1
   generalize hH4:H2.upd bm (.map (.one .s) (cSn (sn++[nm])))=H4 at *
   have call:∀ w,w=AV.sl .no 10 (yB (frL fr nm))∨(w=.sl .nil 10 []∧frL fr nm=[])→zi Tryz.prog 168 [.ptr b 0,w,.mp bm] H4 (fun e H'=>match e with|.ret v=>∃ o,v=.sl o 10 (yB G.1)∧FlK H4 bm G.2 H' o G.1.length|.pan _=>False):=fun w hw=>by
    rcases hw with rfl|⟨rfl,e⟩
    ·exact hih
    ·rw[e] at hih
     exact zi.low hih
   have fin:∀ v H5,(∃ o,v=AV.sl o 10 (yB G.1)∧FlK H4 bm G.2 H5 o G.1.length)→∃ o2,v=AV.sl o2 10 (yB G.1)∧FlK H bm G.2 H5 o1 a.length:=fun v H5 ⟨o2,e2,hk2⟩=>⟨o2,e2,hu4.beside hk2⟩
   rcases znw nm fr with ⟨hmf,hfe2⟩|hmf
   ·simp(disch:=omega) only[k0,k2,k1',hb1,hbf1,n1,n2,Ne.symm n1,Ne.symm n2,n3,Ne.symm n3,nbm,Ne.symm nbm,hne,Ne.symm hne,hbm1,hmg,hfit,YR,Option.getD_none,Option.getD_some,hms,hmf,go_sem]
    rw[hH2,hH4]
    refine yn (XP:=fun _ _=>False) (call _ (.inr ⟨rfl,hfe2⟩)) (fun v H5 h5=>?_) (fun _ _ h=>h.elim)
    obtain⟨o2,rfl,hu2⟩:=fin v H5 h5
    simp(disch:=omega) only[go_sem]
    refine zp (by rw[h3];exact hu2.own) ?_ ?_ fun o' H3 hs3=>?_
    ·simp only[h3,h4];omega
    ·simp only[h3,h4,maxLen];omega
    simp only[h3,h4] at hs3
    simp(disch:=omega) only[wrap64,zeg,zdf,go_sem]
    exact goJ (hJ (o',(a++G.1,G.2)) H3 ⟨hd2,hn1,by simpa using hu2.app hs3⟩) (by simp(disch:=omega) only[wrap64,go_sem])
   ·simp(disch:=omega) only[k0,k2,k1',hb1,hbf1,n1,n2,Ne.symm n1,Ne.symm n2,n3,Ne.symm n3,nbm,Ne.symm nbm,hne,Ne.symm hne,hbm1,hmg,hfit,YR,Option.getD_none,Option.getD_some,hms,hmf,go_sem]
    rw[hH2,hH4]
    refine yn (XP:=fun _ _=>False) (call _ (.inl rfl)) (fun v H5 h5=>?_) (fun _ _ h=>h.elim)
    obtain⟨o2,rfl,hu2⟩:=fin v H5 h5
    simp(disch:=omega) only[go_sem]
    refine zp (by rw[h3];exact hu2.own) ?_ ?_ fun o' H3 hs3=>?_
    ·simp only[h3,h4];omega
    ·simp only[h3,h4,maxLen];omega
    simp only[h3,h4] at hs3
    simp(disch:=omega) only[wrap64,zeg,zdf,go_sem]
    exact goJ (hJ (o',(a++G.1,G.2)) H3 ⟨hd2,hn1,by simpa using hu2.app hs3⟩) (by simp(disch:=omega) only[wrap64,go_sem])
theorem zql (fr:List (List UInt8×List ItD)) (b bf:Nat) (x0 x1 x2 x3 x5 x6:AV) (y:ItD) (H:zb) (n:Nat) (hx:Ex fr n y.sub) (hn:n≤64) (hb:H b=some (.cells [x0,x1,x2,x3,.mp bf,x5,x6])) (hbf:H bf=some (.map (.one .s) (cFr fr))) :
  zi Tryz.prog 236 [.ptr b 0,.agg (cIt y)] H (fun e H'=>match e with|.ret v=>∃ o,v=.sl o 10 (yB (yI fr y))∧∀ c x,H c=some x→H' c=some x|.pan _=>False):=by
 have hfl:=fun H bm hb hbf hbm hne=>zup fr b bf x0 x1 x2 x3 x5 x6 n y.sub [] H bm 64 hx hn (by omega) hb hbf hbm hne
 have e0:yI fr y=(flF fr 64 y.sub []).1:=rfl
 generalize flF fr 64 y.sub []=G at *
 rw[e0]
 obtain⟨no,⟨k,al,nm,args,dirs,on,sels⟩,typ,sub⟩:=y
 simp only[ItD.sub] at hfl
 rw[ZL]
 refine zi.goO ir236 ck236 (Al4 _) fun KP Q hQ hP=>?_
 simp(disch:=omega) only[ir236,go_sem]
 refine zc fun bm hbm=>?_
 have n1:b≠bm:=fun e=>by subst e;rw[hb] at hbm;cases hbm
 have n2:bf≠bm:=fun e=>by subst e;rw[hbf] at hbm;cases hbm
 simp(disch:=omega) only[go_sem]
 refine yn (XP:=fun _ _=>False) (hfl _ bm (by simp only[zb.upd,n1,if_false];exact hb) (by simp only[zb.upd,n2,if_false];exact hbf) (upd_same ..) n2) (fun v H2 ⟨o2,e2,hk⟩=>?_) (fun _ _ h=>h.elim)
 subst e2
 simp(disch:=omega) only[go_sem]
 exact hQ _ _ H2 H2 [.sl o2 10 (yB G.1)] nofun rfl (Low.refl _) ⟨o2,rfl,fun c x hc=>by
  have hn:c≠bm:=fun e=>by subst e;rw[hbm] at hc;cases hc
  exact hk.kept c x (by simp only[zb.upd,hn,if_false];exact hc) hn⟩
theorem zwN (i j k l:Nat):(AV.agg [.int .i64 i,.int .i64 j]).keq (.agg [.int .i64 k,.int .i64 l])=decide ((i,j)=(k,l)):=by
 show (((i:Int)==k)&&(((j:Int)==l)&&true))=_
 by_cases h1:i=k<;>by_cases h2:j=l<;>simp[h1,h2]
 all_goals omega
theorem zjk (i j:Nat):∀ l:PrS,zaV (cPr l) (.agg [.int .i64 i,.int .i64 j])=(Yz l (i,j)).map AV.bool
 | []=>rfl
 | ((a,c),u)::r=>by
  have:=zjk i j r
  simp only[cPr,Yz] at this
  simp only[cPr,Yz,List.map_cons,zaV,zwN,this,List.find?_cons]
  by_cases h:(i,j)=(a,c)
  ·simp[h]
  ·simp[h]
theorem zjC (i j:Nat) (v:Bool):∀ l:PrS,zbs (cPr l) (.agg [.int .i64 i,.int .i64 j]) (.bool v)=cPr (ZH l (i,j) v)
 | []=>rfl
 | ((a,c),u)::r=>by
  have:=zjC i j v r
  simp only[cPr] at this
  simp only[cPr,ZH,List.map_cons,zbs,zwN,this]
  by_cases h:(i,j)=(a,c)
  ·obtain⟨rfl,rfl⟩:=Prod.mk.inj h
   simp
  ·simp[h]
abbrev kPr:KT:=.agg [.i .i64,.i .i64]
structure LkH (s:SchD) (fr:List (List UInt8×List ItD)) (b bf bs bp no:Nat) (S:yd) (H:zb):Prop where
 look:H b=some (.cells (zl s++[.int .i64 no,.mp bf,.mp bs,.mp bp]))
 frs:H bf=some (.map (.one .s) (cFr fr))
 sh:H bs=some (.map kPr (cPr S.1))
 pr:H bp=some (.map kPr (cPr S.2))
 ne:bs≠bp
def LkK (bs bp:Nat) (H H':zb):Prop:=∀ c x,H c=some x→c≠bs→c≠bp→H' c=some x
theorem LkH.keep {s:SchD} {fr:List (List UInt8×List ItD)} {b bf bs bp no:Nat} {S:yd} {H H':zb} (h:LkH s fr b bf bs bp no S H) (hk:∀ c x,H c=some x→H' c=some x):LkH s fr b bf bs bp no S H' :=
 ⟨hk _ _ h.look,hk _ _ h.frs,hk _ _ h.sh,hk _ _ h.pr,h.ne⟩
theorem LkK.trans {bs bp:Nat} {H H1 H2:zb} (h:LkK bs bp H H1) (h':LkK bs bp H1 H2):LkK bs bp H H2:=fun c x hc n1 n2=>h' c x (h c x hc n1 n2) n1 n2
theorem LkK.upd {bs bp:Nat} {H H1:zb} (h:LkK bs bp H H1) {c:Nat} {x:AObj} (hc:H1 c=none):LkK bs bp H (H1.upd c x):=fun d y hd n1 n2=>by
 have:=h d y hd n1 n2
 have hne:d≠c:=fun e=>by subst e;rw[hc] at this;cases this
 simp only[zb.upd,hne,if_false];exact this
theorem ZJ {H:zb} {c:Nat} {x:AObj} (hc:H c=none):∀ d y,H d=some y→(H.upd c x) d=some y:=fun d y hd=>by
 have hne:d≠c:=fun e=>by subst e;rw[hc] at hd;cases hd
 simp only[zb.upd,hne,if_false];exact hd
def zgl (s:SchD) (fr:List (List UInt8×List ItD)) (b bf bs bp no:Nat) (gf:FuncId) (g:ItD→ItD→yd→Bool×yd) (x y:ItD):Prop :=
 ∀ S H,LkH s fr b bf bs bp no S H→zi Tryz.prog gf [.ptr b 0,.agg (cIt x),.agg (cIt y)] H (fun e H'=>match e with|.ret v=>v=.bool (g x y S).1∧LkH s fr b bf bs bp no (g x y S).2 H'∧LkK bs bp H H'|.pan _=>False)
theorem zdv (x:ItD):∃ no k al nm args dirs on sels typ sub,x=.mk no (.mk k al nm args dirs on sels) typ sub:=by
 obtain⟨no,⟨k,al,nm,args,dirs,on,sels⟩,typ,sub⟩:=x
 exact⟨_,_,_,_,_,_,_,_,_,_,rfl⟩
theorem zoe (s:SchD) (fr:List (List UInt8×List ItD)) (b bf bs bp no:Nat) (gf:FuncId) (g:ItD→ItD→yd→Bool×yd) (x y:ItD) (n m:Nat) (hcl:Program.callable Tryz.prog gf=true) (hx:Ex fr n x.sub) (hn:n≤64) (hy:Ex fr m y.sub) (hm:m≤64)
  (hg:∀ u∈yI fr x,∀ v∈yI fr y,zgl s fr b bf bs bp no gf g u v) (S:yd) (H:zb) (hH:LkH s fr b bf bs bp no S H) :
  zi Tryz.prog 211 [.ptr b 0,.agg (cIt x),.agg (cIt y),.clo gf [.ptr b 0] []] H (fun e H'=>match e with|.ret v=>v=.bool (zal g (yI fr x) (yI fr y) S).1∧LkH s fr b bf bs bp no (zal g (yI fr x) (yI fr y) S).2 H'∧LkK bs bp H H'|.pan _=>False):=by
 obtain⟨sd,sq,sm⟩:=s
 have hbx:=fun H hb hbf=>zql fr b bf (.sl .no 6 (cEs sd)) (.str sq) (.str sm) (.int .i64 no) (.mp bs) (.mp bp) x H n hx hn hb hbf
 have hby:=fun H hb hbf=>zql fr b bf (.sl .no 6 (cEs sd)) (.str sq) (.str sm) (.int .i64 no) (.mp bs) (.mp bp) y H m hy hm hb hbf
 have lx:=zgH (seen:=[]) hx hn
 have ly:=zgH (seen:=[]) hy hm
 rw[show (flF fr 64 x.sub []).1=yI fr x from rfl] at lx
 rw[show (flF fr 64 y.sub []).1=yI fr y from rfl] at ly
 generalize yI fr x=la at *
 generalize yI fr y=lb at *
 have l1:=YA la
 have l2:=YA lb
 generalize hF:zal g la lb S=F at *
 obtain⟨xno,xk,xal,xnm,xargs,xdirs,xon,xsels,xtyp,xsub,rfl⟩:=zdv x
 obtain⟨yno,yk,yal,ynm,yargs,ydirs,yon,ysels,ytyp,ysub,rfl⟩:=zdv y
 rw[ZL] at hbx hby
 rw[ZL,ZL]
 have fin:∀ r S' H',F=(r,S')→LkH ⟨sd,sq,sm⟩ fr b bf bs bp no S' H'→LkK bs bp H H'→(AV.bool r=.bool F.1∧LkH ⟨sd,sq,sm⟩ fr b bf bs bp no F.2 H'∧LkK bs bp H H'):=fun r S' H' e h1 h2=>by rw[e];exact⟨rfl,h1,h2⟩
 refine zi.goO ir211 ck211 (Al4 _) fun KP Q hQ hP=>?_
 simp(disch:=omega) only[ir211,go_sem]
 refine yn (XP:=fun _ _=>False) (hby _ hH.look hH.frs) (fun v H1 ⟨o1,e1,hk1⟩=>?_) (fun _ _ h=>h.elim)
 subst e1
 have hH1:=hH.keep hk1
 simp(disch:=omega) only[go_sem]
 refine yn (XP:=fun _ _=>False) (hbx _ hH1.look hH1.frs) (fun v H2 ⟨o2,e2,hk2⟩=>?_) (fun _ _ h=>h.elim)
 subst e2
 have hH2:=hH1.keep hk2
 simp(disch:=omega) only[l1,go_sem]
 refine zf la 21 (fun _:yd=>[]) (fun done rest S' H'=>zal g rest lb S'=F∧LkH ⟨sd,sq,sm⟩ fr b bf bs bp no S' H'∧LkK bs bp H H') S (by simp(disch:=omega) only[go_sem]) ⟨hF,hH2,fun c x hc _ _=>hk2 c x (hk1 c x hc)⟩ ?_ ?_
 ·rintro S3 H3 J ⟨hn3,hH3,hK3⟩ hlt
  simp only[zal] at hn3
  simp(disch:=omega) only[l1,hlt,go_sem]
  exact hQ _ _ H3 H3 [.bool true] nofun rfl (Low.refl _) (fin _ _ _ hn3.symm hH3 hK3)
 ·rintro done x rest S3 H3 J hd hlt _ ⟨hn3,hH3,hK3⟩ hJ
  have hg1:=zcg hd
  have hxm:x∈la:=by rw[hd];simp
  simp only[zal] at hn3
  have hkx:=zsg x.x
  have hgx:=hg x hxm
  generalize hR:zh4 g x lb S3=R at *
  obtain⟨xno,xk,xal,xnm,xargs,xdirs,xon,xsels,xtyp,xsub,rfl⟩:=zdv x
  simp only[ItD.x] at hkx
  rw[ZL] at hg1
  rw[yM] at hkx
  simp(disch:=omega) only[l1,hlt,hg1,go_sem]
  refine zc fun b11 hb11=>?_
  have hH4:=hH3.keep (ZJ (x:=.cells [.int .i64 xno,.int .i64 xk,.str xal,.str xnm,.sl .no 6 (cMs xargs),.sl .no 2 (cDs xdirs),.str xon,.sl .no 7 (cSs xsels),.str xtyp,.sl .no 10 (yB xsub)]) hb11)
  have hK4:=hK3.upd (x:=.cells [.int .i64 xno,.int .i64 xk,.str xal,.str xnm,.sl .no 6 (cMs xargs),.sl .no 2 (cDs xdirs),.str xon,.sl .no 7 (cSs xsels),.str xtyp,.sl .no 10 (yB xsub)]) hb11
  have ns:b11≠bs:=fun e=>by subst e;rw[hH3.sh] at hb11;cases hb11
  have np:b11≠bp:=fun e=>by subst e;rw[hH3.pr] at hb11;cases hb11
  simp(disch:=omega) only[l2,go_sem]
  refine zf lb 27 (fun _:yd=>[]) (fun done rest S' H'=>zh4 g (.mk xno (.mk xk xal xnm xargs xdirs xon xsels) xtyp xsub) rest S'=R∧LkH ⟨sd,sq,sm⟩ fr b bf bs bp no S' H'∧LkK bs bp H H'∧H' b11=some (.cells [.int .i64 xno,.int .i64 xk,.str xal,.str xnm,.sl .no 6 (cMs xargs),.sl .no 2 (cDs xdirs),.str xon,.sl .no 7 (cSs xsels),.str xtyp,.sl .no 10 (yB xsub)])) S3 (by simp(disch:=omega) only[go_sem]) ⟨hR,hH4,hK4,upd_same ..⟩ ?_ ?_
  ·rintro S5 H5 J2 ⟨hn5,hH5,hK5,_⟩ hlt2
   simp only[zh4] at hn5
   rw[← hn5] at hn3
   simp only at hn3
   simp(disch:=omega) only[l2,hlt2,go_sem]
   exact goJ (hJ S5 H5 ⟨hn3,hH5,hK5⟩) (by simp(disch:=omega) only[wrap64,go_sem])
  ·rintro done2 y rest2 S5 H5 J2 hd2 hlt2 _ ⟨hn5,hH5,hK5,c11⟩ hJ2
   have hg2:=zcg hd2
   have hym:y∈lb:=by rw[hd2];simp
   have hgy:=hgx y hym
   have hky:=zsg y.x
   simp only[zh4] at hn5
   generalize hG:g (.mk xno (.mk xk xal xnm xargs xdirs xon xsels) xtyp xsub) y S5=G at *
   obtain⟨yno,yk,yal,ynm,yargs,ydirs,yon,ysels,ytyp,ysub,rfl⟩:=zdv y
   simp only[ItD.x] at hky hn5
   rw[ZL] at hg2
   rw[yM] at hky
   simp(disch:=omega) only[l2,hlt2,hg2,go_sem]
   refine zc fun b13 hb13=>?_
   have hne:b11≠b13:=fun e=>by subst e;rw[c11] at hb13;cases hb13
   have hH6:=hH5.keep (ZJ (x:=.cells [.int .i64 yno,.int .i64 yk,.str yal,.str ynm,.sl .no 6 (cMs yargs),.sl .no 2 (cDs ydirs),.str yon,.sl .no 7 (cSs ysels),.str ytyp,.sl .no 10 (yB ysub)]) hb13)
   have hK6:=hK5.upd (x:=.cells [.int .i64 yno,.int .i64 yk,.str yal,.str ynm,.sl .no 6 (cMs yargs),.sl .no 2 (cDs ydirs),.str yon,.sl .no 7 (cSs ysels),.str ytyp,.sl .no 10 (yB ysub)]) hb13
   have c11':=ZJ (x:=.cells [.int .i64 yno,.int .i64 yk,.str yal,.str ynm,.sl .no 6 (cMs yargs),.sl .no 2 (cDs ydirs),.str yon,.sl .no 7 (cSs ysels),.str ytyp,.sl .no 10 (yB ysub)]) hb13 _ _ c11
   simp(disch:=omega) only[c11,hne,Ne.symm hne,go_sem]
   refine za hkx ?_
   simp(disch:=omega) only[c11,hne,Ne.symm hne,go_sem]
   refine za hky ?_
   by_cases hkk:ZG (.mk xk xal xnm xargs xdirs xon xsels)=ZG (.mk yk yal ynm yargs ydirs yon ysels)
   case neg =>
    simp only[hkk,if_false] at hn5
    simp(disch:=omega) only[c11,hne,Ne.symm hne,hkk,go_sem]
    exact goJ (hJ2 S5 _ ⟨hn5,hH6,hK6,c11'⟩) (by simp(disch:=omega) only[wrap64,go_sem])
   simp only[hkk,if_true] at hn5
   have hkk':=eq_true hkk
   have hcall:=hgy S5 _ hH6
   rw[ZL,ZL,hG] at hcall
   obtain⟨gr,gS⟩:=G
   simp(disch:=omega) only[c11,hne,Ne.symm hne,hkk',go_sem]
   refine⟨hcl,yn (XP:=fun _ _=>False) hcall (fun v H7 ⟨e7,hH7,hK7⟩=>?_) (fun _ _ h=>h.elim)⟩
   subst e7
   have c117:=hK7 b11 _ c11' ns np
   cases gr with
   | true =>
    simp only at hn5
    simp(disch:=omega) only[go_sem]
    exact goJ (hJ2 gS H7 ⟨hn5,hH7,hK6.trans hK7,c117⟩) (by simp(disch:=omega) only[wrap64,go_sem])
   | false =>
    simp only at hn5
    rw[← hn5] at hn3
    simp only at hn3
    simp(disch:=omega) only[go_sem]
    exact hQ _ _ H7 H7 [.bool false] nofun rfl (Low.refl _) (fin _ _ _ hn3.symm hH7 (hK6.trans hK7))
theorem shG (s:SchD) (fr:List (List UInt8×List ItD)) (b bf bs bp no:Nat) (hs:zI s≤Lim) (n m:Nat) (g:ItD→ItD→yd→Bool×yd) (x y:ItD) (hx:Ex fr n x.sub) (hn:n≤64) (hy:Ex fr m y.sub) (hm:m≤64)
  (hg:∀ u∈yI fr x,∀ v∈yI fr y,zgl s fr b bf bs bp no 209 g u v):zgl s fr b bf bs bp no 209 (shB s fr g) x y:=by
 intro S H hH
 have hac:=zoe s fr b bf bs bp no 209 g x y n m (by kernel_rfl) hx hn hy hm hg S
 have hfx:=zfw s x.typ x.x.nm hs
 have hfy:=zfw s y.typ y.x.nm hs
 have hsh:=fun a c=>zwS s a c (z7 hs)
 have hgx:=zjk x.no y.no S.1
 have hst:=fun v l=>zjC x.no y.no v l
 have e0:shB s fr g x y S=match Yz S.1 (x.no,y.no) with
  | some r=>(r,S)
  | none =>
   if zby s ((yb s x.typ x.x.nm).getD zF).t ((yb s y.typ y.x.nm).getD zF).t=true then
    ((zal g (yI fr x) (yI fr y) S).1,(ZH (zal g (yI fr x) (yI fr y) S).2.1 (x.no,y.no) (zal g (yI fr x) (yI fr y) S).1,(zal g (yI fr x) (yI fr y) S).2.2))
   else (false,(ZH S.1 (x.no,y.no) false,S.2)):=rfl
 generalize hF:shB s fr g x y S=F at *
 generalize zal g (yI fr x) (yI fr y) S=A at *
 have hb:=hH.look
 have hbs:=hH.sh
 have hfit:∀ i j:Nat,KT.fits kPr (.agg [.int .i64 i,.int .i64 j])=true:=fun _ _=>rfl
 have fin:∀ r S' H',F=(r,S')→LkH s fr b bf bs bp no S' H'→LkK bs bp H H'→(AV.bool r=.bool F.1∧LkH s fr b bf bs bp no F.2 H'∧LkK bs bp H H'):=fun r S' H' e h1 h2=>by rw[e];exact⟨rfl,h1,h2⟩
 have setS:∀ S' H' v,LkH s fr b bf bs bp no S' H'→LkK bs bp H H'→LkH s fr b bf bs bp no (ZH S'.1 (x.no,y.no) v,S'.2) (H'.upd bs (.map kPr (cPr (ZH S'.1 (x.no,y.no) v))))∧LkK bs bp H (H'.upd bs (.map kPr (cPr (ZH S'.1 (x.no,y.no) v)))):=fun S' H' v h hk=>by
  have n1:b≠bs:=fun e=>by have:=h.look;rw[e,h.sh] at this;cases this
  have n2:bf≠bs:=fun e=>by have:=h.frs;rw[e,h.sh] at this;cases this
  refine⟨⟨by simp only[zb.upd,n1,if_false];exact h.look,by simp only[zb.upd,n2,if_false];exact h.frs,upd_same ..,by simp only[zb.upd,Ne.symm h.ne,if_false];exact h.pr,h.ne⟩,fun c z hc h1 h2=>?_⟩
  simp only[zb.upd,h1,if_false];exact hk c z hc h1 h2
 generalize (yb s x.typ x.x.nm).isSome=fsx at *
 generalize (yb s x.typ x.x.nm).getD zF=wx at *
 generalize (yb s y.typ y.x.nm).isSome=fsy at *
 generalize (yb s y.typ y.x.nm).getD zF=wy at *
 replace hsh:=hsh wx.t wy.t
 generalize zby s wx.t wy.t=sx at *
 obtain⟨fn,fp,⟨f1,f2,f3⟩,fd⟩:=wx
 obtain⟨gn,gp,⟨g1,g2,g3⟩,gd⟩:=wy
 obtain⟨xno,xk,xal,xnm,xargs,xdirs,xon,xsels,xtyp,xsub,rfl⟩:=zdv x
 obtain⟨yno,yk,yal,ynm,yargs,ydirs,yon,ysels,ytyp,ysub,rfl⟩:=zdv y
 simp only[ItD.no,ItD.x,ItD.typ,SelD.nm] at hfx hfy hgx hst e0 setS
 obtain⟨sd,sq,sm⟩:=s
 have hcs:zl ⟨sd,sq,sm⟩=[.sl .no 6 (cEs sd),.str sq,.str sm]:=rfl
 simp only[hcs,Al6,zcU] at hfx hfy hsh hb
 simp only[cTy] at hsh
 rw[zaL] at hfx hfy
 rw[ZL,ZL] at hac ⊢
 have nbs:b≠bs:=fun e=>by subst e;rw[hb] at hbs;cases hbs
 refine zi.goO ir209 ck209 (Al4 _) fun KP Q hQ hP=>?_
 simp(disch:=omega) only[ir209,go_sem]
 refine zc fun b7 hb7=>?_
 have n7:b≠b7:=fun e=>by subst e;rw[hb] at hb7;cases hb7
 have n7s:bs≠b7:=fun e=>by subst e;rw[hbs] at hb7;cases hb7
 have hH7:=hH.keep (ZJ (x:=.cells [.int .i64 xno,.int .i64 yno]) hb7)
 have hK7:LkK bs bp H (H.upd b7 (.cells [.int .i64 xno,.int .i64 yno])):=LkK.upd (fun c z hc _ _=>hc) hb7
 cases hpg:Yz S.1 (xno,yno) with
 | some r =>
  rw[hpg] at hgx e0
  simp only[zak] at hgx
  simp(disch:=omega) only[n7,Ne.symm n7,n7s,Ne.symm n7s,nbs,Ne.symm nbs,hb,hbs,hgx,hfit,YR,Option.getD_some,Option.isSome_some,go_sem]
  exact hQ _ _ _ _ [.bool r] nofun rfl (Low.refl _) (fin r S _ e0 hH7 hK7)
 | none =>
  rw[hpg] at hgx e0
  simp only[Option.map_none] at hgx
  simp(disch:=omega) only[n7,Ne.symm n7,n7s,Ne.symm n7s,nbs,Ne.symm nbs,hb,hbs,hgx,hfit,YR,Option.getD_none,Option.isSome_none,go_sem]
  refine za hfx ?_
  simp(disch:=omega) only[go_sem]
  refine zc fun b10 hb10=>?_
  have m1:b7≠b10:=fun e=>by subst e;simp[zb.upd] at hb10
  have m2:b≠b10:=fun e=>by subst e;simp[zb.upd,n7,hb] at hb10
  have m3:bs≠b10:=fun e=>by subst e;simp[zb.upd,n7s,hbs] at hb10
  have hH10:=hH7.keep (ZJ (x:=.cells [.str fn,.sl .no 10 (cWs fp),.str f1,.int .i64 f2,.int .i64 f3,.sl .no 2 (cDs fd)]) hb10)
  have hK10:=hK7.upd (x:=.cells [.str fn,.sl .no 10 (cWs fp),.str f1,.int .i64 f2,.int .i64 f3,.sl .no 2 (cDs fd)]) hb10
  simp(disch:=omega) only[n7,Ne.symm n7,n7s,Ne.symm n7s,nbs,Ne.symm nbs,m1,m2,m3,Ne.symm m1,Ne.symm m2,Ne.symm m3,hb,go_sem]
  refine za hfy ?_
  simp(disch:=omega) only[go_sem]
  refine zc fun b12 hb12=>?_
  have k1:b7≠b12:=fun e=>by subst e;simp[zb.upd,m1] at hb12
  have k2:b≠b12:=fun e=>by subst e;simp[zb.upd,n7,m2,hb] at hb12
  have k3:bs≠b12:=fun e=>by subst e;simp[zb.upd,n7s,m3,hbs] at hb12
  have k4:b10≠b12:=fun e=>by subst e;simp[zb.upd] at hb12
  have hH12:=hH10.keep (ZJ (x:=.cells [.str gn,.sl .no 10 (cWs gp),.str g1,.int .i64 g2,.int .i64 g3,.sl .no 2 (cDs gd)]) hb12)
  have hK12:=hK10.upd (x:=.cells [.str gn,.sl .no 10 (cWs gp),.str g1,.int .i64 g2,.int .i64 g3,.sl .no 2 (cDs gd)]) hb12
  simp(disch:=omega) only[n7,Ne.symm n7,n7s,Ne.symm n7s,nbs,Ne.symm nbs,m1,m2,m3,Ne.symm m1,Ne.symm m2,Ne.symm m3,k1,k2,k3,k4,Ne.symm k1,Ne.symm k2,Ne.symm k3,Ne.symm k4,hb,go_sem]
  refine za hsh ?_
  cases sx with
  | false =>
   have hst1:=hst false S.1
   obtain⟨q1,q2⟩:=setS S _ false hH12 hK12
   simp(disch:=omega) only[n7,Ne.symm n7,n7s,Ne.symm n7s,nbs,Ne.symm nbs,m1,m2,m3,Ne.symm m1,Ne.symm m2,Ne.symm m3,k1,k2,k3,k4,Ne.symm k1,Ne.symm k2,Ne.symm k3,Ne.symm k4,hb,hbs,hfit,hst1,go_sem]
   exact hQ _ _ _ _ [.bool false] nofun rfl (Low.refl _) (fin false _ _ e0 q1 q2)
  | true =>
   have hac2:=hac _ hH12
   have c7:(((H.upd b7 (.cells [.int .i64 xno,.int .i64 yno])).upd b10 (.cells [.str fn,.sl .no 10 (cWs fp),.str f1,.int .i64 f2,.int .i64 f3,.sl .no 2 (cDs fd)])).upd b12 (.cells [.str gn,.sl .no 10 (cWs gp),.str g1,.int .i64 g2,.int .i64 g3,.sl .no 2 (cDs gd)])) b7=some (.cells [.int .i64 xno,.int .i64 yno]):=by simp[zb.upd,m1,k1]
   have np7:b7≠bp:=fun e=>by have:=hH12.pr;rw[← e,c7] at this;cases this
   simp(disch:=omega) only[n7,Ne.symm n7,n7s,Ne.symm n7s,nbs,Ne.symm nbs,m1,m2,m3,Ne.symm m1,Ne.symm m2,Ne.symm m3,k1,k2,k3,k4,Ne.symm k1,Ne.symm k2,Ne.symm k3,Ne.symm k4,hb,go_sem]
   refine yn (XP:=fun _ _=>False) hac2 (fun v H3 ⟨e3,hH3,hK3⟩=>?_) (fun _ _ h=>h.elim)
   subst e3
   have hK4:=hK12.trans hK3
   have c73:=hK3 b7 _ c7 (Ne.symm n7s) np7
   have hb3:=hH3.look
   simp only[hcs,Al6,zcU] at hb3
   have hbs3:=hH3.sh
   have hst1:=hst A.1 A.2.1
   obtain⟨q1,q2⟩:=setS A.2 H3 A.1 hH3 hK4
   simp(disch:=omega) only[hb3,hbs3,c73,hfit,hst1,go_sem]
   exact hQ _ _ _ _ [.bool A.1] nofun rfl (Low.refl _) (fin A.1 _ _ e0 q1 q2)
theorem shC (s:SchD) (fr:List (List UInt8×List ItD)) (b bf bs bp no:Nat) (hs:zI s≤Lim):∀(f m:Nat) (x y:ItD),f≤64→m≤64→Ex fr f x.sub→Ex fr m y.sub→zgl s fr b bf bs bp no 209 (shF s fr f) x y
 | 0,m,x,y,hf,hm,hx,hy=>shG s fr b bf bs bp no hs 0 m _ x y hx hf hy hm fun u hu v hv=>by
  obtain⟨i,hi,_⟩:=Zz (seen:=[]) (f:=64) hx hf hu
  omega
 | f+1,m,x,y,hf,hm,hx,hy=>shG s fr b bf bs bp no hs (f+1) m (shF s fr f) x y hx hf hy hm fun u hu v hv=>by
  obtain⟨i,hi,h1,_⟩:=Zz (seen:=[]) (f:=64) hx hf hu
  obtain⟨j,hj,h2,_⟩:=Zz (seen:=[]) (f:=64) hy hm hv
  exact shC s fr b bf bs bp no hs f j u v (by omega) (by omega) (h1.mono (by omega)) h2
noncomputable def tgB (s:SchD) (fr:List (List UInt8×List ItD)) (g:ItD→ItD→yd→Bool×yd) (x y:ItD) (S:yd):Bool×yd :=
 match Yz S.2 (x.no,y.no) with
 | some r=>(r,S)
 | none =>
  if (shF s fr 64 x y S).1=true then
   if zfs s x y=true then (true,((shF s fr 64 x y S).2.1,ZH (shF s fr 64 x y S).2.2 (x.no,y.no) true))
   else if (decide (x.x.nm=y.x.nm)&&Yu x.args y.args)=true then
    ((zal g (yI fr x) (yI fr y) (shF s fr 64 x y S).2).1,((zal g (yI fr x) (yI fr y) (shF s fr 64 x y S).2).2.1,ZH (zal g (yI fr x) (yI fr y) (shF s fr 64 x y S).2).2.2 (x.no,y.no) (zal g (yI fr x) (yI fr y) (shF s fr 64 x y S).2).1))
   else (false,((shF s fr 64 x y S).2.1,ZH (shF s fr 64 x y S).2.2 (x.no,y.no) false))
  else (false,((shF s fr 64 x y S).2.1,ZH (shF s fr 64 x y S).2.2 (x.no,y.no) false))
noncomputable def tgF (s:SchD) (fr:List (List UInt8×List ItD)):Nat→ItD→ItD→yd→Bool×yd
 | 0=>tgB s fr fun _ _ S=>(true,S)
 | n+1=>tgB s fr (tgF s fr n)
theorem tgG (s : SchD) (fr : List (List UInt8 × List ItD)) (b bf bs bp no : Nat) (hs : zI s ≤ Lim) (n m : Nat) (g : ItD → ItD → yd → Bool × yd) (x y : ItD) (hx : Ex fr n x.sub) (hn : n ≤ 64) (hy : Ex fr m y.sub) (hm : m ≤ 64) (hxa : bMs x.args ≤ Lim) (hya : bMs y.args ≤ Lim)
    (hg : ∀ u ∈ yI fr x, ∀ v ∈ yI fr y, zgl s fr b bf bs bp no 170 g u v) : zgl s fr b bf bs bp no 170 (tgB s fr g) x y := by
  intro S H hH
  have hac := zoe s fr b bf bs bp no 170 g x y n m (by kernel_rfl) hx hn hy hm hg
  have hkx := zcM s x.typ [1] (z7 hs) (by simp [Lim])
  have hky := zcM s y.typ [1] (z7 hs) (by simp [Lim])
  have hsh := shC s fr b bf bs bp no hs 64 m x y (Al4 _) hm (hx.mono hn) hy S
  have hal := zwB x.args y.args hxa hya
  have hgx := zjk x.no y.no S.2
  have hst := fun v l => zjC x.no y.no v l
  have eap : zfs s x y = (!decide (x.typ = y.typ) && yQ s x.typ [1] && yQ s y.typ [1]) := rfl
  have e0 : tgB s fr g x y S = match Yz S.2 (x.no, y.no) with
    | some r => (r, S)
    | none =>
      if (shF s fr 64 x y S).1 = true then
        if zfs s x y = true then (true, ((shF s fr 64 x y S).2.1, ZH (shF s fr 64 x y S).2.2 (x.no, y.no) true))
        else if (decide (x.x.nm = y.x.nm) && Yu x.args y.args) = true then
          ((zal g (yI fr x) (yI fr y) (shF s fr 64 x y S).2).1, ((zal g (yI fr x) (yI fr y) (shF s fr 64 x y S).2).2.1, ZH (zal g (yI fr x) (yI fr y) (shF s fr 64 x y S).2).2.2 (x.no, y.no) (zal g (yI fr x) (yI fr y) (shF s fr 64 x y S).2).1))
        else (false, ((shF s fr 64 x y S).2.1, ZH (shF s fr 64 x y S).2.2 (x.no, y.no) false))
      else (false, ((shF s fr 64 x y S).2.1, ZH (shF s fr 64 x y S).2.2 (x.no, y.no) false)) := rfl
  generalize hF : tgB s fr g x y S = F at *
  generalize shF s fr 64 x y S = A at *
  replace hac := hac A.2
  generalize zal g (yI fr x) (yI fr y) A.2 = B at *
  have hb := hH.look
  have hbp := hH.pr
  have hfit : ∀ i j : Nat, KT.fits kPr (.agg [.int .i64 i, .int .i64 j]) = true := fun _ _ => rfl
  have fin : ∀ r S' H', F = (r, S') → LkH s fr b bf bs bp no S' H' → LkK bs bp H H' → (AV.bool r = .bool F.1 ∧ LkH s fr b bf bs bp no F.2 H' ∧ LkK bs bp H H') := fun r S' H' e h1 h2 => by rw [e]; exact ⟨rfl, h1, h2⟩
  have setS : ∀ S' H' v, LkH s fr b bf bs bp no S' H' → LkK bs bp H H' → LkH s fr b bf bs bp no (S'.1, ZH S'.2 (x.no, y.no) v) (H'.upd bp (.map kPr (cPr (ZH S'.2 (x.no, y.no) v)))) ∧ LkK bs bp H (H'.upd bp (.map kPr (cPr (ZH S'.2 (x.no, y.no) v)))) := fun S' H' v h hk => by
    have n1 : b ≠ bp := fun e => by have := h.look; rw [e, h.pr] at this; cases this
    have n2 : bf ≠ bp := fun e => by have := h.frs; rw [e, h.pr] at this; cases this
    refine ⟨⟨by simp only [zb.upd, n1, if_false]; exact h.look, by simp only [zb.upd, n2, if_false]; exact h.frs, by simp only [zb.upd, h.ne, if_false]; exact h.sh, upd_same .., h.ne⟩, fun c z hc h1 h2 => ?_⟩
    simp only [zb.upd, h2, if_false]; exact hk c z hc h1 h2
  generalize zfs s x y = ap at *
  generalize yQ s x.typ [1] = kx at *
  generalize yQ s y.typ [1] = ky at *
  generalize Yu x.args y.args = lk at *
  obtain ⟨xno, xk, xal, xnm, xargs, xdirs, xon, xsels, xtyp, xsub, rfl⟩ := zdv x
  obtain ⟨yno, yk, yal, ynm, yargs, ydirs, yon, ysels, ytyp, ysub, rfl⟩ := zdv y
  simp only [ItD.no, ItD.x, ItD.typ, SelD.nm, ItD.args] at hkx hky hgx hst e0 setS hal eap
  obtain ⟨sd, sq, sm⟩ := s
  have hcs : zl ⟨sd, sq, sm⟩ = [.sl .no 6 (cEs sd), .str sq, .str sm] := rfl
  simp only [hcs, Al6, zcU] at hkx hky hb
  rw [ZL, ZL] at hac hsh ⊢
  have nbp : b ≠ bp := fun e => by subst e; rw [hb] at hbp; cases hbp
  refine zi.goO ir170 ck170 (Al4 _) fun KP Q hQ hP => ?_
  simp (disch := omega) only [ir170, go_sem]
  refine zc fun b7 hb7 => ?_
  have n7 : b ≠ b7 := fun e => by subst e; rw [hb] at hb7; cases hb7
  have n7p : bp ≠ b7 := fun e => by subst e; rw [hbp] at hb7; cases hb7
  have n7s : b7 ≠ bs := fun e => by subst e; rw [hH.sh] at hb7; cases hb7
  have hH7 := hH.keep (ZJ (x := .cells [.int .i64 xno, .int .i64 yno]) hb7)
  have hK7 : LkK bs bp H (H.upd b7 (.cells [.int .i64 xno, .int .i64 yno])) := LkK.upd (fun c z hc _ _ => hc) hb7
  cases hpg : Yz S.2 (xno, yno) with
  | some r =>
    rw [hpg] at hgx e0
    simp only [zak] at hgx
    simp (disch := omega) only [n7, Ne.symm n7, n7p, Ne.symm n7p, nbp, Ne.symm nbp, hb, hbp, hgx, hfit, YR, Option.getD_some, Option.isSome_some, go_sem]
    exact hQ _ _ _ _ [.bool r] nofun rfl (Low.refl _) (fin r S _ e0 hH7 hK7)
  | none =>
    rw [hpg] at hgx e0
    simp only [Option.map_none] at hgx
    replace hsh := hsh _ hH7
    have tail : ∀ (v : Bool) H3, LkH ⟨sd, sq, sm⟩ fr b bf bs bp no A.2 H3 → LkK bs bp H H3 → F = (v, (A.2.1, ZH A.2.2 (xno, yno) v)) → (AV.bool v = .bool F.1 ∧ LkH ⟨sd, sq, sm⟩ fr b bf bs bp no F.2 (H3.upd bp (.map kPr (cPr (ZH A.2.2 (xno, yno) v)))) ∧ LkK bs bp H (H3.upd bp (.map kPr (cPr (ZH A.2.2 (xno, yno) v))))) := fun v H3 h1 h2 e => by
      obtain ⟨q1, q2⟩ := setS A.2 H3 v h1 h2
      exact fin v _ _ e q1 q2
    have after : ∀ (v : AV) H3, (v = .bool A.1 ∧ LkH ⟨sd, sq, sm⟩ fr b bf bs bp no A.2 H3 ∧ LkK bs bp (H.upd b7 (.cells [.int .i64 xno, .int .i64 yno])) H3) → v = .bool A.1 ∧ LkH ⟨sd, sq, sm⟩ fr b bf bs bp no A.2 H3 ∧ LkK bs bp H H3 ∧ H3 b7 = some (.cells [.int .i64 xno, .int .i64 yno]) ∧ H3 b = some (.cells [.sl .no 6 (cEs sd), .str sq, .str sm, .int .i64 no, .mp bf, .mp bs, .mp bp]) ∧ H3 bp = some (.map kPr (cPr A.2.2)) := fun v H3 ⟨h1, h2, h3⟩ =>
      ⟨h1, h2, hK7.trans h3, h3 b7 _ (upd_same ..) n7s (Ne.symm n7p), h2.look, h2.pr⟩
    obtain ⟨Ar, A1, A2⟩ := A
    simp only at after tail e0 hac
    have hst1 := fun v => hst v A2
    have pre : (xtyp = ytyp ∧ ap = false) ∨ (xtyp ≠ ytyp ∧ kx = false ∧ ap = false) ∨ (xtyp ≠ ytyp ∧ kx = true ∧ ky = ap) := by
      by_cases h : xtyp = ytyp
      · exact .inl ⟨h, by rw [eap]; simp [h]⟩
      · cases kx with
        | false => exact .inr (.inl ⟨h, rfl, by rw [eap]; simp⟩)
        | true => exact .inr (.inr ⟨h, rfl, by rw [eap]; simp [h]⟩)
    rcases pre with ⟨ht, hap⟩ | ⟨ht, hk1, hap⟩ | ⟨ht, hk1, hap⟩
    case' inl =>
      have ht' := eq_true ht
      simp (disch := omega) only [n7, Ne.symm n7, n7p, Ne.symm n7p, nbp, Ne.symm nbp, hb, hbp, hgx, hfit, YR, Option.getD_none, Option.isSome_none, ht', go_sem]
      refine yn (XP := fun _ _ => False) hsh (fun v H3 h => ?_) (fun _ _ h => h.elim)
    case' inr.inl =>
      rw [hk1] at hkx
      simp (disch := omega) only [n7, Ne.symm n7, n7p, Ne.symm n7p, nbp, Ne.symm nbp, hb, hbp, hgx, hfit, YR, Option.getD_none, Option.isSome_none, ht, go_sem]
      refine za (zg.low hkx) ?_
      simp (disch := omega) only [n7, Ne.symm n7, n7p, Ne.symm n7p, nbp, Ne.symm nbp, hb, go_sem]
      refine yn (XP := fun _ _ => False) hsh (fun v H3 h => ?_) (fun _ _ h => h.elim)
    case' inr.inr =>
      rw [hk1] at hkx
      rw [hap] at hky
      simp (disch := omega) only [n7, Ne.symm n7, n7p, Ne.symm n7p, nbp, Ne.symm nbp, hb, hbp, hgx, hfit, YR, Option.getD_none, Option.isSome_none, ht, go_sem]
      refine za (zg.low hkx) ?_
      simp (disch := omega) only [n7, Ne.symm n7, n7p, Ne.symm n7p, nbp, Ne.symm nbp, hb, go_sem]
      refine za (zg.low hky) ?_
      simp (disch := omega) only [n7, Ne.symm n7, n7p, Ne.symm n7p, nbp, Ne.symm nbp, hb, go_sem]
      refine yn (XP := fun _ _ => False) hsh (fun v H3 h => ?_) (fun _ _ h => h.elim)
    all_goals
      obtain ⟨rfl, hH3, hK3, c73, hb3, hbp3⟩ := after v H3 h
      have hac3 := hac H3 hH3
      cases Ar with
      | false =>
        simp only [Al7, if_false] at e0
        simp (disch := omega) only [hb3, c73, hbp3, hfit, hst1, go_sem]
        exact hQ _ _ _ _ [.bool false] nofun rfl (Low.refl _) (tail false H3 hH3 hK3 e0)
      | true =>
        simp only [if_true] at e0
        cases ap with
        | true =>
          first
          | (cases hap; done)
          | (simp only [if_true] at e0
             simp (disch := omega) only [hb3, c73, hbp3, hfit, hst1, go_sem]
             exact hQ _ _ _ _ [.bool true] nofun rfl (Low.refl _) (tail true H3 hH3 hK3 e0))
        | false =>
          simp only [Al7, if_false] at e0
          by_cases hnm : xnm = ynm
          case neg =>
            simp only [hnm, decide_false, Bool.false_and, Al7, if_false] at e0
            simp (disch := omega) only [hb3, c73, hbp3, hfit, hst1, hnm, go_sem]
            exact hQ _ _ _ _ [.bool false] nofun rfl (Low.refl _) (tail false H3 hH3 hK3 e0)
          have hnm' := eq_true hnm
          simp only [hnm, decide_true, Bool.true_and] at e0
          simp (disch := omega) only [hb3, c73, hbp3, hfit, hst1, hnm', go_sem]
          refine za hal ?_
          cases lk with
          | false =>
            simp only [Al7, if_false] at e0
            simp (disch := omega) only [hb3, c73, hbp3, hfit, hst1, go_sem]
            exact hQ _ _ _ _ [.bool false] nofun rfl (Low.refl _) (tail false H3 hH3 hK3 e0)
          | true =>
            simp only [if_true] at e0
            simp (disch := omega) only [hb3, c73, hbp3, hfit, hst1, go_sem]
            refine yn (XP := fun _ _ => False) hac3 (fun v H4 ⟨e4, hH4, hK4⟩ => ?_) (fun _ _ h => h.elim)
            subst e4
            have c74 := hK4 b7 _ c73 n7s (Ne.symm n7p)
            have hb4 : H4 b = some (.cells [.sl .no 6 (cEs sd), .str sq, .str sm, .int .i64 no, .mp bf, .mp bs, .mp bp]) := hH4.look
            have hbp4 := hH4.pr
            have hst4 := hst B.1 B.2.2
            obtain ⟨q1, q2⟩ := setS B.2 H4 B.1 hH4 (hK3.trans hK4)
            simp (disch := omega) only [hb4, c74, hbp4, hfit, hst4, go_sem]
            exact hQ _ _ _ _ [.bool B.1] nofun rfl (Low.refl _) (fin B.1 _ _ e0 q1 q2)
theorem tgC (s:SchD) (fr:List (List UInt8×List ItD)) (b bf bs bp no:Nat) (hs:zI s≤Lim):∀(f m:Nat) (x y:ItD),f≤64→m≤64→Ex fr f x.sub→Ex fr m y.sub→bMs x.args≤Lim→bMs y.args≤Lim→zgl s fr b bf bs bp no 170 (tgF s fr f) x y
 | 0,m,x,y,hf,hm,hx,hy,hxa,hya=>tgG s fr b bf bs bp no hs 0 m _ x y hx hf hy hm hxa hya fun u hu v hv=>by
  obtain⟨i,hi,_⟩:=Zz (seen:=[]) (f:=64) hx hf hu
  omega
 | f+1,m,x,y,hf,hm,hx,hy,hxa,hya=>tgG s fr b bf bs bp no hs (f+1) m (tgF s fr f) x y hx hf hy hm hxa hya fun u hu v hv=>by
  obtain⟨i,hi,h1,h3⟩:=Zz (seen:=[]) (f:=64) hx hf hu
  obtain⟨j,hj,h2,h4⟩:=Zz (seen:=[]) (f:=64) hy hm hv
  exact tgC s fr b bf bs bp no hs f j u v (by omega) (by omega) (h1.mono (by omega)) h2 h3 h4
def rowB (g:ItD→ItD→yd→Bool×yd) (x:ItD):List ItD→yd→Bool×yd
 | [],S=>(true,S)
 | y::r,S=>if ZG x.x=ZG y.x then (match g y x S with|(true,S')=>rowB g x r S'|(false,S')=>(false,S')) else rowB g x r S
def zaN (g:ItD→ItD→yd→Bool×yd):List ItD→List ItD→yd→Bool×yd
 | _,[],S=>(true,S)
 | a,x::r,S=>match rowB g x a S with|(true,S')=>zaN g (a++[x]) r S'|(false,S')=>(false,S')
def zeZ (h:List ItD→yd→Bool×yd):List ItD→yd→Bool×yd
 | [],S=>(true,S)
 | x::r,S=>match h x.sub S with|(true,S')=>zeZ h r S'|(false,S')=>(false,S')
noncomputable def lsB (s:SchD) (fr:List (List UInt8×List ItD)) (h:List ItD→yd→Bool×yd) (l:List ItD) (S:yd):Bool×yd :=
 match zaN (tgF s fr 64) [] (flF fr 64 l []).1 S with|(true,S')=>zeZ h l S'|(false,S')=>(false,S')
noncomputable def lsF (s:SchD) (fr:List (List UInt8×List ItD)):Nat→List ItD→yd→Bool×yd
 | 0=>lsB s fr fun _ S=>(true,S)
 | n+1=>lsB s fr (lsF s fr n)
def zqz (s:SchD) (fr:List (List UInt8×List ItD)) (b bf bs bp no:Nat) (h:List ItD→yd→Bool×yd) (l:List ItD):Prop :=
 ∀ S H,LkH s fr b bf bs bp no S H→zi Tryz.prog 87 [.ptr b 0,.sl .no 10 (yB l)] H (fun e H'=>match e with|.ret v=>v=.bool (h l S).1∧LkH s fr b bf bs bp no (h l S).2 H'∧LkK bs bp H H'|.pan _=>False)
theorem lsG (s:SchD) (fr:List (List UInt8×List ItD)) (b bf bs bp no:Nat) (hs:zI s≤Lim) (n:Nat) (h:List ItD→yd→Bool×yd) (l:List ItD) (hx:Ex fr n l) (hn:n≤64) (hsub:∀ x∈l,zqz s fr b bf bs bp no h x.sub):zqz s fr b bf bs bp no (lsB s fr h) l:=by
 intro S H hH
 have hpair:∀ x∈(flF fr 64 l []).1,∀ y∈(flF fr 64 l []).1,zgl s fr b bf bs bp no 170 (tgF s fr 64) x y:=fun x hx1 y hy1=>by
  obtain⟨i,hi,h1,h3⟩:=Zz hx hn hx1
  obtain⟨j,hj,h2,h4⟩:=Zz hx hn hy1
  exact tgC s fr b bf bs bp no hs 64 j x y (Al4 _) (by omega) (h1.mono (by omega)) h2 h3 h4
 have hal:=zgH (seen:=[]) hx hn
 have hll:l.length≤n:=by
  have h:∀(l:List ItD) n,Ex fr n l→l.length≤n:=by
   intro l
   induction l with
   | nil=>intro n _;simp
   | cons x r ih =>
    intro n h
    cases h with
    | cons hle h1 h2 h3 ha=>have:=ih _ h3;simp only[Al2];omega
  exact h l n hx
 have e0:lsB s fr h l S=match zaN (tgF s fr 64) [] (flF fr 64 l []).1 S with|(true,S')=>zeZ h l S'|(false,S')=>(false,S'):=rfl
 obtain⟨sd,sq,sm⟩:=s
 have hflat:=fun H bm hb hbf hbm hne=>zup fr b bf (.sl .no 6 (cEs sd)) (.str sq) (.str sm) (.int .i64 no) (.mp bs) (.mp bp) n l [] H bm 64 hx hn (by omega) hb hbf hbm hne
 generalize hF:lsB ⟨sd,sq,sm⟩ fr h l S=F at *
 generalize flF fr 64 l []=fl at *
 obtain⟨all,sn⟩:=fl
 simp only at hpair hal e0 hflat
 generalize tgF ⟨sd,sq,sm⟩ fr 64=g at *
 have l1:=YA all
 have l2:=YA l
 generalize hPr:zaN g [] all S=Pr at *
 have fin:∀ r S' H',F=(r,S')→LkH ⟨sd,sq,sm⟩ fr b bf bs bp no S' H'→LkK bs bp H H'→(AV.bool r=.bool F.1∧LkH ⟨sd,sq,sm⟩ fr b bf bs bp no F.2 H'∧LkK bs bp H H'):=fun r S' H' e h1 h2=>by rw[e];exact⟨rfl,h1,h2⟩
 refine zi.goO ir87 ck87 (Al4 _) fun KP Q hQ hP=>?_
 simp(disch:=omega) only[ir87,go_sem]
 refine zc fun bm hbm=>?_
 have hk0:=ZJ (x:=.map (.one .s) (cSn [])) hbm
 have n2:bf≠bm:=fun e=>by subst e;rw[hH.frs] at hbm;cases hbm
 simp(disch:=omega) only[go_sem]
 refine yn (XP:=fun _ _=>False) (hflat _ bm (hk0 _ _ hH.look) (hk0 _ _ hH.frs) (upd_same ..) n2) (fun v H1 ⟨o1,e1,hk1⟩=>?_) (fun _ _ h=>h.elim)
 subst e1
 have hkeep:∀ c x,H c=some x→H1 c=some x:=fun c x hc=>hk1.kept c x (hk0 c x hc) fun e=>by subst e;rw[hbm] at hc;cases hc
 have hH1:=hH.keep hkeep
 simp(disch:=omega) only[l1,go_sem]
 refine zf all 18 (fun _:yd=>[]) (fun done rest S' H'=>zaN g done rest S'=Pr∧LkH ⟨sd,sq,sm⟩ fr b bf bs bp no S' H'∧LkK bs bp H H') S (by simp(disch:=omega) only[go_sem]) ⟨hPr,hH1,fun c x hc _ _=>hkeep c x hc⟩ ?_ ?_
 ·rintro S3 H3 J ⟨hn3,hH3,hK3⟩ hlt
  simp only[zaN] at hn3
  rw[← hn3] at e0
  simp only at e0
  simp(disch:=omega) only[l1,hlt,l2,go_sem]
  refine zf l 47 (fun _:yd=>[]) (fun done rest S' H'=>zeZ h rest S'=F∧LkH ⟨sd,sq,sm⟩ fr b bf bs bp no S' H'∧LkK bs bp H H') S3 (by simp(disch:=omega) only[go_sem]) ⟨e0.symm,hH3,hK3⟩ ?_ ?_
  ·rintro S4 H4 J2 ⟨hn4,hH4,hK4⟩ hlt2
   simp only[zeZ] at hn4
   simp(disch:=omega) only[l2,hlt2,go_sem]
   exact hQ _ _ H4 H4 [.bool true] nofun rfl (Low.refl _) (fin _ _ _ hn4.symm hH4 hK4)
  ·rintro done x rest S4 H4 J2 hd hlt2 _ ⟨hn4,hH4,hK4⟩ hJ2
   have hg2:=zcg hd
   have hxs:=hsub x (by rw[hd];simp)
   simp only[zeZ] at hn4
   generalize hG:h x.sub S4=G at *
   obtain⟨xno,xk,xal,xnm,xargs,xdirs,xon,xsels,xtyp,xsub,rfl⟩:=zdv x
   simp only[ItD.sub] at hxs hG
   rw[ZL] at hg2
   simp(disch:=omega) only[l2,hlt2,hg2,go_sem]
   refine zc fun b11 hb11=>?_
   have hH5:=hH4.keep (ZJ (x:=.cells [.int .i64 xno,.int .i64 xk,.str xal,.str xnm,.sl .no 6 (cMs xargs),.sl .no 2 (cDs xdirs),.str xon,.sl .no 7 (cSs xsels),.str xtyp,.sl .no 10 (yB xsub)]) hb11)
   have hK5:=hK4.upd (x:=.cells [.int .i64 xno,.int .i64 xk,.str xal,.str xnm,.sl .no 6 (cMs xargs),.sl .no 2 (cDs xdirs),.str xon,.sl .no 7 (cSs xsels),.str xtyp,.sl .no 10 (yB xsub)]) hb11
   have hcall:=hxs S4 _ hH5
   rw[hG] at hcall
   obtain⟨gr,gS⟩:=G
   simp(disch:=omega) only[go_sem]
   refine yn (XP:=fun _ _=>False) hcall (fun v H7 ⟨e7,hH7,hK7⟩=>?_) (fun _ _ h=>h.elim)
   subst e7
   cases gr with
   | true =>
    simp only at hn4
    simp(disch:=omega) only[go_sem]
    exact goJ (hJ2 gS H7 ⟨hn4,hH7,hK5.trans hK7⟩) (by simp(disch:=omega) only[wrap64,go_sem])
   | false =>
    simp only at hn4
    simp(disch:=omega) only[go_sem]
    exact hQ _ _ H7 H7 [.bool false] nofun rfl (Low.refl _) (fin _ _ _ hn4.symm hH7 (hK5.trans hK7))
 ·rintro done x rest S3 H3 J hd hlt hlt' ⟨hn3,hH3,hK3⟩ hJ
  have hg1:=zcg hd
  have hxm:x∈all:=by rw[hd];simp
  have htk:(yB all).take done.length=yB done:=by rw[hd];simp[zba]
  have hle:(done.length:Int)≤all.length:=by omega
  have l3:=YA done
  simp only[zaN] at hn3
  have hkx:=zsg x.x
  have hgx:=fun y hy=>hpair y hy x hxm
  generalize hR:rowB g x done S3=R at *
  obtain⟨xno,xk,xal,xnm,xargs,xdirs,xon,xsels,xtyp,xsub,rfl⟩:=zdv x
  simp only[ItD.x] at hkx
  rw[ZL] at hg1
  rw[yM] at hkx
  simp(disch:=omega) only[l1,hlt,hg1,go_sem]
  refine zc fun b7 hb7=>?_
  have hH4:=hH3.keep (ZJ (x:=.cells [.int .i64 xno,.int .i64 xk,.str xal,.str xnm,.sl .no 6 (cMs xargs),.sl .no 2 (cDs xdirs),.str xon,.sl .no 7 (cSs xsels),.str xtyp,.sl .no 10 (yB xsub)]) hb7)
  have hK4:=hK3.upd (x:=.cells [.int .i64 xno,.int .i64 xk,.str xal,.str xnm,.sl .no 6 (cMs xargs),.sl .no 2 (cDs xdirs),.str xon,.sl .no 7 (cSs xsels),.str xtyp,.sl .no 10 (yB xsub)]) hb7
  have ns:b7≠bs:=fun e=>by subst e;rw[hH3.sh] at hb7;cases hb7
  have np:b7≠bp:=fun e=>by subst e;rw[hH3.pr] at hb7;cases hb7
  simp(disch:=omega) only[l1,hle,htk,l3,go_sem]
  refine zf done 27 (fun _:yd=>[]) (fun done rest S' H'=>rowB g (.mk xno (.mk xk xal xnm xargs xdirs xon xsels) xtyp xsub) rest S'=R∧LkH ⟨sd,sq,sm⟩ fr b bf bs bp no S' H'∧LkK bs bp H H'∧H' b7=some (.cells [.int .i64 xno,.int .i64 xk,.str xal,.str xnm,.sl .no 6 (cMs xargs),.sl .no 2 (cDs xdirs),.str xon,.sl .no 7 (cSs xsels),.str xtyp,.sl .no 10 (yB xsub)])) S3 (by simp(disch:=omega) only[go_sem]) ⟨hR,hH4,hK4,upd_same ..⟩ ?_ ?_
  ·rintro S5 H5 J2 ⟨hn5,hH5,hK5,_⟩ hlt2
   simp only[rowB] at hn5
   rw[← hn5] at hn3
   simp only at hn3
   simp(disch:=omega) only[l3,hlt2,go_sem]
   exact goJ (hJ S5 H5 ⟨hn3,hH5,hK5⟩) (by simp(disch:=omega) only[wrap64,go_sem])
  ·rintro done2 y rest2 S5 H5 J2 hd2 hlt2 _ ⟨hn5,hH5,hK5,c7⟩ hJ2
   have hg2:=zcg hd2
   have hym:y∈all:=by rw[hd,hd2];simp
   have hgy:=hgx y hym
   have hky:=zsg y.x
   simp only[rowB] at hn5
   generalize hG:g y (.mk xno (.mk xk xal xnm xargs xdirs xon xsels) xtyp xsub) S5=G at *
   obtain⟨yno,yk,yal,ynm,yargs,ydirs,yon,ysels,ytyp,ysub,rfl⟩:=zdv y
   simp only[ItD.x] at hky hn5
   rw[ZL] at hg2
   rw[yM] at hky
   simp(disch:=omega) only[l3,hlt2,hg2,go_sem]
   refine zc fun b9 hb9=>?_
   have hne:b7≠b9:=fun e=>by subst e;rw[c7] at hb9;cases hb9
   have hH6:=hH5.keep (ZJ (x:=.cells [.int .i64 yno,.int .i64 yk,.str yal,.str ynm,.sl .no 6 (cMs yargs),.sl .no 2 (cDs ydirs),.str yon,.sl .no 7 (cSs ysels),.str ytyp,.sl .no 10 (yB ysub)]) hb9)
   have hK6:=hK5.upd (x:=.cells [.int .i64 yno,.int .i64 yk,.str yal,.str ynm,.sl .no 6 (cMs yargs),.sl .no 2 (cDs ydirs),.str yon,.sl .no 7 (cSs ysels),.str ytyp,.sl .no 10 (yB ysub)]) hb9
   have c7':=ZJ (x:=.cells [.int .i64 yno,.int .i64 yk,.str yal,.str ynm,.sl .no 6 (cMs yargs),.sl .no 2 (cDs ydirs),.str yon,.sl .no 7 (cSs ysels),.str ytyp,.sl .no 10 (yB ysub)]) hb9 _ _ c7
   simp(disch:=omega) only[c7,hne,Ne.symm hne,go_sem]
   refine za hkx ?_
   simp(disch:=omega) only[c7,hne,Ne.symm hne,go_sem]
   refine za hky ?_
   by_cases hkk:ZG (.mk xk xal xnm xargs xdirs xon xsels)=ZG (.mk yk yal ynm yargs ydirs yon ysels)
   case neg =>
    simp only[hkk,if_false] at hn5
    simp(disch:=omega) only[c7,hne,Ne.symm hne,hkk,go_sem]
    exact goJ (hJ2 S5 _ ⟨hn5,hH6,hK6,c7'⟩) (by simp(disch:=omega) only[wrap64,go_sem])
   simp only[hkk,if_true] at hn5
   have hkk':=eq_true hkk
   have hcall:=hgy S5 _ hH6
   rw[ZL,ZL,hG] at hcall
   obtain⟨gr,gS⟩:=G
   simp(disch:=omega) only[c7,hne,Ne.symm hne,hkk',go_sem]
   refine yn (XP:=fun _ _=>False) hcall (fun v H7 ⟨e7,hH7,hK7⟩=>?_) (fun _ _ h=>h.elim)
   subst e7
   have c77:=hK7 b7 _ c7' ns np
   cases gr with
   | true =>
    simp only at hn5
    simp(disch:=omega) only[go_sem]
    exact goJ (hJ2 gS H7 ⟨hn5,hH7,hK6.trans hK7,c77⟩) (by simp(disch:=omega) only[wrap64,go_sem])
   | false =>
    simp only at hn5
    rw[← hn5] at hn3
    simp only at hn3
    rw[← hn3] at e0
    simp only at e0
    simp(disch:=omega) only[go_sem]
    exact hQ _ _ H7 H7 [.bool false] nofun rfl (Low.refl _) (fin _ _ _ e0 hH7 (hK6.trans hK7))
theorem lsC (s:SchD) (fr:List (List UInt8×List ItD)) (b bf bs bp no:Nat) (hs:zI s≤Lim):∀(f:Nat) (l:List ItD),f≤64→Ex fr f l→zqz s fr b bf bs bp no (lsF s fr f) l
 | 0,l,hf,hx=>lsG s fr b bf bs bp no hs 0 _ l hx hf fun x hm=>by
  rw[hx.zero] at hm;cases hm
 | f+1,l,hf,hx=>lsG s fr b bf bs bp no hs (f+1) (lsF s fr f) l hx hf fun x hm=>lsC s fr b bf bs bp no hs f x.sub (by omega) (hx.sub hm)
theorem zi.lowH {P:Program} {f:FuncId} {args:List AV} {A B:zb} {Q:AEnd→zb→Prop} (hl:Low B A) (h:zi P f args B Q):zi P f args A Q:=fun γ w vs ht hs hv =>
 (h γ w vs ht (hl.st γ w hs) hv).mono fun _ _ ⟨γ',H',r,a,b,c,d,e⟩=>⟨γ',H',r,a.weaken fun x hx=>hl.keys x hx,b,fun x hx=>(c x hx).imp (hl.keys x) id,d,e⟩
def zas (es:List (AV×AV)):List (AV×AV):=es.map fun x=>(x.1,x.2.strip1)
theorem Low.map {A:zb} {b:Nat} {kt:KT} {es:List (AV×AV)} (hb:A b=some (.map kt es)):Low (A.upd b (.map kt (zas es))) A:=by
 refine⟨fun c hc=>?_,fun γ w hs c o hc=>?_⟩
 ·by_cases e:c=b
  ·subst e;rw[hb];rfl
  ·simpa[zb.upd,e] using hc
 ·by_cases e:c=b
  ·subst e
   simp only[zb.upd,if_true,Al1] at hc
   subst hc
   cases hs c _ hb with
   | map _ _ cs clock hf hk hbb hl hr =>
    refine .map kt (zas es) cs clock (fun x hx=>?_) hk hbb (by simpa[zas] using hl) (fun i x e hx he=>?_)
    ·obtain⟨y,hy,rfl⟩:=List.mem_map.1 hx
     exact hf y hy
    ·simp only[zas,YH] at hx
     cases hy:es[i]? with
     | none=>simp[hy] at hx
     | some y =>
      simp only[hy,zak,Al1] at hx
      subst hx
      have:=hr i y e hy he
      exact⟨this.key,this.val.strip1⟩
  ·exact hs c o (by simpa[zb.upd,e] using hc)
theorem zhR (k:AV):∀ es:List (AV×AV),zaV (zas es) k=(zaV es k).map AV.strip1
 | []=>rfl
 | (a,u)::r=>by
  have:=zhR k r
  simp only[zas] at this
  simp only[zas,List.map_cons,zaV,this]
  split<;>rfl
theorem zhi (k v:AV):∀ es:List (AV×AV),zas (zbs es k v)=zbs (zas es) k v.strip1
 | []=>rfl
 | (a,u)::r=>by
  have:=zhi k v r
  simp only[zas] at this
  simp only[zas,List.map_cons,zbs]
  split
  ·rfl
  ·simp only[List.map_cons,this]
theorem zlK (n:List UInt8) (v:AV):∀ es:List (AV×AV),zaV (zbs es (.str n) v) (.str n)=some v
 | []=>by simp[zbs,zaV,zmM]
 | (a,u)::r=>by
  have:=zlK n v r
  simp only[zbs]
  split
  ·simp[zaV,zmM]
  ·rename_i h
   simp only[zaV,h,this]
   simp
def yP (fr:List (List UInt8×List ItD)) (n:List UInt8):Option (List UInt8×List ItD):=fr.find? fun e=>decide (n=e.1)
theorem zkV (n:List UInt8):∀ fr:List (List UInt8×List ItD),zaV (cFr fr) (.str n)=(yP fr n).map fun e=>.sl .no 10 (yB e.2)
 | []=>rfl
 | (a,u)::r=>by
  have:=zkV n r
  simp only[cFr,yP] at this
  simp only[cFr,yP,List.map_cons,zaV,zmM,List.find?_cons]
  by_cases h:n=a
  ·simp[h]
  ·simpa[h] using this
theorem znE (n:List UInt8) (it:List ItD):∀ fr:List (List UInt8×List ItD),yP fr n=none→zbs (cFr fr) (.str n) (.sl .no 10 (yB it))=cFr (fr++[(n,it)])
 | [],_=>rfl
 | (a,u)::r,h=>by
  simp only[yP,List.find?_cons] at h
  by_cases e:n=a
  ·simp[e] at h
  ·have:=znE n it r (by simpa[e,yP] using h)
   simp only[cFr] at this
   simp only[cFr,List.map_cons,zbs,zmM,e,decide_false,Al7,if_false,this,Al6]
def cIL (l:List (List ItD)):List (List AV):=l.map fun x=>[.sl .no 10 (yB x)]
theorem zjz (l:List (List ItD)):(cIL l).length=l.length:=by simp[cIL]
theorem ztt {l a:List (List ItD)} {x:List ItD} {b:List (List ItD)} (h:l=a++x::b):(cIL l).getD a.length []=[.sl .no 10 (yB x)]:=yN h
abbrev RSt:=List (List UInt8×List ItD)×List (List ItD)×Nat
def rFr (s:SchD) (st:RSt) (f:FragD):RSt:=match yP st.1 f.nm with
 | some _=>st
 | none=>(st.1++[(f.nm,(zM s f.sels f.on st.2.2).1)],st.2.1++[(zM s f.sels f.on st.2.2).1],(zM s f.sels f.on st.2.2).2)
def rOp (s:SchD) (st:RSt) (o:OpD):RSt:=(st.1,st.2.1++[(zM s o.sels (yY s o) st.2.2).1],(zM s o.sels (yY s o) st.2.2).2)
def yp (s:SchD) (d:DocD):RSt:=d.ops.foldl (rOp s) (d.frags.foldl (rFr s) ([],[],0))
def zdT (h:List ItD→yd→Bool×yd):List (List ItD)→yd→Bool×yd
 | [],S=>(true,S)
 | x::r,S=>match h x S with|(true,S')=>zdT h r S'|(false,S')=>(false,S')
noncomputable def mgM (s:SchD) (d:DocD):Bool:=!zav d&&(zdT (lsF s (yp s d).1 64) (yp s d).2.1 ([],[])).1
noncomputable def zaa (s:SchD) (d:DocD) (n:Int):Bool:=decide (n=24)&&mgM s d
theorem zeo (fr:List (List UInt8×List ItD)) (n:List UInt8):frL fr n=((yP fr n).map (·.2)).getD []:=rfl
theorem zcG (fr:List (List UInt8×List ItD)) (a:List UInt8) (it:List ItD) (n:List UInt8):yP (fr++[(a,it)]) n=(yP fr n).or (if n=a then some (a,it) else none):=by
 simp only[yP,List.find?_append]
 congr 1
 by_cases h:n=a<;>simp[h]
theorem zrr (s:SchD):∀(fs done:List FragD) (st:RSt),(∀ n,∃ typ no,(yP st.1 n).map (·.2)=((done.find? (YL n)).map fun f=>(zM s f.sels typ no).1))→∀ n,∃ typ no,(yP (fs.foldl (rFr s) st).1 n).map (·.2)=(((done++fs).find? (YL n)).map fun f=>(zM s f.sels typ no).1)
 | [],done,st,h=>by simpa using h
 | f::fs,done,st,h=>by
  have hn:=zrr s fs (done++[f]) (rFr s st f) (fun n=>by
   obtain⟨typ,no,e⟩:=h n
   cases hf:yP st.1 f.nm with
   | some x =>
    have e2:rFr s st f=st:=by unfold rFr;rw[hf]
    rw[e2,List.find?_append]
    refine⟨typ,no,?_⟩
    rw[e]
    cases hd:done.find? (YL n) with
    | some y=>simp
    | none =>
     by_cases hfn:f.nm=n
     ·rw[hfn] at hf
      rw[hf,hd] at e
      simp at e
     ·simp[YL,hfn]
   | none =>
    have e2:(rFr s st f).1=st.1++[(f.nm,(zM s f.sels f.on st.2.2).1)]:=by unfold rFr;rw[hf]
    rw[e2,zcG,List.find?_append]
    cases hd:done.find? (YL n) with
    | some y =>
     refine⟨typ,no,?_⟩
     rw[hd] at e
     cases hx:yP st.1 n with
     | none=>rw[hx] at e;simp at e
     | some z=>rw[hx] at e;simpa using e
    | none =>
     rw[hd] at e
     have hx:yP st.1 n=none:=by
      cases hx:yP st.1 n with
      | none=>rfl
      | some z=>rw[hx] at e;simp at e
     refine⟨f.on,st.2.2,?_⟩
     rw[hx]
     by_cases hfn:f.nm=n
     ·subst hfn;simp[YL]
     ·have:¬ n=f.nm:=fun e=>hfn e.symm
      simp[YL,hfn,this])
  intro n
  obtain⟨typ,no,e⟩:=hn n
  exact⟨typ,no,by rw[List.foldl_cons,e];simp⟩
theorem zmd (s:SchD):∀(os:List OpD) (st:RSt),(os.foldl (rOp s) st).1=st.1
 | [],st=>rfl
 | o::os,st=>by rw[List.foldl_cons,zmd s os];rfl
theorem zsG (s:SchD) (d:DocD) (n:List UInt8):∃ typ no,frL (yp s d).1 n=(zM s (frS d n) typ no).1:=by
 obtain⟨typ,no,e⟩:=zrr s d.frags [] ([],[],0) (fun n=>⟨[],0,rfl⟩) n
 refine⟨typ,no,?_⟩
 rw[zeo,yp,zmd,e,zcU,frS,zw]
 cases d.frags.find? (YL n) with
 | none=>simp[zFr,zM]
 | some f=>simp
theorem zqr (s:SchD):∀(fs:List FragD) (st:RSt),∀ l∈(fs.foldl (rFr s) st).2.1,l∈st.2.1∨∃ f∈fs,∃ typ no,l=(zM s f.sels typ no).1
 | [],st,l,h=>.inl h
 | f::fs,st,l,h=>by
  rcases zqr s fs (rFr s st f) l h with h1|⟨g,hg,typ,no,e⟩
  ·unfold rFr at h1
   split at h1
   ·exact .inl h1
   ·rcases List.mem_append.1 h1 with h2|h2
    ·exact .inl h2
    ·simp only[List.mem_singleton] at h2
     exact .inr ⟨f,Zr ..,_,_,h2⟩
  ·exact .inr ⟨g,Zm _ hg,typ,no,e⟩
theorem zre (s:SchD):∀(os:List OpD) (st:RSt),∀ l∈(os.foldl (rOp s) st).2.1,l∈st.2.1∨∃ o∈os,∃ typ no,l=(zM s o.sels typ no).1
 | [],st,l,h=>.inl h
 | o::os,st,l,h=>by
  rcases zre s os (rOp s st o) l h with h1|⟨g,hg,typ,no,e⟩
  ·rcases List.mem_append.1 h1 with h2|h2
   ·exact .inl h2
   ·simp only[List.mem_singleton] at h2
    exact .inr ⟨o,Zr ..,_,_,h2⟩
  ·exact .inr ⟨g,Zm _ hg,typ,no,e⟩
theorem zi7 {d:DocD} {x:List SelD} (h:x∈zJ d):bSs x≤zq d:=by
 have:=zbj h
 omega
theorem zn0 {s:SchD} {d:DocD} (hl:∀ x∈zJ d,Sz d 40 x) (hb:zq d≤Lim):∀ l∈(yp s d).2.1,Ex (yp s d).1 64 l:=fun l h=>by
 have hex:∀ x∈zJ d,∀ typ no,Ex (yp s d).1 64 (zM s x typ no).1:=fun x hx typ no =>
  (zxE (s:=s) (zsG s d) (fun n=>by
   cases hf:zw d n with
   | none=>simp[frS,hf,zFr,bSs]
   | some f =>
    have hm:f∈d.frags:=List.mem_of_find?_eq_some hf
    have h1:=zai f
    have h2:=zaY hm
    simp only[frS,hf,Option.getD_some,zq] at hb ⊢
    omega) (hl x hx) (by have:=zi7 hx;omega) typ no).mono (by omega)
 rcases zre s d.ops _ l h with h1|⟨o,ho,typ,no,rfl⟩
 ·rcases zqr s d.frags _ l h1 with h2|⟨f,hf,typ,no,rfl⟩
  ·cases h2
  ·exact hex _ (by simp only[zJ,List.mem_append,List.mem_map];exact .inr ⟨f,hf,rfl⟩) typ no
 ·exact hex _ (by simp only[zJ,List.mem_append,List.mem_map];exact .inl ⟨o,ho,rfl⟩) typ no
theorem zv4 (s:SchD) (st:RSt) (f:FragD):(rFr s st f).2.2≤st.2.2+bF f∧(rFr s st f).2.1.length≤st.2.1.length+1:=by
 unfold rFr
 split
 ·exact⟨by omega,by omega⟩
 ·have:=zdz s f.sels f.on st.2.2
  have:=zai f
  exact⟨by simp only;omega,by simp⟩
theorem zwm (s:SchD) (st:RSt) (o:OpD):(rOp s st o).2.2≤st.2.2+bO o∧(rOp s st o).2.1.length≤st.2.1.length+1:=by
 have:=zdz s o.sels (yY s o) st.2.2
 exact⟨by simp only[rOp,bO];omega,by simp[rOp]⟩
structure MkH (s:SchD) (b bf bs bp:Nat) (st:RSt) (o:Own) (H:zb):Prop where
 look:H b=some (.cells (zl s++[.int .i64 st.2.2,.mp bf,.mp bs,.mp bp]))
 frs:∃ es,H bf=some (.map (.one .s) es)∧zas es=cFr st.1
 sh:H bs=some (.map kPr [])
 pr:H bp=some (.map kPr [])
 ne:bs≠bp
 own:zK H o st.2.1.length 1
theorem MkH.keep {s:SchD} {b bf bs bp:Nat} {st:RSt} {o:Own} {H H':zb} (h:MkH s b bf bs bp st o H) (hk:∀ c x,H c=some x→H' c=some x):MkH s b bf bs bp st o H':=by
 obtain⟨es,h1,h2⟩:=h.frs
 exact⟨hk _ _ h.look,⟨es,hk _ _ h1,h2⟩,hk _ _ h.sh,hk _ _ h.pr,h.ne,zdD h.own fun c k z hc=>hk _ _ hc⟩
theorem MkH.items {s:SchD} {b bf bs bp no' n:Nat} {st:RSt} {o o2:Own} {H H':zb} (h:MkH s b bf bs bp st o H) (hk:ItK H b (zl s) no' [.mp bf,.mp bs,.mp bp] H' o2 n):MkH s b bf bs bp (st.1,st.2.1,no') o H':=by
 obtain⟨es,h1,h2⟩:=h.frs
 have n1:bf≠b:=fun e=>by have:=h.look;rw[← e,h1] at this;cases this
 have n2:bs≠b:=fun e=>by have:=h.look;rw[← e,h.sh] at this;cases this
 have n3:bp≠b:=fun e=>by have:=h.look;rw[← e,h.pr] at this;cases this
 refine⟨hk.look,⟨es,hk.kept _ _ h1 n1,h2⟩,hk.kept _ _ h.sh n2,hk.kept _ _ h.pr n3,h.ne,zdD h.own fun c k z hc=>hk.kept _ _ hc fun e=>?_⟩
 have:=h.look;rw[← e,hc] at this;cases this
theorem MkH.app {s:SchD} {b bf bs bp n2:Nat} {st:RSt} {o o2:Own} {ls:List (List ItD)} {H H':zb} (h:MkH s b bf bs bp st o H) (h':OwnS H o H' o2 n2 1) (hn:n2=ls.length):MkH s b bf bs bp (st.1,ls,st.2.2) o2 H':=by
 subst hn
 obtain⟨es,h1,h2⟩:=h.frs
 have hm:∀ c kt es,H c=some (.map kt es)→∀ d,o≠.tip c d:=fun c kt es hc d e=>by
  have:=h.own;subst e
  have h2:H c=some (.tip (d+st.2.1.length) 1):=this
  rw[hc] at h2;cases h2
 exact⟨h'.kept _ _ h.look (zfT h.own h.look),⟨es,h'.kept _ _ h1 (hm _ _ _ h1),h2⟩,h'.kept _ _ h.sh (hm _ _ _ h.sh),h'.kept _ _ h.pr (hm _ _ _ h.pr),h.ne,h'.own⟩
theorem MkH.put {s:SchD} {b bf bs bp:Nat} {st:RSt} {o:Own} {H:zb} {es:List (AV×AV)} {n:List UInt8} {it:List ItD} {o2:Own} (h:MkH s b bf bs bp st o H) (h1:H bf=some (.map (.one .s) es)) (h2:zas es=cFr st.1) (hf:yP st.1 n=none) :
  MkH s b bf bs bp (st.1++[(n,it)],st.2.1,st.2.2) o (H.upd bf (.map (.one .s) (zbs es (.str n) (.sl o2 10 (yB it))))):=by
 have n1:b≠bf:=fun e=>by have:=h.look;rw[e,h1] at this;cases this
 have n2:bs≠bf:=fun e=>by have:=h.sh;rw[e,h1] at this;cases this
 have n3:bp≠bf:=fun e=>by have:=h.pr;rw[e,h1] at this;cases this
 refine⟨by simp only[zb.upd,n1,if_false];exact h.look,⟨_,upd_same ..,?_⟩,by simp only[zb.upd,n2,if_false];exact h.sh,by simp only[zb.upd,n3,if_false];exact h.pr,h.ne,zdD h.own fun c k z hc=>?_⟩
 ·rw[zhi,h2]
  exact znE n it st.1 hf
 ·have:c≠bf:=fun e=>by subst e;rw[h1] at hc;cases hc
  simp only[zb.upd,this,if_false];exact hc
theorem MkH.low {s:SchD} {b bf bs bp:Nat} {st:RSt} {o:Own} {H:zb} (h:MkH s b bf bs bp st o H):∃ B,Low B H∧LkH s st.1 b bf bs bp st.2.2 ([],[]) B:=by
 obtain⟨es,h1,h2⟩:=h.frs
 have n1:b≠bf:=fun e=>by have:=h.look;rw[e,h1] at this;cases this
 have n2:bs≠bf:=fun e=>by have:=h.sh;rw[e,h1] at this;cases this
 have n3:bp≠bf:=fun e=>by have:=h.pr;rw[e,h1] at this;cases this
 refine⟨_,Low.map h1,⟨by simp only[zb.upd,n1,if_false];exact h.look,by rw[upd_same,h2],by simp only[zb.upd,n2,if_false];exact h.sh,by simp only[zb.upd,n3,if_false];exact h.pr,h.ne⟩⟩
theorem mgC (s:SchD) (d:DocD) (n:Int) (hs:zI s≤Lim) (hb:yW d≤Lim) (hb1:zq d≤1073741824) (hl:∀ x∈zJ d,Sz d 40 x):zg Tryz.prog 40 [.agg (zl s),.agg (zP d),.int .i64 n] (.bool (zaa s d n)):=by
 have hloop:=zqJ d hb
 have hex:=zn0 (s:=s) hl (by simp only[Lim];omega)
 have hls:=fun b bf bs bp no l h=>lsC s (yp s d).1 b bf bs bp no hs 64 l (Al4 _) (hex l h)
 have hit:=fun b bf bs bp l typ no H (h1:no+bSs l≤1073741824) h2=>zvl s hs b (.mp bf) (.mp bs) (.mp bp) (bSs l) l typ no H (Al4 _) h1 h2
 have hroot:=fun o=>zp9 s o
 have hbd:bOs d.ops+bFs d.frags=zq d:=rfl
 have l1:=ZW d.frags
 have l2:=Z8 d.ops
 have m1:=yx d.frags
 have m2:=y9 d.ops
 have eN:zaa s d n=(decide (n=24)&&(!zav d&&(zdT (lsF s (yp s d).1 64) (yp s d).2.1 ([],[])).1)):=rfl
 generalize zaa s d n=F at *
 generalize zav d=lp at *
 have eA:yp s d=d.ops.foldl (rOp s) (d.frags.foldl (rFr s) ([],[],0)):=rfl
 have hnoF:=zv4 s
 have hnoO:=zwm s
 have hcd:zP d=[.sl .no 5 (cOs d.ops),.sl .no 4 (cFs d.frags)]:=rfl
 have hcs:∃ x1 x2 x3,zl s=[x1,x2,x3]:=⟨_,_,_,rfl⟩
 have hfit:∀ s,KT.fits (.one .s) (.str s)=true:=fun _=>rfl
 obtain⟨sd,sq,sm⟩:=s
 generalize hS:(⟨sd,sq,sm⟩:SchD)=s at *
 have hcs:zl s=[.sl .no 6 (cEs sd),.str sq,.str sm]:=by rw[← hS];rfl
 simp only[hcd] at hloop ⊢
 simp only[hcs,Al6,zcU] at hit hroot ⊢
 have look:∀ {b bf bs bp st o H},MkH s b bf bs bp st o H→H b=some (.cells [.sl .no 6 (cEs sd),.str sq,.str sm,.int .i64 st.2.2,.mp bf,.mp bs,.mp bp]):=fun h=>by have:=h.look;rwa [hcs] at this
 refine zg.go ir40 ck40 (Al4 _) fun KP Q hQ=>?_
 by_cases hn:n=24
 case neg =>
  simp(disch:=omega) only[ir40,hn,go_sem]
  exact hQ _ _ _ _ nofun rfl (by simp[zd,ze,AV.strip,AV.strip1,eN,hn])
 have hn':=eq_true hn
 simp only[hn,decide_true,Bool.true_and] at eN
 simp(disch:=omega) only[ir40,hn',go_sem]
 refine za hloop ?_
 cases lp with
 | true =>
  simp(disch:=omega) only[go_sem]
  exact hQ _ _ _ _ nofun rfl (by simp[zd,ze,AV.strip,AV.strip1,eN])
 | false =>
 simp only[Bool.not_false,Bool.true_and] at eN
 simp(disch:=omega) only[go_sem]
 refine zc fun bf hbf=>?_
 simp(disch:=omega) only[go_sem]
 refine zc fun bs hbs=>?_
 simp(disch:=omega) only[go_sem]
 refine zc fun bp hbp=>?_
 simp(disch:=omega) only[go_sem]
 refine zc fun b hb=>?_
 have q1:bf≠bs:=fun e=>by subst e;simp[zb.upd] at hbs
 have q2:bf≠bp:=fun e=>by subst e;simp[zb.upd,q1] at hbp
 have q3:bs≠bp:=fun e=>by subst e;simp[zb.upd] at hbp
 have q4:bf≠b:=fun e=>by subst e;simp[zb.upd,q1,q2] at hb
 have q5:bs≠b:=fun e=>by subst e;simp[zb.upd,q3] at hb
 have q6:bp≠b:=fun e=>by subst e;simp[zb.upd] at hb
 have hM0:∀ H0:zb,H0 b=some (.cells [.sl .no 6 (cEs sd),.str sq,.str sm,.int .i64 0,.mp bf,.mp bs,.mp bp])→H0 bf=some (.map (.one .s) [])→H0 bs=some (.map kPr [])→H0 bp=some (.map kPr [])→MkH s b bf bs bp ([],[],0) .nil H0:=fun H0 g1 g2 g3 g4=>⟨by rw[hcs];exact g1,⟨[],g2,rfl⟩,g3,g4,q3,rfl⟩
 generalize hFR:d.frags.foldl (rFr s) ([],[],0)=FR at *
 generalize hRA:yp s d=RA at *
 simp(disch:=omega) only[l1,q1,q2,q3,q4,q5,q6,Ne.symm q1,Ne.symm q2,Ne.symm q3,Ne.symm q4,Ne.symm q5,Ne.symm q6,go_sem]
 refine zf d.frags 32 (fun x:Own×RSt=>[(8,.sl x.1 1 (cIL x.2.2.1))]) (fun done rest x H'=>rest.foldl (rFr s) x.2=FR∧x.2.2.1.length≤done.length∧x.2.2.2≤bFs done∧MkH s b bf bs bp x.2 x.1 H') (.nil,([],[],0)) (by simp(disch:=omega) only[cIL,List.map,go_sem]) ⟨hFR,by simp,by simp,hM0 _ (by simp[zb.upd]) (by simp[zb.upd,q1,q2,q4]) (by simp[zb.upd,q3,q5]) (by simp[zb.upd,q6])⟩ ?_ ?_
 ·rintro⟨o1,fr,ls,no⟩ H1 J ⟨hn1,hle1,hle2,hM1⟩ hlt
  simp only[List.foldl] at hn1
  simp only at hle1 hle2
  subst hn1
  simp(disch:=omega) only[l1,hlt,l2,go_sem]
  refine zf d.ops 74 (fun x:Own×RSt=>[(8,.sl x.1 1 (cIL x.2.2.1))]) (fun done rest x H'=>rest.foldl (rOp s) x.2=RA∧x.2.2.1.length≤d.frags.length+done.length∧x.2.2.2≤bFs d.frags+bOs done∧MkH s b bf bs bp x.2 x.1 H') (o1,(fr,ls,no)) (by simp(disch:=omega) only[go_sem]) ⟨eA.symm,by simpa using hle1,by simp only;omega,hM1⟩ ?_ ?_
  ·rintro⟨o2,fr2,ls2,no2⟩ H2 J2 ⟨hn2,hle3,hle4,hM2⟩ hlt2
   simp only[List.foldl] at hn2
   simp only at hle3 hle4
   subst hn2
   obtain⟨B,hlow,hLk⟩:=hM2.low
   simp only at hLk eN hls
   have l3:=zjz ls2
   generalize hR:zdT (lsF s fr2 64) ls2 ([],[])=R at *
   simp(disch:=omega) only[l2,hlt2,l3,go_sem]
   refine zf ls2 91 (fun _:yd=>[]) (fun done rest S' H'=>zdT (lsF s fr2 64) rest S'=R∧∃ B,Low B H'∧LkH s fr2 b bf bs bp no2 S' B) ([],[]) (by simp(disch:=omega) only[go_sem]) ⟨hR,B,hlow,hLk⟩ ?_ ?_
   ·rintro S3 H3 J3 ⟨hn3,_⟩ hlt3
    simp only[zdT] at hn3
    rw[← hn3] at eN
    simp(disch:=omega) only[l3,hlt3,go_sem]
    exact hQ _ _ _ _ nofun rfl (by simp[zd,ze,AV.strip,AV.strip1,eN])
   ·rintro done3 x3 rest3 S3 H3 J3 hd3 hlt3 _ ⟨hn3,B3,hlow3,hLk3⟩ hJ3
    have hg3:=ztt hd3
    have hcall:=zi.lowH hlow3 (hls b bf bs bp no2 x3 (by rw[hd3];simp) S3 B3 hLk3)
    simp only[zdT] at hn3
    generalize hG:lsF s fr2 64 x3 S3=G at *
    obtain⟨gr,gS⟩:=G
    simp(disch:=omega) only[l3,hlt3,hg3,go_sem]
    refine yn (XP:=fun _ _=>False) hcall (fun v H7 ⟨e7,hH7,hK7⟩=>?_) (fun _ _ h=>h.elim)
    subst e7
    cases gr with
    | true =>
     simp only at hn3
     simp(disch:=omega) only[go_sem]
     exact goJ (hJ3 gS H7 ⟨hn3,H7,Low.refl _,hH7⟩) (by simp(disch:=omega) only[wrap64,go_sem])
    | false =>
     simp only at hn3
     rw[← hn3] at eN
     simp(disch:=omega) only[go_sem]
     exact hQ _ _ _ _ nofun rfl (by simp[zd,ze,AV.strip,AV.strip1,eN])
  ·rintro done2 x2 rest2 ⟨o2,fr2,ls2,no2⟩ H2 J2 hd2 hlt2 _ ⟨hn2,hle3,hle4,hM2⟩ hJ2
   have hg2:=Yk hd2
   have hbm:=YE done2 x2 rest2
   rw[← hd2] at hbm
   have hb2:bOs (done2++[x2])=bOs done2+bO x2:=by simp[bOs]
   rw[List.foldl_cons] at hn2
   simp only at hle3 hle4
   have hrx:=hroot x2
   have hno2:=hnoO (fr2,ls2,no2) x2
   have erx:rOp s (fr2,ls2,no2) x2=(fr2,ls2++[(zM s x2.sels (yY s x2) no2).1],(zM s x2.sels (yY s x2) no2).2):=rfl
   rw[erx] at hn2 hno2
   simp only at hno2
   obtain⟨k,nm,vs,ds,ss⟩:=x2
   simp only[bO] at hbm hb2 hno2
   generalize yY s ⟨k,nm,vs,ds,ss⟩=rt at *
   rw[zap] at hg2 hrx
   have lo2:=look hM2
   have l3:=zjz ls2
   simp only at lo2
   have hol:=y9 done2
   simp(disch:=omega) only[l2,hlt2,hg2,go_sem]
   refine zc fun b14 hb14=>?_
   have w1:b≠b14:=fun e=>by subst e;rw[lo2] at hb14;cases hb14
   have hM3:=hM2.keep (ZJ (x:=.cells [.int .i64 k,.str nm,.sl .no 10 (cWs vs),.sl .no 2 (cDs ds),.sl .no 7 (cSs ss)]) hb14)
   have hI:=hit b bf bs bp ss rt no2 _ (by omega) (look hM3)
   generalize hIT:zM s ss rt no2=IT at *
   simp(disch:=omega) only[w1,Ne.symm w1,go_sem]
   refine za hrx ?_
   simp(disch:=omega) only[w1,Ne.symm w1,go_sem]
   refine yn (XP:=fun _ _=>False) hI (fun v H4 ⟨o4,e4,hk4⟩=>?_) (fun _ _ h=>h.elim)
   subst e4
   have hM4:=hM3.items (by rw[hcs];exact hk4)
   simp only at hM4
   simp(disch:=omega) only[go_sem]
   refine zp (by rw[l3];exact hM4.own) ?_ ?_ fun o' H5 hs5=>?_
   ·simp only[l3,Al2,Al3];omega
   ·simp only[l3,Al2,Al3,maxLen];omega
   simp only[l3,Al2,Al3,Nat.zero_add] at hs5
   have e1:cIL ls2++[[AV.sl .no 10 (yB IT.1)]]=cIL (ls2++[IT.1]):=by simp[cIL]
   have hM5:=hM4.app (ls:=ls2++[IT.1]) hs5 (by simp)
   simp(disch:=omega) only[wrap64,e1,go_sem]
   exact goJ (hJ2 (o',(fr2,ls2++[IT.1],IT.2)) H5 ⟨hn2,by simp;omega,by simp only;omega,hM5⟩) (by simp(disch:=omega) only[wrap64,go_sem])
 ·rintro done x rest ⟨o1,fr,ls,no⟩ H1 J hd hlt _ ⟨hn1,hle1,hle2,hM1⟩ hJ
  have hg:=Yl hd
  have hbm:=zgB done x rest
  rw[← hd] at hbm
  have hb2:bFs (done++[x])=bFs done+bF x:=by simp[bFs]
  rw[List.foldl_cons] at hn1
  simp only at hle1 hle2
  have hno2:=hnoF (fr,ls,no) x
  obtain⟨es,hes1,hes2⟩:=hM1.frs
  simp only at hes2
  have hmg:(zaV es (.str x.nm)).map AV.strip1=(yP fr x.nm).map fun e=>.sl .no 10 (yB e.2):=by rw[← zhR,hes2,zkV]
  have hgs:=fun v=>zlK x.nm v es
  have erx:rFr s (fr,ls,no) x=match yP fr x.nm with
   | some _=>(fr,ls,no)
   | none=>(fr++[(x.nm,(zM s x.sels x.on no).1)],ls++[(zM s x.sels x.on no).1],(zM s x.sels x.on no).2):=rfl
  obtain⟨nm,on,ds,ss⟩:=x
  simp only at hmg erx hgs
  simp only[bF] at hbm hb2 hno2
  rw[Z7] at hg
  have lo1:=look hM1
  have l3:=zjz ls
  simp only at lo1
  have hol:=yx done
  simp(disch:=omega) only[l1,hlt,hg,go_sem]
  refine zc fun b10 hb10=>?_
  have w1:b≠b10:=fun e=>by subst e;rw[lo1] at hb10;cases hb10
  have w2:bf≠b10:=fun e=>by subst e;rw[hes1] at hb10;cases hb10
  have hM3:=hM1.keep (ZJ (x:=.cells [.str nm,.str on,.sl .no 2 (cDs ds),.sl .no 7 (cSs ss)]) hb10)
  cases hme:zaV es (.str nm) with
  | some w =>
   rw[hme] at hmg
   cases hff:yP fr nm with
   | none=>rw[hff] at hmg;simp at hmg
   | some e =>
    rw[hff] at erx
    rw[erx] at hn1 hno2
    simp only at hno2
    simp(disch:=omega) only[w1,Ne.symm w1,w2,Ne.symm w2,lo1,hes1,hme,hfit,YR,Option.getD_some,Option.isSome_some,go_sem]
    exact goJ (hJ (o1,(fr,ls,no)) _ ⟨hn1,by simp;omega,by simp only;omega,hM3⟩) (by simp(disch:=omega) only[wrap64,go_sem])
  | none =>
   rw[hme] at hmg
   cases hff:yP fr nm with
   | some e=>rw[hff] at hmg;simp at hmg
   | none =>
    rw[hff] at erx
    rw[erx] at hn1 hno2
    simp only at hno2
    have hI:=hit b bf bs bp ss on no _ (by omega) (look hM3)
    generalize hIT:zM s ss on no=IT at *
    simp(disch:=omega) only[w1,Ne.symm w1,w2,Ne.symm w2,lo1,hes1,hme,hfit,YR,Option.getD_none,Option.isSome_none,go_sem]
    refine yn (XP:=fun _ _=>False) hI (fun v H4 ⟨o4,e4,hk4⟩=>?_) (fun _ _ h=>h.elim)
    subst e4
    have hM4:=hM3.items (by rw[hcs];exact hk4)
    simp only at hM4
    have c10:H4 b10=some (.cells [.str nm,.str on,.sl .no 2 (cDs ds),.sl .no 7 (cSs ss)]):=hk4.kept b10 _ (upd_same ..) (Ne.symm w1)
    have hbf4:H4 bf=some (.map (.one .s) es):=hk4.kept bf _ (by simp only[zb.upd,w2,if_false];exact hes1) (fun e=>by rw[e,lo1] at hes1;cases hes1)
    have lo4:=look hM4
    simp only at lo4
    have nfb:bf≠b:=fun e=>by rw[e,lo1] at hes1;cases hes1
    have hM5:=hM4.put (n:=nm) (it:=IT.1) (o2:=o4) hbf4 hes2 hff
    have lo5:=look hM5
    simp only at hM5 lo5
    have hg5:=hgs (.sl o4 10 (yB IT.1))
    simp(disch:=omega) only[c10,hbf4,lo4,nfb,Ne.symm nfb,w1,Ne.symm w1,w2,Ne.symm w2,hfit,hg5,YR,Option.getD_some,go_sem]
    refine zp (by rw[l3];exact hM5.own) ?_ ?_ fun o' H6 hs6=>?_
    ·simp only[l3,Al2,Al3];omega
    ·simp only[l3,Al2,Al3,maxLen];omega
    simp only[l3,Al2,Al3,Nat.zero_add] at hs6
    have e1:cIL ls++[[AV.sl .no 10 (yB IT.1)]]=cIL (ls++[IT.1]):=by simp[cIL]
    have hM6:=hM5.app (ls:=ls++[IT.1]) hs6 (by simp)
    simp(disch:=omega) only[wrap64,e1,go_sem]
    exact goJ (hJ (o',(fr++[(nm,IT.1)],ls++[IT.1],IT.2)) H6 ⟨hn1,by simp;omega,by simp only;omega,hM6⟩) (by simp(disch:=omega) only[wrap64,go_sem])
abbrev TSe:=List UInt8×SelD
def zcT (d:DocD) (n:List UInt8):List UInt8:=((zw d n).getD zFr).on
def yG (s:SchD) (d:DocD) (g:List UInt8→List SelD→List (List UInt8)→List TSe×List (List UInt8)) (typ:List UInt8) (acc:List TSe×List (List UInt8)):SelD→List TSe×List (List UInt8)
 | .mk k al nm args dirs on sels =>
  if k=0 then (acc.1++[(typ,.mk k al nm args dirs on sels)],acc.2)
  else if k=2 then (acc.1++(g (zy s typ (.mk k al nm args dirs on sels)) sels acc.2).1,(g (zy s typ (.mk k al nm args dirs on sels)) sels acc.2).2)
  else if k=1∧zL nm acc.2=false then (acc.1++(g (zcT d nm) (frS d nm) (acc.2++[nm])).1,(g (zcT d nm) (frS d nm) (acc.2++[nm])).2)
  else acc
def flq (s:SchD) (d:DocD):Nat→List UInt8→List SelD→List (List UInt8)→List TSe×List (List UInt8)
 | 0,_,_,seen=>([],seen)
 | n+1,typ,l,seen=>l.foldl (yG s d (flq s d n) typ) ([],seen)
def toT (x:ItD):TSe:=(x.typ,x.x)
def zf1 (s:SchD) (x:ItD):Prop:=∃ k,x.sub=(zM s x.x.sels (zy s x.typ x.x) k).1
def zgs (s:SchD) (d:DocD) (fr:List (List UInt8×List ItD)):Prop:=∀ n,∃ no,frL fr n=(zM s (frS d n) (zcT d n) no).1
theorem zjR {s:SchD} {d:DocD} {fr:List (List UInt8×List ItD)} (hfr:zgs s d fr):∀(n:Nat) (l:List SelD) (typ:List UInt8) (no:Nat) (seen:List (List UInt8)),
  ((flF fr n (zM s l typ no).1 seen).1.map toT,(flF fr n (zM s l typ no).1 seen).2)=flq s d n typ l seen∧∀ x∈(flF fr n (zM s l typ no).1 seen).1,zf1 s x
 | 0,l,typ,no,seen=>⟨rfl,fun x hx=>by cases hx⟩
 | n+1,l,typ,no,seen=>by
  have key:∀(l:List SelD) (no:Nat) (acc:List ItD×List (List UInt8)),(∀ x∈acc.1,zf1 s x) →
    (((zM s l typ no).1.foldl (ZN (flF fr n) fr) acc).1.map toT,((zM s l typ no).1.foldl (ZN (flF fr n) fr) acc).2)=l.foldl (yG s d (flq s d n) typ) (acc.1.map toT,acc.2)∧∀ x∈((zM s l typ no).1.foldl (ZN (flF fr n) fr) acc).1,zf1 s x:=by
   intro l
   induction l with
   | nil=>intro no acc h;exact⟨rfl,h⟩
   | cons x r ih =>
    intro no acc h
    obtain⟨k,al,nm,args,dirs,on,sels⟩:=x
    simp only[zM,itS,List.foldl_cons]
    generalize hT:zM s sels (zy s typ (.mk k al nm args dirs on sels)) (no+1)=T
    have hst:yG s d (flq s d n) typ (acc.1.map toT,acc.2) (.mk k al nm args dirs on sels)=(((ZN (flF fr n) fr acc (.mk (no+1) (.mk k al nm args dirs on sels) typ T.1)).1).map toT,(ZN (flF fr n) fr acc (.mk (no+1) (.mk k al nm args dirs on sels) typ T.1)).2)∧∀ x∈(ZN (flF fr n) fr acc (.mk (no+1) (.mk k al nm args dirs on sels) typ T.1)).1,zf1 s x:=by
     have h1:=zjR hfr n sels (zy s typ (.mk k al nm args dirs on sels)) (no+1) acc.2
     rw[hT] at h1
     obtain⟨nf,hnf⟩:=hfr nm
     have h2:=zjR hfr n (frS d nm) (zcT d nm) nf (acc.2++[nm])
     rw[← hnf] at h2
     simp only[yG,ZN]
     split
     ·refine⟨by simp[toT,ItD.typ,ItD.x],fun x hx=>?_⟩
      rcases List.mem_append.1 hx with h3|h3
      ·exact h x h3
      ·simp only[List.mem_singleton] at h3
       subst h3
       exact⟨no+1,by simp only[ItD.sub,ItD.x,ItD.typ,SelD.sels];rw[hT]⟩
     ·split
      ·refine⟨by rw[← h1.1];simp,fun x hx=>?_⟩
       rcases List.mem_append.1 hx with h3|h3
       ·exact h x h3
       ·exact h1.2 x h3
      ·split
       ·refine⟨by rw[← h2.1];simp,fun x hx=>?_⟩
        rcases List.mem_append.1 hx with h3|h3
        ·exact h x h3
        ·exact h2.2 x h3
       ·exact⟨rfl,h⟩
    have:=ih T.2 (ZN (flF fr n) fr acc (.mk (no+1) (.mk k al nm args dirs on sels) typ T.1)) hst.2
    rw[hst.1]
    exact this
  exact key l no ([],seen) (fun x hx=>by cases hx)
mutual
def zgK:ItD→List ItD
 | .mk no x typ sub=>.mk no x typ sub::YJ sub
def YJ:List ItD→List ItD
 | []=>[]
 | x::r=>zgK x++YJ r
end
theorem zrY (x:ItD):x∈zgK x:=by cases x;simp[zgK]
theorem zhJ {x:ItD}:∀ {l:List ItD},x∈l→x∈YJ l
 | y::l,h=>by
  simp only[YJ,List.mem_append]
  rcases List.mem_cons.1 h with rfl|h
  ·exact .inl (zrY x)
  ·exact .inr (zhJ h)
mutual
theorem zrH:∀(x y z:ItD),y∈zgK x→z∈YJ y.sub→z∈zgK x
 | .mk no x typ sub,y,z,h,hz=>by
  simp only[zgK,List.mem_cons] at h ⊢
  rcases h with rfl|h
  ·exact .inr hz
  ·exact .inr (zeK sub y z h hz)
theorem zeK:∀(l:List ItD) (y z:ItD),y∈YJ l→z∈YJ y.sub→z∈YJ l
 | [],y,z,h,_=>by simp[YJ] at h
 | x::r,y,z,h,hz=>by
  simp only[YJ,List.mem_append] at h ⊢
  rcases h with h|h
  ·exact .inl (zrH x y z h hz)
  ·exact .inr (zeK r y z h hz)
end
mutual
theorem ztA (s:SchD):∀(x:SelD) (typ:List UInt8) (no:Nat),no<(itS s x typ no).2∧(∀ y∈zgK (itS s x typ no).1,(no<y.no∧y.no≤(itS s x typ no).2)∧zf1 s y)∧((zgK (itS s x typ no).1).map ItD.no).Nodup
 | .mk k al nm args dirs on sels,typ,no=>by
  obtain⟨h1,h2,h3⟩:=zha s sels (zy s typ (.mk k al nm args dirs on sels)) (no+1)
  simp only[itS]
  generalize hT:zM s sels (zy s typ (.mk k al nm args dirs on sels)) (no+1)=T at *
  refine⟨by omega,fun y hy=>?_,?_⟩
  ·simp only[zgK,List.mem_cons] at hy
   rcases hy with rfl|hy
   ·exact⟨⟨by simp only[ItD.no];omega,by simp only[ItD.no];omega⟩,no+1,by simp only[ItD.sub,ItD.x,ItD.typ,SelD.sels];rw[hT]⟩
   ·have:=h2 y hy
    exact⟨by omega,this.2⟩
  ·simp only[zgK,List.map_cons,List.nodup_cons,ItD.no]
   refine⟨fun hm=>?_,h3⟩
   obtain⟨y,hy,e⟩:=List.mem_map.1 hm
   have:=(h2 y hy).1
   omega
theorem zha (s:SchD):∀(l:List SelD) (typ:List UInt8) (no:Nat),no≤(zM s l typ no).2∧(∀ y∈YJ (zM s l typ no).1,(no<y.no∧y.no≤(zM s l typ no).2)∧zf1 s y)∧((YJ (zM s l typ no).1).map ItD.no).Nodup
 | [],typ,no=>by simp[zM,YJ]
 | x::r,typ,no=>by
  obtain⟨h1,h2,h3⟩:=ztA s x typ no
  obtain⟨g1,g2,g3⟩:=zha s r typ (itS s x typ no).2
  simp only[zM,YJ]
  refine⟨by omega,fun y hy=>?_,?_⟩
  ·rcases List.mem_append.1 hy with h|h
   ·have:=h2 y h
    exact⟨by omega,this.2⟩
   ·have:=g2 y h
    exact⟨by omega,this.2⟩
  ·rw[List.map_append]
   refine List.nodup_append.2 ⟨h3,g3,fun a ha b hb e=>?_⟩
   obtain⟨y,hy,rfl⟩:=List.mem_map.1 ha
   obtain⟨z,hz,rfl⟩:=List.mem_map.1 hb
   have:=(h2 y hy).1
   have:=(g2 z hz).1
   omega
end
def UI (s:SchD) (d:DocD):List ItD:=(yp s d).2.1.flatMap YJ
structure RInv (s:SchD) (st:RSt):Prop where
 ok:∀ y∈st.2.1.flatMap YJ,(0<y.no∧y.no≤st.2.2)∧zf1 s y
 nd:((st.2.1.flatMap YJ).map ItD.no).Nodup
 fr:∀ n,frL st.1 n=[]∨frL st.1 n∈st.2.1
theorem RInv.add {s:SchD} {st:RSt} (h:RInv s st) (l:List SelD) (typ:List UInt8) (fr:List (List UInt8×List ItD)) (hfr:∀ n,frL fr n=frL st.1 n∨frL fr n=(zM s l typ st.2.2).1):RInv s (fr,st.2.1++[(zM s l typ st.2.2).1],(zM s l typ st.2.2).2):=by
 obtain⟨g1,g2,g3⟩:=zha s l typ st.2.2
 refine⟨fun y hy=>?_,?_,fun n=>?_⟩
 ·simp only[List.flatMap_append,List.flatMap_cons,List.flatMap_nil,List.append_nil,List.mem_append] at hy
  rcases hy with h1|h1
  ·have:=h.ok y h1
   exact⟨by simp only;omega,this.2⟩
  ·have:=g2 y h1
   exact⟨by simp only;omega,this.2⟩
 ·simp only[List.flatMap_append,List.flatMap_cons,List.flatMap_nil,List.append_nil,List.map_append]
  refine List.nodup_append.2 ⟨h.nd,g3,fun a ha b hb e=>?_⟩
  obtain⟨y,hy,rfl⟩:=List.mem_map.1 ha
  obtain⟨z,hz,rfl⟩:=List.mem_map.1 hb
  have:=(h.ok y hy).1
  have:=(g2 z hz).1
  omega
 ·rcases hfr n with e|e
  ·rw[e]
   rcases h.fr n with h1|h1
   ·exact .inl h1
   ·exact .inr (ZZ _ h1)
  ·rw[e]
   exact .inr (List.mem_append_right _ (by simp))
theorem RInv.rFr {s:SchD} {st:RSt} (h:RInv s st) (f:FragD):RInv s (rFr s st f):=by
 unfold Go.Proofs.YtbjofkamhijjlaaGreatDoor.rFr
 split
 ·exact h
 ·rename_i hf
  refine h.add f.sels f.on _ fun n=>?_
  rw[zeo,zcG,zeo]
  cases hx:yP st.1 n with
  | some e=>left;rfl
  | none =>
   by_cases e:n=f.nm
   ·right;simp[e]
   ·left;simp[e]
theorem RInv.rOp {s:SchD} {st:RSt} (h:RInv s st) (o:OpD):RInv s (rOp s st o):=h.add o.sels (yY s o) st.1 fun n=>.inl rfl
theorem zhm (s:SchD) (d:DocD):RInv s (yp s d):=by
 have h1:∀(fs:List FragD) (st:RSt),RInv s st→RInv s (fs.foldl (Go.Proofs.YtbjofkamhijjlaaGreatDoor.rFr s) st):=by
  intro fs
  induction fs with
  | nil=>intro st h;exact h
  | cons f fs ih=>intro st h;exact ih _ (h.rFr f)
 have h2:∀(os:List OpD) (st:RSt),RInv s st→RInv s (os.foldl (Go.Proofs.YtbjofkamhijjlaaGreatDoor.rOp s) st):=by
  intro fs
  induction fs with
  | nil=>intro st h;exact h
  | cons f fs ih=>intro st h;exact ih _ (h.rOp f)
 exact h2 d.ops _ (h1 d.frags _ ⟨fun y hy=>by simp at hy,by simp,fun n=>.inl rfl⟩)
theorem ztk {s:SchD} {d:DocD} {x:ItD} (h:x∈UI s d):zf1 s x:=((zhm s d).ok x h).2
theorem zi6 {α:Type} {f:α→Nat}:∀ {l:List α},(l.map f).Nodup→∀ x∈l,∀ y∈l,f x=f y→x=y
 | a::l,h,x,hx,y,hy,e=>by
  simp only[List.map_cons,List.nodup_cons] at h
  rcases List.mem_cons.1 hx with e1|h1
  ·rcases List.mem_cons.1 hy with e2|h2
   ·rw[e1,e2]
   ·exact absurd (List.mem_map.2 ⟨y,h2,by rw[← e,e1]⟩) h.1
  ·rcases List.mem_cons.1 hy with e2|h2
   ·exact absurd (List.mem_map.2 ⟨x,h1,by rw[e,e2]⟩) h.1
   ·exact zi6 h.2 x h1 y h2 e
theorem zji {s:SchD} {d:DocD} {x y:ItD} (hx:x∈UI s d) (hy:y∈UI s d) (e:x.no=y.no):x=y:=zi6 (zhm s d).nd x hx y hy e
theorem zgI {fr:List (List UInt8×List ItD)}:∀(n:Nat) (l:List ItD) (seen:List (List UInt8)),∀ y∈(flF fr n l seen).1,y∈YJ l∨∃ nm,y∈YJ (frL fr nm)
 | 0,l,seen,y,h=>by cases h
 | n+1,l,seen,y,h=>by
  have key:∀(l:List ItD) (acc:List ItD×List (List UInt8)),∀ y∈(l.foldl (ZN (flF fr n) fr) acc).1,y∈acc.1∨y∈YJ l∨∃ nm,y∈YJ (frL fr nm):=by
   intro l
   induction l with
   | nil=>intro acc y h;exact .inl h
   | cons x r ih =>
    intro acc y h
    rw[List.foldl_cons] at h
    rcases ih _ y h with h1|h1|h1
    ·obtain⟨no,⟨k,al,nm,args,dirs,on,sels⟩,typ,sub⟩:=x
     simp only[ZN] at h1
     have hsub:∀ z,z∈YJ sub→z∈YJ (.mk no (.mk k al nm args dirs on sels) typ sub::r):=fun z hz=>by simp only[YJ,zgK,List.mem_append,List.mem_cons];exact .inl (.inr hz)
     split at h1
     ·rcases List.mem_append.1 h1 with h2|h2
      ·exact .inl h2
      ·simp only[List.mem_singleton] at h2
       subst h2
       exact .inr (.inl (zhJ (Zr ..)))
     ·split at h1
      ·rcases List.mem_append.1 h1 with h2|h2
       ·exact .inl h2
       ·rcases zgI n sub acc.2 y h2 with h3|h3
        ·exact .inr (.inl (hsub y h3))
        ·exact .inr (.inr h3)
      ·split at h1
       ·rcases List.mem_append.1 h1 with h2|h2
        ·exact .inl h2
        ·rcases zgI n (frL fr nm) (acc.2++[nm]) y h2 with h3|h3
         ·exact .inr (.inr ⟨nm,h3⟩)
         ·exact .inr (.inr h3)
       ·exact .inl h1
    ·exact .inr (.inl (by simp only[YJ,List.mem_append];exact .inr h1))
    ·exact .inr (.inr h1)
  rcases key l ([],seen) y h with h1|h1
  ·cases h1
  ·exact h1
theorem zt8 {s:SchD} {d:DocD} {nm:List UInt8} {y:ItD} (h:y∈YJ (frL (yp s d).1 nm)):y∈UI s d:=by
 rcases(zhm s d).fr nm with h1|h1
 ·rw[h1] at h;simp[YJ] at h
 ·exact List.mem_flatMap.2 ⟨_,h1,h⟩
theorem zvL {s:SchD} {d:DocD} {x y:ItD} (hx:x∈UI s d) (h:y∈YJ x.sub):y∈UI s d:=by
 obtain⟨l,hl,h1⟩:=List.mem_flatMap.1 hx
 exact List.mem_flatMap.2 ⟨l,hl,zeK l x y h1 h⟩
theorem zg3 {s:SchD} {d:DocD} {x y:ItD} (hx:x∈UI s d) (h:y∈yI (yp s d).1 x):y∈UI s d:=by
 rcases zgI 64 x.sub [] y h with h1|⟨nm,h1⟩
 ·exact zvL hx h1
 ·exact zt8 h1
def Z5:SelD→List Mem|.mk _ _ _ a _ _ _=>a
theorem zrW (x:ItD):x.args=Z5 x.x:=by obtain⟨no,⟨k,al,nm,args,dirs,on,sels⟩,typ,sub⟩:=x;rfl
def blq (s:SchD) (d:DocD) (x:TSe):List TSe:=(flq s d 64 (zy s x.1 x.2) x.2.sels []).1
def zaT (g:TSe→TSe→Bool) (la lb:List TSe):Bool:=la.all fun u=>lb.all fun v=>!decide (ZG u.2=ZG v.2)||g u v
def zcR (s:SchD) (d:DocD) (g:TSe→TSe→Bool) (x y:TSe):Bool:=zby s ((yb s x.1 x.2.nm).getD zF).t ((yb s y.1 y.2.nm).getD zF).t&&zaT g (blq s d x) (blq s d y)
def shq (s:SchD) (d:DocD):Nat→TSe→TSe→Bool
 | 0=>zcR s d fun _ _=>true
 | n+1=>zcR s d (shq s d n)
def zj8 (s:SchD) (x y:TSe):Bool:=!decide (x.1=y.1)&&yQ s x.1 [1]&&yQ s y.1 [1]
noncomputable def zcA (s:SchD) (d:DocD) (g:TSe→TSe→Bool) (x y:TSe):Bool:=shq s d 64 x y&&(zj8 s x y||((decide (x.2.nm=y.2.nm)&&Yu (Z5 x.2) (Z5 y.2))&&zaT g (blq s d x) (blq s d y)))
noncomputable def tgq (s:SchD) (d:DocD):Nat→TSe→TSe→Bool
 | 0=>zcA s d fun _ _=>true
 | n+1=>zcA s d (tgq s d n)
theorem zdh {g h:TSe→TSe→Bool} {la lb:List TSe} (e:∀ u∈la,∀ v∈lb,g u v=h u v):zaT g la lb=zaT h la lb:=by
 induction la with
 | nil=>rfl
 | cons u la ih =>
  have h1:=ih fun u hu=>e u (Zm _ hu)
  simp only[zaT] at h1
  have h2:(lb.all fun v=>!decide (ZG u.2=ZG v.2)||g u v)=lb.all fun v=>!decide (ZG u.2=ZG v.2)||h u v:=by
   have e1:=e u (Zr ..)
   clear h1 ih e
   induction lb with
   | nil=>rfl
   | cons v lb ih=>rw[List.all_cons,List.all_cons,e1 v (Zr ..),ih fun v hv=>e1 v (Zm _ hv)]
  simp only[zaT,List.all_cons,h1,h2]
section
variable {s:SchD} {d:DocD}
theorem zfr (hfr:zgs s d (yp s d).1) {x:ItD} (hx:x∈UI s d):blq s d (toT x)=(yI (yp s d).1 x).map toT:=by
 obtain⟨k,hk⟩:=ztk hx
 have:=(zjR hfr 64 x.x.sels (zy s x.typ x.x) k []).1
 rw[← hk] at this
 simp only[blq,toT,← this]
 rfl
theorem zmj (hfr:zgs s d (yp s d).1) {F:Nat→TSe→TSe→Bool} {B:(TSe→TSe→Bool)→TSe→TSe→Bool} (h0:F 0=B fun _ _=>true) (hS:∀ n,F (n+1)=B (F n))
  (hB:∀ g h x y,zaT g (blq s d x) (blq s d y)=zaT h (blq s d x) (blq s d y)→B g x y=B h x y):∀(n m:Nat) (x:ItD) (y:TSe),n≤m→n≤64→Ex (yp s d).1 n x.sub→x∈UI s d→F m (toT x) y=F n (toT x) y
 | 0,m,x,y,hnm,hn,hx,hU=>by
  have he:yI (yp s d).1 x=[]:=by
   cases hl:yI (yp s d).1 x with
   | nil=>rfl
   | cons u r =>
    obtain⟨i,hi,_⟩:=Zz (seen:=[]) (f:=64) hx hn (show u∈yI (yp s d).1 x by rw[hl];simp)
    omega
  have hb:blq s d (toT x)=[]:=by rw[zfr hfr hU,he];rfl
  have hany:∀ g h,B g (toT x) y=B h (toT x) y:=fun g h=>hB g h _ _ (by rw[hb];rfl)
  cases m with
  | zero=>rfl
  | succ m=>rw[hS,h0];exact hany _ _
 | n+1,m,x,y,hnm,hn,hx,hU=>by
  obtain⟨m,rfl⟩:∃ k,m=k+1:=⟨m-1,by omega⟩
  rw[hS,hS]
  refine hB _ _ _ _ (zdh fun u hu v hv=>?_)
  rw[zfr hfr hU] at hu
  obtain⟨w,hw,rfl⟩:=List.mem_map.1 hu
  obtain⟨i,hi,h1,_⟩:=Zz (seen:=[]) (f:=64) hx hn hw
  exact zmj hfr h0 hS hB n m w v (by omega) (by omega) (h1.mono (by omega)) (zg3 hU hw)
theorem zkF (hfr:zgs s d (yp s d).1) {n m:Nat} {x:ItD} (y:TSe) (hnm:n≤m) (hn:n≤64) (hx:Ex (yp s d).1 n x.sub) (hU:x∈UI s d):shq s d m (toT x) y=shq s d n (toT x) y :=
 zmj hfr (F:=shq s d) (B:=zcR s d) rfl (fun _=>rfl) (fun g h x y e=>by simp only[zcR,e]) n m x y hnm hn hx hU
theorem zkq (hfr:zgs s d (yp s d).1) {n m:Nat} {x:ItD} (y:TSe) (hnm:n≤m) (hn:n≤64) (hx:Ex (yp s d).1 n x.sub) (hU:x∈UI s d):tgq s d m (toT x) y=tgq s d n (toT x) y :=
 zmj hfr (F:=tgq s d) (B:=zcA s d) rfl (fun _=>rfl) (fun g h x y e=>by simp only[zcA,e]) n m x y hnm hn hx hU
theorem zsF (hfr:zgs s d (yp s d).1) {n:Nat} {x:ItD} (y:TSe) (hn:n≤64) (hx:Ex (yp s d).1 n x.sub) (hU:x∈UI s d):shq s d 64 (toT x) y=zcR s d (shq s d 64) (toT x) y:=by
 rw[← zkF hfr y (show n≤65 by omega) hn hx hU |>.trans (zkF hfr y hn hn hx hU).symm]
 rfl
theorem zr2 (hfr:zgs s d (yp s d).1) {n:Nat} {x:ItD} (y:TSe) (hn:n≤64) (hx:Ex (yp s d).1 n x.sub) (hU:x∈UI s d):tgq s d 64 (toT x) y=zcA s d (tgq s d 64) (toT x) y:=by
 rw[← zkq hfr y (show n≤65 by omega) hn hx hU |>.trans (zkq hfr y hn hn hx hU).symm]
 rfl
structure MInv (s:SchD) (d:DocD) (S:yd):Prop where
 sh:∀ x∈UI s d,∀ y∈UI s d,∀ r,Yz S.1 (x.no,y.no)=some r→r=shq s d 64 (toT x) (toT y)
 pr:∀ x∈UI s d,∀ y∈UI s d,∀ r,Yz S.2 (x.no,y.no)=some r→r=tgq s d 64 (toT x) (toT y)
theorem zfm (k k':Nat×Nat) (v:Bool):∀ l:PrS,Yz (ZH l k v) k'=if k'=k then some v else Yz l k'
 | []=>by
  simp only[ZH,Yz,List.find?_cons,List.find?_nil]
  by_cases h:k'=k<;>simp[h]
 | (a,u)::r=>by
  have ih:=zfm k k' v r
  simp only[Yz] at ih
  simp only[ZH]
  by_cases h:k=a
  ·subst h
   simp only[if_true,Yz,List.find?_cons]
   by_cases h2:k'=k<;>simp[h2]
  ·simp only[h,if_false,Yz,List.find?_cons]
   by_cases h2:k'=a
   ·subst h2
    have:¬ k'=k:=fun e=>h e.symm
    simp[this]
   ·simp only[h2,decide_false,Al7,if_false]
    exact ih
theorem MInv.set1 {S:yd} (h:MInv s d S) {x y:ItD} (hx:x∈UI s d) (hy:y∈UI s d) {v:Bool} (hv:v=shq s d 64 (toT x) (toT y)):MInv s d (ZH S.1 (x.no,y.no) v,S.2) :=
 ⟨fun a ha b hb r e=>by
  rw[zfm] at e
  by_cases hk:(a.no,b.no)=(x.no,y.no)
  ·rw[if_pos hk] at e
   obtain⟨e1,e2⟩:=Prod.mk.inj hk
   rw[zji ha hx e1,zji hb hy e2,← hv]
   exact(Option.some.inj e).symm
  ·rw[if_neg hk] at e
   exact h.sh a ha b hb r e,h.pr⟩
theorem MInv.set2 {S:yd} (h:MInv s d S) {x y:ItD} (hx:x∈UI s d) (hy:y∈UI s d) {v:Bool} (hv:v=tgq s d 64 (toT x) (toT y)):MInv s d (S.1,ZH S.2 (x.no,y.no) v) :=
 ⟨h.sh,fun a ha b hb r e=>by
  rw[zfm] at e
  by_cases hk:(a.no,b.no)=(x.no,y.no)
  ·rw[if_pos hk] at e
   obtain⟨e1,e2⟩:=Prod.mk.inj hk
   rw[zji ha hx e1,zji hb hy e2,← hv]
   exact(Option.some.inj e).symm
  ·rw[if_neg hk] at e
   exact h.pr a ha b hb r e⟩
def zbV (s:SchD) (d:DocD) (g:ItD→ItD→yd→Bool×yd) (G:TSe→TSe→Bool) (u v:ItD):Prop:=∀ S,MInv s d S→(g u v S).1=G (toT u) (toT v)∧MInv s d (g u v S).2
theorem zq7 {g:ItD→ItD→yd→Bool×yd} {G:TSe→TSe→Bool} {u:ItD}:∀(lb:List ItD),(∀ v∈lb,zbV s d g G u v)→∀ S,MInv s d S→(zh4 g u lb S).1=((lb.map toT).all fun v=>!decide (ZG (toT u).2=ZG v.2)||G (toT u) v)∧MInv s d (zh4 g u lb S).2
 | [],_,S,hS=>⟨rfl,hS⟩
 | v::lb,h,S,hS=>by
  have ih:=zq7 lb fun v hv=>h v (Zm _ hv)
  simp only[zh4,List.map_cons,List.all_cons]
  have ek:∀ x:ItD,(toT x).2=x.x:=fun _=>rfl
  by_cases hk:ZG u.x=ZG v.x
  ·obtain⟨h1,h2⟩:=h v (Zr ..) S hS
   simp only[hk,if_true,ek,decide_true,Bool.not_true,Bool.false_or]
   generalize g u v S=R at *
   obtain⟨r,S'⟩:=R
   simp only at h1 h2
   subst h1
   cases hG:G (toT u) (toT v) with
   | true =>
    have:=ih S' h2
    simp only[ek,hk] at this
    simpa using this
   | false=>exact⟨by simp,h2⟩
  ·have:=ih S hS
   simp only[hk,if_false,ek,decide_false,Bool.not_false,Bool.true_or,Bool.true_and] at this ⊢
   exact this
theorem zmo {g:ItD→ItD→yd→Bool×yd} {G:TSe→TSe→Bool} {lb:List ItD}:∀(la:List ItD),(∀ u∈la,∀ v∈lb,zbV s d g G u v)→∀ S,MInv s d S→(zal g la lb S).1=zaT G (la.map toT) (lb.map toT)∧MInv s d (zal g la lb S).2
 | [],_,S,hS=>⟨rfl,hS⟩
 | u::la,h,S,hS=>by
  have ih:=zmo la fun u hu=>h u (Zm _ hu)
  obtain⟨h1,h2⟩:=zq7 lb (h u (Zr ..)) S hS
  simp only[zal,zaT,List.map_cons,List.all_cons]
  simp only[zaT] at ih
  generalize zh4 g u lb S=R at *
  obtain⟨r,S'⟩:=R
  simp only at h1 h2
  subst h1
  cases hG:((lb.map toT).all fun v=>!decide (ZG (toT u).2=ZG v.2)||G (toT u) v) with
  | true =>
   have:=ih S' h2
   simpa using this
  | false=>exact⟨by simp,h2⟩
theorem zpB (hfr:zgs s d (yp s d).1) {n m:Nat} {x y:ItD} {g:ItD→ItD→yd→Bool×yd} (hx:x∈UI s d) (hy:y∈UI s d) (hn:n≤64) (hxe:Ex (yp s d).1 n x.sub)
  (hg:∀ u∈yI (yp s d).1 x,∀ v∈yI (yp s d).1 y,zbV s d g (shq s d 64) u v):zbV s d (shB s (yp s d).1 g) (shq s d 64) x y:=by
 intro S hS
 have hu:=zsF hfr (toT y) hn hxe hx
 obtain⟨h1,h2⟩:=zmo (yI (yp s d).1 x) hg S hS
 rw[← zfr hfr hx,← zfr hfr hy] at h1
 have hsp:zcR s d (shq s d 64) (toT x) (toT y)=(zby s ((yb s x.typ x.x.nm).getD zF).t ((yb s y.typ y.x.nm).getD zF).t&&zaT (shq s d 64) (blq s d (toT x)) (blq s d (toT y))):=rfl
 rw[hsp] at hu
 simp only[shB]
 cases hp:Yz S.1 (x.no,y.no) with
 | some r=>exact⟨hS.sh x hx y hy r hp,hS⟩
 | none =>
  simp only
  split
  ·rename_i hs
   rw[hs,Bool.true_and] at hu
   rw[← hu] at h1
   exact⟨h1,h2.set1 hx hy h1⟩
  ·rename_i hs
   have hs':zby s ((yb s x.typ x.x.nm).getD zF).t ((yb s y.typ y.x.nm).getD zF).t=false:=by simpa using hs
   rw[hs',Bool.false_and] at hu
   exact⟨hu.symm,hS.set1 hx hy hu.symm⟩
theorem zuk (hfr:zgs s d (yp s d).1):∀(n m:Nat) (x y:ItD),x∈UI s d→y∈UI s d→n≤64→m≤64→Ex (yp s d).1 n x.sub→Ex (yp s d).1 m y.sub→zbV s d (shF s (yp s d).1 n) (shq s d 64) x y
 | 0,m,x,y,hx,hy,hn,hm,hxe,hye=>zpB (m:=m) hfr hx hy hn hxe fun u hu v hv=>by
  obtain⟨i,hi,_⟩:=Zz (seen:=[]) (f:=64) hxe hn hu
  omega
 | n+1,m,x,y,hx,hy,hn,hm,hxe,hye=>zpB (m:=m) hfr hx hy hn hxe fun u hu v hv=>by
  obtain⟨i,hi,h1,_⟩:=Zz (seen:=[]) (f:=64) hxe hn hu
  obtain⟨j,hj,h2,_⟩:=Zz (seen:=[]) (f:=64) hye hm hv
  exact zuk hfr n j u v (zg3 hx hu) (zg3 hy hv) (by omega) (by omega) (h1.mono (by omega)) h2
theorem zrX (hfr:zgs s d (yp s d).1) {n m:Nat} {x y:ItD} {g:ItD→ItD→yd→Bool×yd} (hx:x∈UI s d) (hy:y∈UI s d) (hn:n≤64) (hm:m≤64) (hxe:Ex (yp s d).1 n x.sub) (hye:Ex (yp s d).1 m y.sub)
  (hg:∀ u∈yI (yp s d).1 x,∀ v∈yI (yp s d).1 y,zbV s d g (tgq s d 64) u v):zbV s d (tgB s (yp s d).1 g) (tgq s d 64) x y:=by
 intro S hS
 have hu:=zr2 hfr (toT y) hn hxe hx
 obtain⟨a1,a2⟩:=zuk hfr 64 m x y hx hy (Al4 _) hm (hxe.mono hn) hye S hS
 obtain⟨h1,h2⟩:=zmo (yI (yp s d).1 x) hg _ a2
 rw[← zfr hfr hx,← zfr hfr hy] at h1
 have hsp:zcA s d (tgq s d 64) (toT x) (toT y)=(shq s d 64 (toT x) (toT y)&&(zfs s x y||((decide (x.x.nm=y.x.nm)&&Yu x.args y.args)&&zaT (tgq s d 64) (blq s d (toT x)) (blq s d (toT y))))):=by rw[zrW,zrW];rfl
 rw[hsp] at hu
 simp only[tgB]
 cases hp:Yz S.2 (x.no,y.no) with
 | some r=>exact⟨hS.pr x hx y hy r hp,hS⟩
 | none =>
  simp only
  generalize shF s (yp s d).1 64 x y S=A at *
  rw[← a1] at hu
  split
  ·rename_i hs
   rw[hs,Bool.true_and] at hu
   split
   ·rename_i hap
    rw[hap,Bool.true_or] at hu
    exact⟨hu.symm,a2.set2 hx hy hu.symm⟩
   ·rename_i hap
    have hap':zfs s x y=false:=by simpa using hap
    rw[hap',Bool.false_or] at hu
    split
    ·rename_i hk
     rw[hk,Bool.true_and] at hu
     rw[← hu] at h1
     exact⟨h1,h2.set2 hx hy h1⟩
    ·rename_i hk
     have hk':(decide (x.x.nm=y.x.nm)&&Yu x.args y.args)=false:=by simpa using hk
     rw[hk',Bool.false_and] at hu
     exact⟨hu.symm,a2.set2 hx hy hu.symm⟩
  ·rename_i hs
   have hs':A.1=false:=by simpa using hs
   rw[hs',Bool.false_and] at hu
   exact⟨hu.symm,a2.set2 hx hy hu.symm⟩
theorem zud (hfr:zgs s d (yp s d).1):∀(n m:Nat) (x y:ItD),x∈UI s d→y∈UI s d→n≤64→m≤64→Ex (yp s d).1 n x.sub→Ex (yp s d).1 m y.sub→zbV s d (tgF s (yp s d).1 n) (tgq s d 64) x y
 | 0,m,x,y,hx,hy,hn,hm,hxe,hye=>zrX hfr hx hy hn hm hxe hye fun u hu v hv=>by
  obtain⟨i,hi,_⟩:=Zz (seen:=[]) (f:=64) hxe hn hu
  omega
 | n+1,m,x,y,hx,hy,hn,hm,hxe,hye=>zrX hfr hx hy hn hm hxe hye fun u hu v hv=>by
  obtain⟨i,hi,h1,_⟩:=Zz (seen:=[]) (f:=64) hxe hn hu
  obtain⟨j,hj,h2,_⟩:=Zz (seen:=[]) (f:=64) hye hm hv
  exact zud hfr n j u v (zg3 hx hu) (zg3 hy hv) (by omega) (by omega) (h1.mono (by omega)) h2
end
theorem zqS (s:SchD):∀(fs done:List FragD) (st:RSt),(∀ n,∃ no,(yP st.1 n).map (·.2)=((done.find? (YL n)).map fun f=>(zM s f.sels f.on no).1))→∀ n,∃ no,(yP (fs.foldl (rFr s) st).1 n).map (·.2)=(((done++fs).find? (YL n)).map fun f=>(zM s f.sels f.on no).1)
 | [],done,st,h=>by simpa using h
 | f::fs,done,st,h=>by
  have hn:=zqS s fs (done++[f]) (rFr s st f) (fun n=>by
   obtain⟨no,e⟩:=h n
   cases hf:yP st.1 f.nm with
   | some x =>
    have e2:rFr s st f=st:=by unfold rFr;rw[hf]
    rw[e2,List.find?_append]
    refine⟨no,?_⟩
    rw[e]
    cases hd:done.find? (YL n) with
    | some y=>simp
    | none =>
     by_cases hfn:f.nm=n
     ·rw[hfn] at hf
      rw[hf,hd] at e
      simp at e
     ·simp[YL,hfn]
   | none =>
    have e2:(rFr s st f).1=st.1++[(f.nm,(zM s f.sels f.on st.2.2).1)]:=by unfold rFr;rw[hf]
    rw[e2,zcG,List.find?_append]
    cases hd:done.find? (YL n) with
    | some y =>
     refine⟨no,?_⟩
     rw[hd] at e
     cases hx:yP st.1 n with
     | none=>rw[hx] at e;simp at e
     | some z=>rw[hx] at e;simpa using e
    | none =>
     rw[hd] at e
     have hx:yP st.1 n=none:=by
      cases hx:yP st.1 n with
      | none=>rfl
      | some z=>rw[hx] at e;simp at e
     refine⟨st.2.2,?_⟩
     rw[hx]
     by_cases hfn:f.nm=n
     ·subst hfn;simp[YL]
     ·have:¬ n=f.nm:=fun e=>hfn e.symm
      simp[YL,hfn,this])
  intro n
  obtain⟨no,e⟩:=hn n
  exact⟨no,by rw[List.foldl_cons,e];simp⟩
theorem zsz (s:SchD) (d:DocD):zgs s d (yp s d).1:=fun n=>by
 obtain⟨no,e⟩:=zqS s d.frags [] ([],[],0) (fun n=>⟨0,rfl⟩) n
 refine⟨no,?_⟩
 rw[zeo,yp,zmd,e,zcU,frS,zcT,zw]
 cases d.frags.find? (YL n) with
 | none=>simp[zFr,zM]
 | some f=>simp
def zjg (g:TSe→TSe→Bool) (x:TSe) (l:List TSe):Bool:=l.all fun y=>!decide (ZG x.2=ZG y.2)||g y x
def Ys (g:TSe→TSe→Bool):List TSe→List TSe→Bool
 | _,[]=>true
 | a,x::r=>zjg g x a&&Ys g (a++[x]) r
noncomputable def zek (s:SchD) (d:DocD) (h:List UInt8→List SelD→Bool) (typ:List UInt8) (l:List SelD):Bool:=Ys (tgq s d 64) [] (flq s d 64 typ l []).1&&l.all fun x=>h (zy s typ x) x.sels
noncomputable def lsq (s:SchD) (d:DocD):Nat→List UInt8→List SelD→Bool
 | 0=>zek s d fun _ _=>true
 | n+1=>zek s d (lsq s d n)
section
variable {s:SchD} {d:DocD}
theorem znf {g:ItD→ItD→yd→Bool×yd} {G:TSe→TSe→Bool} {u:ItD}:∀(lb:List ItD),(∀ v∈lb,zbV s d g G v u)→∀ S,MInv s d S→(rowB g u lb S).1=zjg G (toT u) (lb.map toT)∧MInv s d (rowB g u lb S).2
 | [],_,S,hS=>⟨rfl,hS⟩
 | v::lb,h,S,hS=>by
  have ih:=znf lb fun v hv=>h v (Zm _ hv)
  simp only[rowB,zjg,List.map_cons,List.all_cons] at ih ⊢
  have ek:∀ x:ItD,(toT x).2=x.x:=fun _=>rfl
  by_cases hk:ZG u.x=ZG v.x
  ·obtain⟨h1,h2⟩:=h v (Zr ..) S hS
   simp only[hk,if_true,ek,decide_true,Bool.not_true,Bool.false_or]
   generalize g v u S=R at *
   obtain⟨r,S'⟩:=R
   simp only at h1 h2
   subst h1
   cases hG:G (toT v) (toT u) with
   | true =>
    have:=ih S' h2
    simp only[ek,hk] at this
    simpa using this
   | false=>exact⟨by simp,h2⟩
  ·have:=ih S hS
   simp only[hk,if_false,ek,decide_false,Bool.not_false,Bool.true_or,Bool.true_and] at this ⊢
   exact this
theorem zkR {g:ItD→ItD→yd→Bool×yd} {G:TSe→TSe→Bool}:∀(r a:List ItD),(∀ u∈a++r,∀ v∈a++r,zbV s d g G u v)→∀ S,MInv s d S→(zaN g a r S).1=Ys G (a.map toT) (r.map toT)∧MInv s d (zaN g a r S).2
 | [],a,_,S,hS=>⟨rfl,hS⟩
 | x::r,a,h,S,hS=>by
  obtain⟨h1,h2⟩:=znf (u:=x) a (fun v hv=>h v (ZZ _ hv) x (by simp)) S hS
  have ih:=zkR r (a++[x]) (fun u hu v hv=>h u (by simpa[zb0] using hu) v (by simpa[zb0] using hv))
  simp only[zaN,List.map_cons,Ys]
  generalize rowB g x a S=R at *
  obtain⟨r',S'⟩:=R
  simp only at h1 h2
  subst h1
  cases hG:zjg G (toT x) (a.map toT) with
  | true =>
   have:=ih S' h2
   simpa using this
  | false=>exact⟨by simp,h2⟩
def ziz (s:SchD) (d:DocD) (h:List ItD→yd→Bool×yd) (l:List ItD) (b:Bool):Prop:=∀ S,MInv s d S→(h l S).1=b∧MInv s d (h l S).2
theorem zry {h:List ItD→yd→Bool×yd} {H:List UInt8→List SelD→Bool} {typ:List UInt8}:∀(l:List SelD) (no:Nat),(∀ x∈l,∀ k,(∃ y∈(zM s l typ no).1,y.sub=(zM s x.sels (zy s typ x) k).1)→ziz s d h (zM s x.sels (zy s typ x) k).1 (H (zy s typ x) x.sels)) →
  ∀ S,MInv s d S→(zeZ h (zM s l typ no).1 S).1=(l.all fun x=>H (zy s typ x) x.sels)∧MInv s d (zeZ h (zM s l typ no).1 S).2
 | [],no,_,S,hS=>⟨rfl,hS⟩
 | x::r,no,hh,S,hS=>by
  have ih:=zry r (itS s x typ no).2 (fun z hz k ⟨y,hy,e⟩=>hh z (Zm _ hz) k ⟨y,by simp only[zM];exact Zm _ hy,e⟩)
  have e1:(itS s x typ no).1.sub=(zM s x.sels (zy s typ x) (no+1)).1:=by
   obtain⟨k,al,nm,args,dirs,on,sels⟩:=x
   simp only[itS,ItD.sub,SelD.sels]
  obtain⟨h1,h2⟩:=hh x (Zr ..) (no+1) ⟨(itS s x typ no).1,by simp only[zM];exact Zr ..,e1⟩ S hS
  simp only[zM,zeZ,List.all_cons,e1]
  generalize h (zM s x.sels (zy s typ x) (no+1)).1 S=R at *
  obtain⟨r',S'⟩:=R
  simp only at h1 h2
  subst h1
  cases hG:H (zy s typ x) x.sels with
  | true =>
   have:=ih S' h2
   simpa using this
  | false=>exact⟨by simp,h2⟩
theorem zq0 {n:Nat} {typ:List UInt8} {l:List SelD} {no:Nat} {h:List ItD→yd→Bool×yd} {H:List UInt8→List SelD→Bool} (hn:n≤64) (hx:Ex (yp s d).1 n (zM s l typ no).1) (hU:∀ y∈YJ (zM s l typ no).1,y∈UI s d)
  (hh:∀ x∈l,∀ k,(∃ y∈(zM s l typ no).1,y.sub=(zM s x.sels (zy s typ x) k).1)→ziz s d h (zM s x.sels (zy s typ x) k).1 (H (zy s typ x) x.sels)):ziz s d (lsB s (yp s d).1 h) (zM s l typ no).1 (zek s d H typ l):=by
 intro S hS
 have hfr:=zsz s d
 have hfl:=(zjR hfr 64 l typ no []).1
 have hmem:∀ y∈(flF (yp s d).1 64 (zM s l typ no).1 []).1,y∈UI s d:=fun y hy=>by
  rcases zgI 64 _ [] y hy with h1|⟨nm,h1⟩
  ·exact hU y h1
  ·exact zt8 h1
 obtain⟨h1,h2⟩:=zkR (g:=tgF s (yp s d).1 64) (G:=tgq s d 64) (flF (yp s d).1 64 (zM s l typ no).1 []).1 [] (fun u hu v hv=>by
  rw[zcU] at hu hv
  obtain⟨i,hi,g1,_⟩:=Zz hx hn hu
  obtain⟨j,hj,g2,_⟩:=Zz hx hn hv
  exact zud hfr 64 j u v (hmem u hu) (hmem v hv) (Al4 _) (by omega) (g1.mono (by omega)) g2) S hS
 have e1:(flq s d 64 typ l []).1=(flF (yp s d).1 64 (zM s l typ no).1 []).1.map toT:=by rw[← hfl]
 simp only[lsB,zek,e1]
 rw[List.map_nil] at h1
 generalize zaN (tgF s (yp s d).1 64) [] (flF (yp s d).1 64 (zM s l typ no).1 []).1 S=R at *
 obtain⟨r',S'⟩:=R
 simp only at h1 h2
 subst h1
 cases hG:Ys (tgq s d 64) [] ((flF (yp s d).1 64 (zM s l typ no).1 []).1.map toT) with
 | true =>
  have:=zry l no hh S' h2
  simpa using this
 | false=>exact⟨by simp,h2⟩
theorem zn8:∀(n:Nat) (typ:List UInt8) (l:List SelD) (no:Nat),n≤64→Ex (yp s d).1 n (zM s l typ no).1→(∀ y∈YJ (zM s l typ no).1,y∈UI s d)→ziz s d (lsF s (yp s d).1 n) (zM s l typ no).1 (lsq s d n typ l)
 | 0,typ,l,no,hn,hx,hU=>zq0 hn hx hU fun x hxm k ⟨y,hy,e⟩=>by
  rw[hx.zero] at hy;cases hy
 | n+1,typ,l,no,hn,hx,hU=>zq0 hn hx hU fun x hxm k ⟨y,hy,e⟩=>by
  refine zn8 n _ _ _ (by omega) (by rw[← e];exact hx.sub hy) fun z hz=>?_
  rw[← e] at hz
  exact hU z (zeK _ y z (zhJ hy) hz)
theorem zlA {h:List ItD→yd→Bool×yd} {P:List ItD→Bool}:∀(L:List (List ItD)),(∀ l∈L,ziz s d h l (P l))→∀ S,MInv s d S→(zdT h L S).1=L.all P∧MInv s d (zdT h L S).2
 | [],_,S,hS=>⟨rfl,hS⟩
 | l::L,hh,S,hS=>by
  obtain⟨h1,h2⟩:=hh l (Zr ..) S hS
  have ih:=zlA L fun x hx=>hh x (Zm _ hx)
  simp only[zdT,List.all_cons]
  generalize h l S=R at *
  obtain⟨r',S'⟩:=R
  simp only at h1 h2
  subst h1
  cases hG:P l with
  | true =>
   have:=ih S' h2
   simpa using this
  | false=>exact⟨by simp,h2⟩
end
theorem zlk (s:SchD) (d:DocD):∀ l∈(yp s d).2.1,(∃ f∈d.frags,∃ no,l=(zM s f.sels f.on no).1)∨∃ o∈d.ops,∃ no,l=(zM s o.sels (yY s o) no).1:=by
 have h1:∀(fs:List FragD) (st:RSt),∀ l∈(fs.foldl (rFr s) st).2.1,l∈st.2.1∨∃ f∈fs,∃ no,l=(zM s f.sels f.on no).1:=by
  intro fs
  induction fs with
  | nil=>intro st l h;exact .inl h
  | cons f fs ih =>
   intro st l h
   rcases ih (rFr s st f) l h with h1|⟨g,hg,no,e⟩
   ·unfold rFr at h1
    split at h1
    ·exact .inl h1
    ·rcases List.mem_append.1 h1 with h2|h2
     ·exact .inl h2
     ·simp only[List.mem_singleton] at h2
      exact .inr ⟨f,Zr ..,_,h2⟩
   ·exact .inr ⟨g,Zm _ hg,no,e⟩
 have h2:∀(fs:List OpD) (st:RSt),∀ l∈(fs.foldl (rOp s) st).2.1,l∈st.2.1∨∃ f∈fs,∃ no,l=(zM s f.sels (yY s f) no).1:=by
  intro fs
  induction fs with
  | nil=>intro st l h;exact .inl h
  | cons f fs ih =>
   intro st l h
   rcases ih (rOp s st f) l h with h1|⟨g,hg,no,e⟩
   ·rcases List.mem_append.1 h1 with h2|h2
    ·exact .inl h2
    ·simp only[List.mem_singleton] at h2
     exact .inr ⟨f,Zr ..,_,h2⟩
   ·exact .inr ⟨g,Zm _ hg,no,e⟩
 intro l h
 rcases h2 d.ops _ l h with h|h
 ·rcases h1 d.frags _ l h with h|h
  ·cases h
  ·exact .inl h
 ·exact .inr h
theorem zoY (s:SchD) (d:DocD):∀ o∈d.ops,∃ no,(zM s o.sels (yY s o) no).1∈(yp s d).2.1:=by
 have h:∀(fs:List OpD) (st:RSt),(∀ l∈st.2.1,l∈(fs.foldl (rOp s) st).2.1)∧∀ o∈fs,∃ no,(zM s o.sels (yY s o) no).1∈(fs.foldl (rOp s) st).2.1:=by
  intro fs
  induction fs with
  | nil=>intro st;exact⟨fun l h=>h,fun o h=>by cases h⟩
  | cons f fs ih =>
   intro st
   obtain⟨i1,i2⟩:=ih (rOp s st f)
   refine⟨fun l h=>i1 l (ZZ _ h),fun o ho=>?_⟩
   rcases List.mem_cons.1 ho with rfl|ho
   ·exact⟨st.2.2,i1 _ (List.mem_append_right _ (by simp))⟩
   ·exact i2 o ho
 exact(h d.ops _).2
theorem zky (s:SchD) (d:DocD) (hn:(d.frags.map (·.nm)).Nodup):∀ f∈d.frags,∃ no,(zM s f.sels f.on no).1∈(yp s d).2.1:=by
 have h0:∀(fs:List OpD) (st:RSt),(∀ l∈st.2.1,l∈(fs.foldl (rOp s) st).2.1):=by
  intro fs
  induction fs with
  | nil=>intro st l h;exact h
  | cons f fs ih=>intro st l h;exact ih (rOp s st f) l (ZZ _ h)
 have h:∀(fs:List FragD) (st:RSt),(fs.map (·.nm)).Nodup→(∀ f∈fs,yP st.1 f.nm=none)→(∀ l∈st.2.1,l∈(fs.foldl (rFr s) st).2.1)∧∀ f∈fs,∃ no,(zM s f.sels f.on no).1∈(fs.foldl (rFr s) st).2.1:=by
  intro fs
  induction fs with
  | nil=>intro st _ _;exact⟨fun l h=>h,fun o h=>by cases h⟩
  | cons f fs ih =>
   intro st hnd hf
   have hff:=hf f (Zr ..)
   have e2:rFr s st f=(st.1++[(f.nm,(zM s f.sels f.on st.2.2).1)],st.2.1++[(zM s f.sels f.on st.2.2).1],(zM s f.sels f.on st.2.2).2):=by unfold rFr;rw[hff]
   simp only[List.map_cons,List.nodup_cons] at hnd
   obtain⟨i1,i2⟩:=ih (rFr s st f) hnd.2 (fun g hg=>by
    rw[e2,zcG,hf g (Zm _ hg)]
    have:¬ g.nm=f.nm:=fun e=>hnd.1 (List.mem_map.2 ⟨g,hg,e⟩)
    simp[this])
   rw[List.foldl_cons]
   refine⟨fun l h=>i1 l (by rw[e2];exact ZZ _ h),fun o ho=>?_⟩
   rcases List.mem_cons.1 ho with rfl|ho
   ·exact⟨st.2.2,i1 _ (by rw[e2];exact List.mem_append_right _ (by simp))⟩
   ·exact i2 o ho
 intro f hf
 obtain⟨no,h1⟩:=(h d.frags ([],[],0) hn fun _ _=>rfl).2 f hf
 exact⟨no,h0 d.ops _ _ h1⟩
theorem zgu {s:SchD} {d:DocD} (hl:∀ x∈zJ d,Sz d 40 x) (hb:zq d≤Lim) (hn:(d.frags.map (·.nm)).Nodup):mgM s d=true↔zav d=false∧(∀ f∈d.frags,lsq s d 64 f.on f.sels=true)∧∀ o∈d.ops,lsq s d 64 (yY s o) o.sels=true:=by
 have hex:=zn0 (s:=s) hl hb
 have hU:∀ l∈(yp s d).2.1,∀ y∈YJ l,y∈UI s d:=fun l h y hy=>List.mem_flatMap.2 ⟨l,h,hy⟩
 have hM0:MInv s d ([],[]):=⟨fun x _ y _ r h=>(by simp[Yz] at h),fun x _ y _ r h=>(by simp[Yz] at h)⟩
 have hL:∀ l∈(yp s d).2.1,∃ b,ziz s d (lsF s (yp s d).1 64) l b:=fun l h=>by
  rcases zlk s d l h with ⟨f,hf,no,rfl⟩|⟨o,ho,no,rfl⟩
  ·exact⟨_,zn8 64 _ _ _ (Al4 _) (hex _ h) (hU _ h)⟩
  ·exact⟨_,zn8 64 _ _ _ (Al4 _) (hex _ h) (hU _ h)⟩
 have hall:=(zlA (h:=lsF s (yp s d).1 64) (P:=fun l=>(lsF s (yp s d).1 64 l ([],[])).1) (yp s d).2.1 (fun l h=>by
  obtain⟨b,hb⟩:=hL l h
  intro S hS
  rw[(hb ([],[]) hM0).1]
  exact hb S hS) ([],[]) hM0).1
 have hval:∀ typ l no,(zM s l typ no).1∈(yp s d).2.1→(lsF s (yp s d).1 64 (zM s l typ no).1 ([],[])).1=lsq s d 64 typ l:=fun typ l no h=>(zn8 64 typ l no (Al4 _) (hex _ h) (hU _ h) ([],[]) hM0).1
 unfold mgM
 rw[hall,Al0,Bool.not_eq_true',YV]
 constructor
 ·rintro⟨h1,h2⟩
  refine⟨h1,fun f hf=>?_,fun o ho=>?_⟩
  ·obtain⟨no,h⟩:=zky s d hn f hf
   rw[← hval _ _ no h];exact h2 _ h
  ·obtain⟨no,h⟩:=zoY s d o ho
   rw[← hval _ _ no h];exact h2 _ h
 ·rintro⟨h1,h2,h3⟩
  refine⟨h1,fun l h=>?_⟩
  rcases zlk s d l h with ⟨f,hf,no,rfl⟩|⟨o,ho,no,rfl⟩
  ·rw[hval _ _ no h];exact h2 f hf
  ·rw[hval _ _ no h];exact h3 o ho
theorem zjy (dp:Int) (fixed:Bool) (l:List DirD) (x:DirD):Zh dp fixed (l++[x])=(Zh dp fixed l&&zjS dp fixed x):=by simp[Zh]
theorem zrL (l:List DirD) (x:DirD):tDs (l++[x])=tDs l++tD x:=by simp[tDs]
theorem zq4 (l:List DirD) (x:DirD):bDs (l++[x])=bDs l+bD x:=by simp[bDs]
theorem zc9 (fixed:Bool) (m:List DirD) (hw:zo7 m) (hm:8*bDs m≤Lim):WC 92 [.bool fixed,.sl .no 2 (cDs m)] (8*bDs m) 0 32 (fun dp=>Zh dp fixed m) (tDs m):=by
 intro H w o l ok dp h h0 h1 hb
 have hml:=zaA m
 have hcl:=YG m
 have hm':=hm
 simp only[Lim] at hm'
 refine zi.go ir92 ck92 (Al4 _) fun KP Q hQ=>?_
 have w0:=WR.refl h
 simp(disch:=omega) only[ir92,hcl,go_sem]
 refine zf m 10 (fun x:Own×List Tok=>[]) (fun done rest x H'=>WR H o w l ok dp (8*bDs done) (Zh dp fixed done) (tDs done) H' x.1 x.2) (o,l) (by simp(disch:=omega) only[go_sem]) (w0.cast (by omega) rfl rfl) ?_ ?_
 ·rintro⟨o3,l3⟩ H3 J w3 hlt
  simp only at w3
  simp(disch:=omega) only[hcl,hlt,go_sem]
  exact hQ _ _ H3 H3 [] nofun rfl (Low.refl _) ⟨rfl,w3.fin rfl (fun _=>rfl) (by omega)⟩
 ·rintro done x rest ⟨o3,l3⟩ H3 J hd hlt hlt2 w3 hJ
  simp only at w3
  have hg:=zaI hd
  have hbm:=zcD done x rest
  rw[← hd] at hbm
  have hmem:x∈m:=by rw[hd];simp
  have hwx:=hw x hmem
  obtain⟨s,args⟩:=x
  have hal:=y5 args
  simp only[bD] at hbm
  have ex:cD ⟨s,args⟩=[.str s,.sl .no 6 (cMs args)]:=rfl
  rw[ex] at hg
  simp(disch:=omega) only[hcl,hlt,hg,go_sem]
  refine zc fun b hb=>?_
  have hbw:b≠w:=fun e=>by subst e;rw[w3.here.cell] at hb;cases hb
  have w4:=w3.alloc (x:=.cells [.str s,.sl .no 6 (cMs args)]) hb
  have hbc:(H3.upd b (.cells [.str s,.sl .no 6 (cMs args)])) b=some (.cells [.str s,.sl .no 6 (cMs args)]):=upd_same ..
  simp(disch:=omega) only[go_sem]
  refine zu (y8 [64] _) w4 (by omega) (by omega) (by omega) fun o5 l5 H5 w5 s5=>?_
  have hb5:=s5.box w4.here.own hbc hbw
  simp(disch:=omega) only[hb5,go_sem]
  refine zu (yA s (by simp only[Lim];omega)) w5 (by omega) (by omega) (by omega) fun o6 l6 H6 w6 s6=>?_
  have hb6:=s6.box w5.here.own hb5 hbw
  simp(disch:=omega) only[hb6,go_sem]
  refine zu (zpp fixed args hwx (by simp only[Lim];omega)) w6 (by omega) (by omega) (by omega) fun o7 l7 H7 w7 s7=>?_
  simp(disch:=omega) only[wrap64,go_sem]
  exact goJ (hJ (o7,l7) H7 (w7.cast (by rw[zq4];simp only[bD];omega) (by rw[zjy];simp[zjS,YU]) (by rw[zrL];simp[tD]))) (by simp(disch:=omega) only[go_sem])
def zpy (c:Nat):Prop:=∀ l:List SelD,bSs l≤c→zfO l→16*bSs l+2≤Lim→WC 176 [.sl .no 7 (cSs l)] (16*bSs l) 0 17 (fun dp=>yy dp l) (tSl l)
theorem zgJ {c:Nat} (hL:zpy c) (l:List SelD) (hc:bSs l≤c) (hw:zfO l) (hm:16*bSs l+2≤Lim):WC 93 [.sl .no 7 (cSs l)] (16*bSs l+2) 0 16 (fun dp=>yy (dp+1) l) (tBl l):=by
 intro H w o k ok dp h h0 h1 hb
 refine zi.go ir93 ck93 (Al4 _) fun KP Q hQ=>?_
 simp(disch:=omega) only[ir93,go_sem]
 refine zbb (y8 [123] _) h (by omega) (by omega) (by omega) fun o2 l2 H2 h2 h3 h4 h5=>?_
 have c2:=h2.cell
 have w1:IntKind.wrap .i64 (dp+1)=dp+1:=wrap64 (by omega) (by omega)
 have w2:IntKind.wrap .i64 (dp+1-1)=dp:=by rw[wrap64 (by omega) (by omega)];omega
 simp(disch:=omega) only[c2,w1,go_sem]
 have g2:=h2.put (ok':=ok&&true) (dp':=dp+1)
 refine zbb (hL l hc hw hm) g2 (by omega) (by omega) (by omega) fun o3 l3 H3 h6 h7 h8 h9=>?_
 have c3:=h6.cell
 simp(disch:=omega) only[c3,w2,go_sem]
 have g3:=h6.put (ok':=(ok&&true)&&yy (dp+1) l) (dp':=dp)
 refine zbb (y8 [125] _) g3 (by omega) (by omega) (by omega) fun o4 l4 H4 h10 h11 h12 h13=>?_
 simp(disch:=omega) only[go_sem]
 refine hQ _ _ H4 H4 [] nofun rfl (Low.refl _) ⟨rfl,o4,l4,by simpa using h10,?_,by omega,fun e=>?_⟩
 ·exact((h3.upd.trans (upd_same ..) h7).upd).trans (upd_same ..) h11
 ·simp only[Bool.and_true] at h5 h9 h13
  rw[h13 e,h9 e,h5 (by simp only[Al0] at e;exact e.1)]
  simp[tBl]
theorem zp0 (k:Int) (al nm:List UInt8) (args:List Mem) (dirs:List DirD) (on:List UInt8) (sels:List SelD) (hk:k=1) (hw:wfS (.mk k al nm args dirs on sels)) (hm:16*bS (.mk k al nm args dirs on sels)≤Lim) :
  WC 220 [.agg (cS (.mk k al nm args dirs on sels))] (16*bS (.mk k al nm args dirs on sels)) 0 16 (fun dp=>Yp dp (.mk k al nm args dirs on sels)) (tS (.mk k al nm args dirs on sels)):=by
 intro H w o l ok dp h h0 h1 hb
 have hm':=hm
 simp only[Lim,bS] at hm'
 simp only[bS] at hb
 have hcm:=yS args
 have hcs:=ZI sels
 obtain⟨_,hwd,_⟩:=hw
 subst hk
 refine zi.go ir220 ck220 (Al4 _) fun KP Q hQ=>?_
 have w0:=WR.refl h
 obtain⟨b,hbd⟩:∃ b,b=(decide (nm≠[111,110])&&(decide (al=[])&&(decide (on=[])&&(decide (args.length=0)&&decide (sels.length=0))))):=⟨_,rfl⟩
 have er:Yp dp (.mk 1 al nm args dirs on sels)=(b&&zN nm&&Zh dp false dirs):=by
  rw[hbd];simp only[Yp,show ¬ ((1:Int)=0) by decide,if_false,if_true]
  cases zN nm<;>cases Zh dp false dirs<;>simp
 have et:b=true→tS (.mk 1 al nm args dirs on sels)=pk [46,46,46]::wk nm::tDs dirs:=fun e=>by
  rw[hbd] at e
  simp only[Al0,yH] at e
  simp[tS,e.2.2.2.2]
 by_cases h1:al=[]
 case' neg =>
  have hbv:b=false:=by rw[hbd];simp[h1]
  simp(disch:=omega) only[ir220,yM,h1,go_sem]
 case' pos =>
  by_cases h2:args.length=0
  case' neg =>
   have hbv:b=false:=by rw[hbd];simp[h2]
   have h2':¬ ((args.length:Int)=0):=by omega
   simp(disch:=omega) only[ir220,yM,h1,hcm,h2',go_sem]
  case' pos =>
   have h2':((args.length:Int)=0)=True:=eq_true (by omega)
   by_cases h3:on=[]
   case' neg =>
    have hbv:b=false:=by rw[hbd];simp[h3]
    simp(disch:=omega) only[ir220,yM,h1,hcm,h2',h3,go_sem]
   case' pos =>
    by_cases h4:sels.length=0
    case' neg =>
     have hbv:b=false:=by rw[hbd];simp[h4]
     have h4':¬ ((sels.length:Int)=0):=by omega
     simp(disch:=omega) only[ir220,yM,h1,hcm,h2',h3,hcs,h4',go_sem]
    case' pos =>
     have h4':((sels.length:Int)=0)=True:=eq_true (by omega)
     by_cases h5:nm=[111,110]
     case' pos =>
      have hbv:b=false:=by rw[hbd];simp[h5]
      have h5':=eq_true h5
      simp(disch:=omega) only[ir220,yM,h1,hcm,h2',h3,hcs,h4',h5',go_sem]
     case' neg =>
      have hbv:b=true:=by rw[hbd];simp[h1,h2,h3,h4,h5]
      simp(disch:=omega) only[ir220,yM,h1,hcm,h2',h3,hcs,h4',h5,go_sem]
 all_goals
  refine zu (Yn _) w0 (by omega) (by omega) (by omega) fun o2 l2 H2 w2 _=>?_
  simp(disch:=omega) only[go_sem]
  refine zu (y8 [46,46,46] _) w2 (by omega) (by omega) (by omega) fun o3 l3 H3 w3 _=>?_
  simp(disch:=omega) only[go_sem]
  refine zu (yA nm (by simp only[Lim];omega)) w3 (by omega) (by omega) (by omega) fun o4 l4 H4 w4 _=>?_
  simp(disch:=omega) only[go_sem]
  refine zu (zc9 false dirs hwd (by simp only[Lim];omega)) w4 (by omega) (by omega) (by omega) fun o5 l5 H5 w5 _=>?_
  simp(disch:=omega) only[go_sem]
  exact hQ _ _ H5 H5 [] nofun rfl (Low.refl _) ⟨rfl,w5.fin (by show _=Yp dp _;rw[er,hbv];simp) (fun e=>by have e:Yp dp (.mk 1 al nm args dirs on sels)=true:=e;rw[et (by rw[er] at e;simp only[Al0] at e;exact e.1.1)];simp) (by simp only[bS];omega)⟩
theorem zt3:zN [111,110]=true:=by decide
theorem zpU {c:Nat} (hL:zpy c) (k:Int) (al nm:List UInt8) (args:List Mem) (dirs:List DirD) (on:List UInt8) (sels:List SelD) (hk:k=2) (hc:bSs sels≤c) (hw:wfS (.mk k al nm args dirs on sels)) (hm:16*bS (.mk k al nm args dirs on sels)≤Lim) :
  WC 221 [.agg (cS (.mk k al nm args dirs on sels))] (16*bS (.mk k al nm args dirs on sels)) 0 16 (fun dp=>Yp dp (.mk k al nm args dirs on sels)) (tS (.mk k al nm args dirs on sels)):=by
 intro H w o l ok dp h h0 h1 hb
 have hm':=hm
 simp only[Lim,bS] at hm'
 simp only[bS] at hb
 have hcm:=yS args
 obtain⟨_,hwd,hws⟩:=hw
 subst hk
 refine zi.go ir221 ck221 (Al4 _) fun KP Q hQ=>?_
 have w0:=WR.refl h
 obtain⟨b,hbd⟩:∃ b,b=(decide (nm=[])&&(decide (al=[])&&decide (args.length=0))):=⟨_,rfl⟩
 have er:Yp dp (.mk 2 al nm args dirs on sels)=(b&&(decide (on=[])||zN on)&&Zh dp false dirs&&yy (dp+1) sels):=by
  rw[hbd];simp only[Yp,yy,show ¬ ((2:Int)=0) by decide,show ¬ ((2:Int)=1) by decide,if_false,if_true]
  cases Zh dp false dirs<;>simp[YU]
 have et:b=true∧yy (dp+1) sels=true→tS (.mk 2 al nm args dirs on sels)=pk [46,46,46]::((if on=[] then [] else [wk [111,110],wk on])++(tDs dirs++tBl sels)):=fun⟨e,e2⟩=>by
  simp only[yy,Al0,yH] at e2
  simp[tS,e2.1,tBl]
 by_cases h1:al=[]
 case' neg =>
  have hbv:b=false:=by rw[hbd];simp[h1]
  simp(disch:=omega) only[ir221,yM,h1,go_sem]
 case' pos =>
  by_cases h2:nm=[]
  case' neg =>
   have hbv:b=false:=by rw[hbd];simp[h2]
   simp(disch:=omega) only[ir221,yM,h1,h2,go_sem]
  case' pos =>
   by_cases h3:args.length=0
   case' neg =>
    have hbv:b=false:=by rw[hbd];simp[h3]
    have h3':¬ ((args.length:Int)=0):=by omega
    simp(disch:=omega) only[ir221,yM,h1,h2,hcm,h3',go_sem]
   case' pos =>
    have h3':((args.length:Int)=0)=True:=eq_true (by omega)
    have hbv:b=true:=by rw[hbd];simp[h1,h2,h3]
    simp(disch:=omega) only[ir221,yM,h1,h2,hcm,h3',go_sem]
 all_goals
  refine zu (Yn _) w0 (by omega) (by omega) (by omega) fun o2 l2 H2 w2 _=>?_
  simp(disch:=omega) only[go_sem]
  refine zu (y8 [46,46,46] _) w2 (by omega) (by omega) (by omega) fun o3 l3 H3 w3 _=>?_
  by_cases ho:on=[]
  case' pos =>
   have w5:=w3
   simp(disch:=omega) only[ho,go_sem]
  case' neg =>
   simp(disch:=omega) only[ho,go_sem]
   refine zu (yA [111,110] (by simp[Lim])) w3 (by omega) (by omega) (by omega) fun o4 l4 H4 w4 _=>?_
   simp(disch:=omega) only[go_sem]
   refine zu (yA on (by simp only[Lim];omega)) w4 (by omega) (by omega) (by omega) fun o5 l5 H5 w5 _=>?_
   simp(disch:=omega) only[go_sem]
  all_goals
   refine zu (zc9 false dirs hwd (by simp only[Lim];omega)) w5 (by omega) (by omega) (by omega) fun o6 l6 H6 w6 _=>?_
   simp(disch:=omega) only[go_sem]
   refine zu (zgJ hL sels hc hws (by simp only[Lim];omega)) w6 (by omega) (by omega) (by omega) fun o7 l7 H7 w7 _=>?_
   simp(disch:=omega) only[go_sem]
   exact hQ _ _ H7 H7 [] nofun rfl (Low.refl _) ⟨rfl,w7.fin (by show _=Yp dp _;rw[er,hbv];simp[ho,zt3,YU]) (fun e=>by have e:Yp dp (.mk 2 al nm args dirs on sels)=true:=e;rw[et (by rw[er] at e;simp only[Al0] at e;exact⟨e.1.1.1,e.2⟩)];simp[ho]) (by simp only[bS];omega)⟩
theorem Y9 (dp:Int) (l:List SelD) (x:SelD):y6 dp (l++[x])=(y6 dp l&&Yp dp x):=by rw[zbw];simp[y6]
theorem zg8 (l:List SelD) (x:SelD):tSl (l++[x])=tSl l++tS x:=by rw[znk];simp[tSl]
theorem zhE (l:List SelD) (x:SelD):bSs (l++[x])=bSs l+bS x:=by rw[zaH];simp[bSs]
theorem zll {dp:Int} {l a b:List SelD} {x:SelD} (h:l=a++x::b) (hr:y6 dp a=false):y6 dp l=false:=by
 rw[h,zbw,hr];rfl
theorem WR.castC {H0 H:zb} {o0 o:Own} {w B B':Nat} {l0 l tk tk':List Tok} {ok0 r r':Bool} {dp:Int} (h:WR H0 o0 w l0 ok0 dp B r tk H o l) (hB:B≤B') (hr:r=r') (ht:r'=true→tk=tk'):WR H0 o0 w l0 ok0 dp B' r' tk' H o l:=by
 subst hr
 refine⟨h.here,h.st,by have:=h.len;omega,fun e=>?_⟩
 rw[h.eq e,ht (by simp only[Al0] at e;exact e.2)]
set_option maxHeartbeats 4000000 in
theorem zqA:∀ c,zpy c:=by
 intro c
 induction c using Nat.strongRecOn with
 | _ c ih =>
 intro L hc hwL hm H w o l ok dp h h0 h1 hb
 have hm':=hm
 simp only[Lim] at hm'
 have hcs:=ZI L
 have hLl:=Z6 L
 refine zi.go ir176 ck176 (Al4 _) fun KP Q hQ=>?_
 have w0:=WR.refl h
 have hcell:=h.cell
 by_cases hgood:L.length≠0∧dp≤16
 case neg =>
  have hneed:false=yy dp L:=by
   simp only[yy]
   by_cases hl0:L.length=0
   ·simp[hl0]
   ·simp[show ¬ dp≤16 from fun h=>hgood ⟨hl0,h⟩]
  by_cases hl0:L.length=0
  case' pos =>
   have hl':¬ ((0:Int)<(L.length:Int)):=by omega
   simp(disch:=omega) only[ir176,hcs,hl',go_sem]
  case' neg =>
   have hl':((0:Int)<(L.length:Int))=True:=eq_true (by omega)
   have hdp:¬ dp≤16:=fun h=>hgood ⟨hl0,h⟩
   simp(disch:=omega) only[ir176,hcs,hl',hcell,hdp,go_sem]
  all_goals
   refine zu (Yn _) w0 (by omega) (by omega) (by omega) fun o2 l2 H2 w2 _=>?_
   have hf:(ok&&yy dp L)=false:=by rw[← hneed];simp
   simp(disch:=omega) only[hcs,go_sem]
   refine zf L 20 (fun x:Unit=>[]) (fun done rest x H'=>H'=H2) () (by simp(disch:=omega) only[go_sem]) rfl ?_ ?_
   ·rintro _ H3 J rfl hlt
    simp(disch:=omega) only[hcs,hlt,go_sem]
    exact hQ _ _ H3 H3 [] nofun rfl (Low.refl _) ⟨rfl,w2.fin (by show _=yy dp L;rw[← hneed];simp) (fun e=>by have e:yy dp L=true:=e;rw[← hneed] at e;cases e) (by omega)⟩
   ·rintro done x rest _ H3 J hd hlt hlt2 rfl hJ
    have hg:=Y4 hd
    obtain⟨k,al,nm,args,dirs,on,sels⟩:=x
    rw[yM] at hg
    simp(disch:=omega) only[hcs,hlt,hg,go_sem]
    refine zc fun b hb=>?_
    have w5:=w2.alloc (x:=.cells [.int .i64 k,.str al,.str nm,.sl .no 6 (cMs args),.sl .no 2 (cDs dirs),.str on,.sl .no 7 (cSs sels)]) hb
    have hc5:=w5.here.cell
    simp only[Bool.true_and,Bool.and_false] at hc5
    simp(disch:=omega) only[hc5,go_sem]
    exact hQ _ _ _ _ [] nofun rfl (Low.refl _) ⟨rfl,w5.fin (by show _=yy dp L;rw[← hneed];simp) (fun e=>by have e:yy dp L=true:=e;rw[← hneed] at e;cases e) (by omega)⟩
 obtain⟨hl0,hdp⟩:=hgood
 have hl':((0:Int)<(L.length:Int))=True:=eq_true (by omega)
 have er0:yy dp L=y6 dp L:=by simp[yy,hdp,hl0]
 simp(disch:=omega) only[ir176,hcs,hl',hcell,hdp,go_sem]
 refine zu (Yn _) w0 (by omega) (by omega) (by omega) fun o2 l2 H2 w2 _=>?_
 simp(disch:=omega) only[hcs,go_sem]
 refine zf L 20 (fun x:Own×List Tok=>[]) (fun done rest x H'=>WR H o w l ok dp (16*bSs done) (y6 dp done) (tSl done) H' x.1 x.2) (o2,l2) (by simp(disch:=omega) only[go_sem]) (w2.cast (by simp[bSs]) (by simp[y6]) (by simp[tSl])) ?_ ?_
 ·rintro⟨o3,l3⟩ H3 J w3 hlt
  simp only at w3
  simp(disch:=omega) only[hcs,hlt,go_sem]
  exact hQ _ _ H3 H3 [] nofun rfl (Low.refl _) ⟨rfl,w3.fin er0.symm (fun _=>rfl) (by omega)⟩
 ·rintro done x rest ⟨o3,l3⟩ H3 J hd hlt hlt2 w3 hJ
  simp only at w3
  have hg:=Y4 hd
  have hbm:=zaH done x rest
  rw[← hd] at hbm
  have hmem:x∈L:=by rw[hd];simp
  have hwx:=zkc hwL x hmem
  obtain⟨k,al,nm,args,dirs,on,sels⟩:=x
  have hbx:bS (.mk k al nm args dirs on sels)=1+al.length+nm.length+on.length+bMs args+bDs dirs+bSs sels:=rfl
  have hcss:=ZI sels
  rw[yM] at hg
  simp(disch:=omega) only[hcs,hlt,hg,go_sem]
  refine zc fun b hb=>?_
  have hbw:b≠w:=fun e=>by subst e;rw[w3.here.cell] at hb;cases hb
  have w5:=w3.alloc (x:=.cells [.int .i64 k,.str al,.str nm,.sl .no 6 (cMs args),.sl .no 2 (cDs dirs),.str on,.sl .no 7 (cSs sels)]) hb
  have hbc:(H3.upd b (.cells [.int .i64 k,.str al,.str nm,.sl .no 6 (cMs args),.sl .no 2 (cDs dirs),.str on,.sl .no 7 (cSs sels)])) b=some (.cells [.int .i64 k,.str al,.str nm,.sl .no 6 (cMs args),.sl .no 2 (cDs dirs),.str on,.sl .no 7 (cSs sels)]):=upd_same ..
  have hc5:=w5.here.cell
  cases hok:ok&&y6 dp done with
  | false =>
   rw[hok] at hc5
   have hf:(ok&&yy dp L)=false:=by
    cases ok
    ·rfl
    ·rw[Bool.true_and] at hok ⊢;rw[er0];exact zll hd hok
   simp(disch:=omega) only[hc5,go_sem]
   refine hQ _ _ _ _ [] nofun rfl (Low.refl _) ⟨rfl,o3,l3,?_,w5.st,by have:=w5.len;omega,fun e=>?_⟩
   ·show WAt _ w o3 l3 (ok&&yy dp L) dp
    rw[hf,← hok];exact w5.here
   ·have e:(ok&&yy dp L)=true:=e
    rw[hf] at e;cases e
  | true =>
   rw[hok] at hc5
   have hstep:∀(o6:Own) (l6:List Tok) (H6:zb),WR H o w l ok dp (16*bSs done+16*bS (.mk k al nm args dirs on sels)) (y6 dp done&&Yp dp (.mk k al nm args dirs on sels)) (tSl done++tS (.mk k al nm args dirs on sels)) H6 o6 l6→J ((zax _ [(20,.int .i64 ((done.length:Int)+1))]).keep [0,18,19,20]) H6:=fun o6 l6 H6 w6 =>
    hJ (o6,l6) H6 (w6.cast (by rw[zhE];omega) (Y9 ..).symm (zg8 ..).symm)
   by_cases k1:k=1
   ·have hsp:=zp0 k al nm args dirs on sels k1 hwx (by simp only[Lim];omega)
    rw[yM] at hsp
    subst k1
    simp(disch:=omega) only[hc5,hbc,go_sem]
    refine zu hsp w5 (by omega) (by omega) (by omega) fun o6 l6 H6 w6 s6=>?_
    simp(disch:=omega) only[wrap64,go_sem]
    exact goJ (hstep o6 l6 H6 w6) (by simp(disch:=omega) only[go_sem])
   by_cases k2:k=2
   ·have hsp:=zpU (c:=bSs sels) (ih (bSs sels) (by omega)) k al nm args dirs on sels k2 (Al4 _) hwx (by simp only[Lim];omega)
    rw[yM] at hsp
    subst k2
    simp(disch:=omega) only[hc5,hbc,go_sem]
    refine zu hsp w5 (by omega) (by omega) (by omega) fun o6 l6 H6 w6 s6=>?_
    simp(disch:=omega) only[wrap64,go_sem]
    exact goJ (hstep o6 l6 H6 w6) (by simp(disch:=omega) only[go_sem])
   have hLB:=ih (bSs sels) (by omega)
   obtain⟨hwa,hwd,hws⟩:=hwx
   obtain⟨n,hnd⟩:∃ n,n=(decide (k=0)&&decide (on=[])):=⟨_,rfl⟩
   have er:Yp dp (.mk k al nm args dirs on sels)=(n&&(decide (al=[])||zN al)&&zN nm&&zbC dp false args&&Zh dp false dirs&&(decide (sels.length=0)||yy (dp+1) sels)):=by
    rw[hnd];simp only[Yp,k1,k2,if_false]
    by_cases k0:k=0
    ·simp only[k0,if_true,yy]
     by_cases hz:sels.length=0
     ·simp only[hz,decide_true,Bool.true_or]
      cases Zh dp false dirs<;>cases zN nm<;>cases zbC dp false args<;>simp[Bool.and_comm]
     ·simp only[hz,decide_false,Bool.false_or,ne_eq,not_false_eq_true,decide_true,Bool.true_and]
      cases Zh dp false dirs<;>cases zN nm<;>cases zbC dp false args<;>simp[Bool.and_comm,YU,Bool.and_left_comm]
    ·simp[k0]
   have et:n=true→tS (.mk k al nm args dirs on sels)=(if al=[] then [] else [wk al,pk [58]])++(wk nm::zkj args)++(tDs dirs++(if sels.length=0 then [] else tBl sels)):=fun e=>by
    rw[hnd] at e;simp only[Al0,yH] at e
    simp only[tS,e.1,if_true,tBl]
   by_cases k0:k=0
   case' neg =>
    have hbv:n=false:=by rw[hnd];simp[k0]
    simp(disch:=omega) only[hc5,hbc,k1,k2,k0,go_sem]
   case' pos =>
    have k0':=eq_true k0
    by_cases ho:on=[]
    case' neg =>
     have hbv:n=false:=by rw[hnd];simp[ho]
     simp(disch:=omega) only[hc5,hbc,k1,k2,k0',ho,go_sem]
    case' pos =>
     have hbv:n=true:=by rw[hnd];simp[k0,ho]
     have ho':=eq_true ho
     simp(disch:=omega) only[hc5,hbc,k1,k2,k0',ho',go_sem]
   all_goals
    refine zu (Yn _) w5 (by omega) (by omega) (by omega) fun o6 l6 H6 w6 s6=>?_
    have hb6:=s6.box w5.here.own hbc hbw
    by_cases hal:al=[]
    case' pos =>
     have w8:=w6
     have hb8:=hb6
     simp(disch:=omega) only[hb6,hal,go_sem]
    case' neg =>
     simp(disch:=omega) only[hb6,hal,go_sem]
     refine zu (yA al (by simp only[Lim];omega)) w6 (by omega) (by omega) (by omega) fun o7 l7 H7 w7 s7=>?_
     have hb7:=s7.box w6.here.own hb6 hbw
     simp(disch:=omega) only[hb7,go_sem]
     refine zu (y8 [58] _) w7 (by omega) (by omega) (by omega) fun o8 l8 H8 w8 s8=>?_
     have hb8:=s8.box w7.here.own hb7 hbw
     simp(disch:=omega) only[hb8,go_sem]
    all_goals
     refine zu (yA nm (by simp only[Lim];omega)) w8 (by omega) (by omega) (by omega) fun o9 l9 H9 w9 s9=>?_
     have hb9:=s9.box w8.here.own hb8 hbw
     simp(disch:=omega) only[hb9,go_sem]
     refine zu (zpp false args hwa (by simp only[Lim];omega)) w9 (by omega) (by omega) (by omega) fun oY lY HY wY sY=>?_
     have hbY:=sY.box w9.here.own hb9 hbw
     simp(disch:=omega) only[hbY,go_sem]
     refine zu (zc9 false dirs hwd (by simp only[Lim];omega)) wY (by omega) (by omega) (by omega) fun oZ lZ HZ wZ sZ=>?_
     have hbZ:=sZ.box wY.here.own hbY hbw
     simp(disch:=omega) only[hbZ,go_sem]
     by_cases hz:sels.length=0
     ·have hz':¬ ((0:Int)<(sels.length:Int)):=by omega
      simp(disch:=omega) only[hcss,hz',wrap64,go_sem]
      exact goJ (hJ (oZ,lZ) HZ (wZ.castC (by rw[zhE];simp only[bS];omega) (by rw[Y9,er,hbv];simp[hz,hal,YU]) (fun e=>by rw[zg8,et (by rw[Y9,er] at e;simp only[Al0] at e;exact e.2.1.1.1.1.1)];simp[hz,hal]))) (by simp(disch:=omega) only[go_sem])
     ·have hz':((0:Int)<(sels.length:Int))=True:=eq_true (by omega)
      simp(disch:=omega) only[hcss,hz',hbZ,go_sem]
      refine zu (zgJ hLB sels (Al4 _) hws (by simp only[Lim];omega)) wZ (by omega) (by omega) (by omega) fun oU lU HU wU _=>?_
      simp(disch:=omega) only[wrap64,go_sem]
      exact goJ (hJ (oU,lU) HU (wU.castC (by rw[zhE];simp only[bS];omega) (by rw[Y9,er,hbv];simp[hz,hal,YU]) (fun e=>by rw[zg8,et (by rw[Y9,er] at e;simp only[Al0] at e;exact e.2.1.1.1.1.1)];simp[hz,hal,tBl]))) (by simp(disch:=omega) only[go_sem])
theorem zkH (l:List VarD) (x:VarD):bWs (l++[x])=bWs l+bW x:=by simp[bWs]
theorem zwk (f:FragD) (hw:wfF f) (hm:32*bF f≤Lim):WC 47 [.agg (cF f)] (32*bF f) 0 16 (fun dp=>decide (f.nm≠[111,110])&&(zN f.nm&&(zN f.on&&(Zh dp true f.dirs&&yy (dp+1) f.sels)))) (tF f):=by
 intro H w o l ok dp h h0 h1 hb
 obtain⟨nm,on,dirs,sels⟩:=f
 have hm':=hm
 simp only[Lim,bF] at hm'
 simp only[bF] at hb
 obtain⟨hwd,hws⟩:=hw
 have ef:cF ⟨nm,on,dirs,sels⟩=[.str nm,.str on,.sl .no 2 (cDs dirs),.sl .no 7 (cSs sels)]:=rfl
 refine zi.go ir47 ck47 (Al4 _) fun KP Q hQ=>?_
 have w0:=WR.refl h
 obtain⟨n,hn⟩:∃ n,n=decide (nm≠[111,110]):=⟨_,rfl⟩
 have nf:zN [102,114,97,103,109,101,110,116]=true:=by decide
 by_cases ho:nm=[111,110]
 case' pos =>
  have hbv:n=false:=by rw[hn];simp[ho]
  subst ho
  simp(disch:=first|omega|assumption) only[ir47,ef,go_sem]
  refine zu (Yn _) w0 (by omega) (by omega) (by omega) fun o1 l1 H1 w1 _=>?_
 case' neg =>
  have hbv:n=true:=by rw[hn];simp[ho]
  simp(disch:=first|omega|assumption) only[ir47,ef,ho,go_sem]
  refine zu (Yn _) w0 (by omega) (by omega) (by omega) fun o1 l1 H1 w1 _=>?_
 all_goals
  simp(disch:=first|omega|assumption) only[go_sem]
  refine zu (yA [102,114,97,103,109,101,110,116] (by simp[Lim])) w1 (by omega) (by omega) (by omega) fun o2 l2 H2 w2 _=>?_
  simp(disch:=first|omega|assumption) only[go_sem]
  refine zu (yA _ (by simp only[Lim];first|omega|simp)) w2 (by omega) (by omega) (by omega) fun o3 l3 H3 w3 _=>?_
  simp(disch:=first|omega|assumption) only[go_sem]
  refine zu (yA [111,110] (by simp[Lim])) w3 (by omega) (by omega) (by omega) fun o4 l4 H4 w4 _=>?_
  simp(disch:=first|omega|assumption) only[go_sem]
  refine zu (yA on (by simp only[Lim];omega)) w4 (by omega) (by omega) (by omega) fun o5 l5 H5 w5 _=>?_
  simp(disch:=first|omega|assumption) only[go_sem]
  refine zu (zc9 true dirs hwd (by simp only[Lim];omega)) w5 (by omega) (by omega) (by omega) fun o6 l6 H6 w6 _=>?_
  simp(disch:=first|omega|assumption) only[go_sem]
  refine zu (zgJ (zqA (bSs sels)) sels (Al4 _) hws (by simp only[Lim];omega)) w6 (by omega) (by omega) (by omega) fun o7 l7 H7 w7 _=>?_
  simp(disch:=first|omega|assumption) only[go_sem]
  exact hQ _ _ H7 H7 [] nofun rfl (Low.refl _) ⟨rfl,w7.fin (by simp only[← hn,hbv,nf,zt3];simp[YU]) (fun _=>by simp[tF]) (by simp only[bF];omega)⟩
noncomputable def zdC (dp:Int) (x:VarD):Bool:=zN x.nm&&(zO x.t&&(if x.has then Zd dp true x.d else eqd x.d zV))
noncomputable def zdG (dp:Int) (x:OpD):Bool:=(decide (x.k=0)||decide (x.k=1))&&((decide (x.nm=[])||zN x.nm)&&(x.vars.all (zdC dp)&&(Zh dp true x.dirs&&yy (dp+1) x.sels)))
theorem zxS (x:OpD) (hw:wfO x) (hm:64*bO x≤Lim):WC 46 [.agg (cO x)] (64*bO x) 0 16 (fun dp=>zdG dp x) (tO x):=by
 intro H w o l ok dp h h0 h1 hb
 obtain⟨k,nm,vars,dirs,sels⟩:=x
 have hm':=hm
 simp only[Lim,bO] at hm'
 simp only[bO] at hb
 obtain⟨hwv,hwd,hws⟩:=hw
 have eo:cO ⟨k,nm,vars,dirs,sels⟩=[.int .i64 k,.str nm,.sl .no 10 (cWs vars),.sl .no 2 (cDs dirs),.sl .no 7 (cSs sels)]:=rfl
 have hcw:=Zj vars
 have hvl:=yD vars
 have nq:zN [113,117,101,114,121]=true:=by decide
 have nmu:zN [109,117,116,97,116,105,111,110]=true:=by decide
 refine zi.go ir46 ck46 (Al4 _) fun KP Q hQ=>?_
 have w0:=WR.refl h
 obtain⟨R3,hR3⟩:∃ R3,R3=((decide (k=0)||decide (k=1))&&(decide (nm=[])||zN nm)):=⟨_,rfl⟩
 obtain⟨T3,hT3⟩:∃ T3,T3=(wk (if k=0 then [113,117,101,114,121] else [109,117,116,97,116,105,111,110])::(if nm=[] then [] else [wk nm])):=⟨_,rfl⟩
 have er:zdG dp ⟨k,nm,vars,dirs,sels⟩=(R3&&(vars.all (zdC dp)&&(Zh dp true dirs&&yy (dp+1) sels))):=by
  rw[hR3];simp only[zdG,YU]
 have et:R3=true→tO ⟨k,nm,vars,dirs,sels⟩=T3++(tWs vars++(tDs dirs++tBl sels)):=fun _=>by rw[hT3];simp[tO]
 by_cases hk0:k=0
 case' pos =>
  have hk1:True:=trivial
  have hk0':=eq_true hk0
  simp(disch:=first|omega|assumption) only[ir46,eo,hk0',go_sem]
  refine zu (yA [113,117,101,114,121] (by simp[Lim])) w0 (by omega) (by omega) (by omega) fun o2 l2 H2 w2 _=>?_
 case' neg =>
  by_cases hk1:k=1
  case' pos =>
   have hk1':=eq_true hk1
   simp(disch:=first|omega|assumption) only[ir46,eo,hk0,hk1',go_sem]
   refine zu (yA [109,117,116,97,116,105,111,110] (by simp[Lim])) w0 (by omega) (by omega) (by omega) fun o2 l2 H2 w2 _=>?_
  case' neg =>
   simp(disch:=first|omega|assumption) only[ir46,eo,hk0,hk1,go_sem]
   refine zu (Yn false) w0 (by omega) (by omega) (by omega) fun o2 l2 H2 w2 _=>?_
 all_goals
  by_cases hnm:nm=[]
  case' pos =>
   have w3':=w2
  case' neg =>
   simp(disch:=first|omega|assumption) only[hnm,go_sem]
   refine zu (yA nm (by simp only[Lim];omega)) w2 (by omega) (by omega) (by omega) fun o3 l3 H3 w3' _=>?_
  all_goals
   have w3:=(w3'.castC (B':=2) (r':=R3) (tk':=T3) (by omega) (by rw[hR3];simp[hk0,hk1,hnm,nq,nmu]) (fun e=>by first|(rw[hT3];simp[hk0,hk1,hnm];done)|(exfalso;revert e;rw[hR3];simp[hk0,hk1])))
   clear w3'
   by_cases hv0:vars.length=0
   case' pos =>
    have hv1:¬ ((0:Int)<(vars.length:Int)):=by omega
    have hev:=zib.1 hv0
    simp(disch:=first|omega|assumption) only[hnm,hcw,hv1,go_sem]
    refine zu (zc9 true dirs hwd (by simp only[Lim];omega)) w3 (by omega) (by omega) (by omega) fun oA lA HA wA _=>?_
   case' neg =>
    have hev:=hv0
    have hv1:((0:Int)<(vars.length:Int))=True:=eq_true (by omega)
    simp(disch:=first|omega|assumption) only[hnm,hcw,hv1,go_sem]
    refine zu (y8 [40] _) w3 (by omega) (by omega) (by omega) fun o4 l4 H4 w4 _=>?_
    simp(disch:=first|omega|assumption) only[hcw,go_sem]
    refine zf vars 35 (fun x:Own×List Tok=>[]) (fun done rest x H'=>WR H o w l ok dp (3+32*bWs done) (R3&&done.all (zdC dp)) (T3++(pk [40]::done.flatMap tW)) H' x.1 x.2) (o4,l4) (by simp(disch:=first|omega|assumption) only[go_sem]) (w4.cast (by omega) (by simp) (by simp)) ?_ ?_
    case' refine_1 =>
     rintro⟨o5,l5⟩ H5 J5 w5 hlt
     simp only at w5
     simp(disch:=first|omega|assumption) only[hcw,hlt,go_sem]
     refine zu (y8 [41] _) w5 (by omega) (by omega) (by omega) fun o6 l6 H6 w6 _=>?_
     simp(disch:=first|omega|assumption) only[go_sem]
     refine zu (zc9 true dirs hwd (by simp only[Lim];omega)) w6 (by omega) (by omega) (by omega) fun oA lA HA wA _=>?_
    case refine_2 =>
     rintro done x rest ⟨o5,l5⟩ H5 J5 hd hlt hlt2 w5 hJ5
     simp only at w5
     have hg:=Z9 hd
     have hbm:=zgD done x rest
     rw[← hd] at hbm
     have hwx:=hwv x (by rw[hd];simp)
     obtain⟨vn,⟨tn,tl,tm⟩,vh,vd⟩:=x
     have hwvd:wfV vd:=hwx.2.2
     have hvp:=zcY vd
     have hbx:bW ⟨vn,⟨tn,tl,tm⟩,vh,vd⟩=vn.length+tn.length+bV vd:=rfl
     rw[ziU] at hg
     simp only at hg
     simp(disch:=first|omega|assumption) only[zx,zm,zj,zv,zn,zk,zA,hcw,hlt,hg,go_sem]
     refine zc fun b hb=>?_
     have hbw:b≠w:=fun e=>by subst e;rw[w5.here.cell] at hb;cases hb
     have w6:=w5.alloc (x:=.cells (.str vn::.str tn::.int .i64 tl::.int .i64 tm::.bool vh::cV vd)) hb
     have hbc:(H5.upd b (.cells (.str vn::.str tn::.int .i64 tl::.int .i64 tm::.bool vh::cV vd))) b=some (.cells (.str vn::.str tn::.int .i64 tl::.int .i64 tm::.bool vh::cV vd)):=upd_same ..
     simp(disch:=first|omega|assumption) only[zx,zm,zj,zv,zn,zk,zA,go_sem]
     refine zu (y8 [36] _) w6 (by omega) (by omega) (by omega) fun o7 l7 H7 w7 s7=>?_
     have hb7:=s7.box w6.here.own hbc hbw
     simp(disch:=first|omega|assumption) only[zx,zm,zj,zv,zn,zk,zA,hb7,go_sem]
     refine zu (yA vn (by simp only[Lim];omega)) w7 (by omega) (by omega) (by omega) fun o8 l8 H8 w8 s8=>?_
     have hb8:=s8.box w7.here.own hb7 hbw
     simp(disch:=first|omega|assumption) only[zx,zm,zj,zv,zn,zk,zA,hb8,go_sem]
     refine zu (y8 [58] _) w8 (by omega) (by omega) (by omega) fun o9 l9 H9 w9 s9=>?_
     have hb9:=s9.box w8.here.own hb8 hbw
     simp(disch:=first|omega|assumption) only[zx,zm,zj,zv,zn,zk,zA,hb9,go_sem]
     refine zu (args:=[.agg [.str tn,.int .i64 tl,.int .i64 tm]]) (show WC _ [.agg [.str tn,.int .i64 tl,.int .i64 tm]] 20 (-1000) 1000 (fun _=>zO ⟨tn,tl,tm⟩) (tTy ⟨tn,tl,tm⟩) from zjp ⟨tn,tl,tm⟩ (by simp only[Lim];omega)) w9 (by omega) (by omega) (by omega) fun oC lC HC wC sC=>?_
     have hbC:=sC.box w9.here.own hb9 hbw
     simp(disch:=first|omega|assumption) only[zx,zm,zj,zv,zn,zk,zA,hbC,go_sem]
     refine zu (zjc vh vd hwvd (by simp only[Lim];omega)) wC (by omega) (by omega) (by omega) fun oD lD HD wD sD=>?_
     simp(disch:=first|omega|assumption) only[wrap64,go_sem]
     exact goJ (hJ5 (oD,lD) HD (wD.cast (by rw[zkH];omega) (by simp[zdC,YU]) (by simp[tW]))) (by simp(disch:=first|omega|assumption) only[go_sem])
   all_goals
    simp(disch:=first|omega|assumption) only[go_sem]
    refine zu (zgJ (zqA (bSs sels)) sels (Al4 _) hws (by simp only[Lim];omega)) wA (by omega) (by omega) (by omega) fun oB lB HB wB _=>?_
    simp(disch:=first|omega|assumption) only[go_sem]
    exact hQ _ _ HB HB [] nofun rfl (Low.refl _) ⟨rfl,wB.fin (by show _=zdG dp _;rw[er];simp[hev,YU]) (fun e=>by rw[et (by have e:zdG dp _=true:=e;rw[er] at e;simp only[Al0] at e;exact e.1)];simp[tWs,hv0]) (by simp only[bO];omega)⟩
end Go.Proofs.YtbjofkamhijjlaaGreatDoor
