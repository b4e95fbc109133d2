import Derived.Test.YtbcocdloklbkjaaGreatDoorM1
import Derived.Test.YtbcocdloklbkjaaGreatDoorM2
import Derived.Test.YtbcocdloklbkjaaGreatDoorM3
import Derived.Test.YtbcocdloklbkjaaGreatDoorM4
import Derived.Test.YtbcocdloklbkjaaGreatDoorM5
import Derived.Test.YtbcocdloklbkjaaGreatDoorM6
import Derived.Test.YtbcocdloklbkjaaGreatDoorM7
import Derived.Test.YtbcocdloklbkjaaGreatDoorM8
set_option maxRecDepth 100000
set_option linter.all false
namespace Go.Proofs.YtbcocdloklbkjaaGreatDoor
open Go.Ab
theorem zq3 {H H':zb} {o':Own} {n sz:Nat} (h:OwnS H .nil H' o' n sz):Low H H':=Low.of_sub fun b o hb=>h.kept b o hb fun d e=>by cases e
theorem znN (d:DocD) (n:List UInt8) (b:Nat) (H:zb) (hb:H b=some (.cells (zX d))) (hl:d.frags.length≤Lim):zj Tryz.prog 84 [.str n,.ptr b 0] H (At (.bool (!(yD d n).isSome)) H):=by
 have h1:=zjb d n hl
 cases hf:yD d n with
 | none =>
  rw[hf] at h1
  obtain⟨ops,frags⟩:=d
  simp only[zX] at h1 hb
  refine zj.go ir84 ck84 (Al4 _) fun KP Q hQ=>?_
  simp(disch:=omega) only[ir84,hb,go_sem]
  refine za h1 ?_
  simp(disch:=omega) only[Option.getD,Option.isSome,zFr,Ya,go_sem]
  refine zc fun b4 hb4=>?_
  simp(disch:=omega) only[go_sem]
  exact hQ _ _ _ H _ nofun rfl ((Low.refl _).upd hb4) ⟨rfl,rfl⟩
 | some f =>
  rw[hf] at h1
  obtain⟨nm,on,ds,ss⟩:=f
  obtain⟨ops,frags⟩:=d
  simp only[zX] at h1 hb
  refine zj.go ir84 ck84 (Al4 _) fun KP Q hQ=>?_
  simp(disch:=omega) only[ir84,hb,go_sem]
  refine za h1 ?_
  simp(disch:=omega) only[Option.getD,Option.isSome,Ya,go_sem]
  refine zc fun b4 hb4=>?_
  simp(disch:=omega) only[go_sem]
  exact hQ _ _ _ H _ nofun rfl ((Low.refl _).upd hb4) ⟨rfl,rfl⟩
def zjy (d:DocD) (l:List SelD):Bool:=(Zg l []).any fun n=>!(yD d n).isSome
theorem zq7 (d:DocD) (l:List SelD) (b:Nat) (H:zb) (hb:H b=some (.cells (zX d))) (hl:d.frags.length≤Lim) (hs:bSs l≤Lim):zj Tryz.prog 82 [.sl .no 7 (cSs l),.ptr b 0] H (At (.bool (zjy d l)) H):=by
 have h1:=zrZ l [] .nil H (by simpa using hs) rfl
 have hln:=zek l []
 simp only[Al3] at hln
 have hnil:cT []=[]:=rfl
 rw[hnil] at h1
 have h2:=fun H2 (h:H2 b=some (.cells (zX d)))=>zd0 (fun n:List UInt8=>AV.str n) (Zg l []) 84 [.ptr b 0] (fun n=>!(yD d n).isSome) H2 (by omega) (by kernel_rfl) fun n _=>znN d n b H2 h hl
 unfold zjy
 generalize ((Zg l []).any fun n=>!(yD d n).isSome)=x1 at *
 refine zj.go ir82 ck82 (Al4 _) fun KP Q hQ=>?_
 simp(disch:=omega) only[ir82,go_sem]
 refine zG h1 fun o2 H2 hs2=>?_
 have h3:H2 b=some (.cells (zX d)):=hs2.kept b _ hb fun d e=>by cases e
 simp(disch:=omega) only[go_sem]
 have h4:=zj.low (args:=[.sl o2 1 (cT (Zg l [])),.clo 84 [] [.ptr b 0]]) (h2 H2 h3)
 refine z6 h4 ?_
 rintro _ _ ⟨_,rfl,rfl,rfl⟩
 simp(disch:=omega) only[ZL,go_sem]
 exact hQ _ _ _ H _ nofun rfl (zq3 hs2) ⟨rfl,rfl⟩
def ziN (d:DocD):Bool:=!(Zb d).any (zjy d)
theorem zrY (d:DocD) (hb:zy d≤Lim):zi Tryz.prog 44 [.agg (zX d)] (.bool (ziN d)):=by
 have hfl:=yO d.frags
 have hbd:bOs d.ops+bFs d.frags≤Lim:=hb
 have h1:=fun H=>znU d H hb
 have h2:=fun b H2 (h:H2 b=some (.cells (zX d)))=>zom (fun l:List SelD=>AV.sl .no 7 (cSs l)) (Zb d) 82 [.ptr b 0] (zjy d) H2 (by have:=zfW d;omega) (by kernel_rfl) fun l hl=>zq7 d l b H2 h (by omega) (by have:=zdU hl;omega)
 unfold ziN
 generalize (Zb d).any (zjy d)=x1 at *
 have hcd:zX d=[.sl .no 5 (cOs d.ops),.sl .no 4 (cFs d.frags)]:=rfl
 rw[hcd] at h1 h2 ⊢
 refine zi.go ir44 ck44 (Al4 _) fun KP Q hQ=>?_
 simp(disch:=omega) only[ir44,go_sem]
 refine zc fun b1 hb1=>?_
 simp(disch:=omega) only[go_sem]
 refine zG (h1 _) fun o2 H2 hs2=>?_
 have h3:=hs2.kept b1 _ (upd_same ..) fun d e=>by cases e
 simp(disch:=omega) only[go_sem]
 have h4:=zj.low (args:=[.sl o2 1 (cLL (Zb d)),.clo 82 [] [.ptr b1 0]]) (h2 b1 H2 h3)
 refine z6 h4 ?_
 rintro _ _ ⟨_,rfl,rfl,rfl⟩
 simp(disch:=omega) only[ZL,go_sem]
 exact hQ _ _ _ _ nofun rfl (by simp[zd,ze,AV.strip,AV.strip1])
def Zq (R:List (List UInt8)) (l:List (List UInt8)) (f:FragD):List (List UInt8):=if yu f.nm R=true∧yu f.nm l=false then l++[f.nm] else l
def ZN (d:DocD) (sels:List SelD):List (List UInt8):=d.frags.foldl (Zq (Zj d sels)) []
theorem zoo (d:DocD) (sels:List SelD) (H:zb) (hb:Zc d≤Lim) (hs:bSs sels≤zy d):Y5 Tryz.prog 11 [.agg (zX d),.sl .no 7 (cSs sels)] H .nil 1 (cT (ZN d sels)):=by
 have h0:bFs d.frags≤zy d:=by simp only[zy];omega
 have hb2:=hb
 simp only[Zc] at hb2
 have hR:=fun H=>zgu d sels H (by omega)
 have hRl:=zb0 d sels
 have hb3:2*(zy d+zy d)≤1099511627776:=by simpa only[Lim] using hb2
 have e0:ZN d sels=d.frags.foldl (Zq (Zj d sels)) []:=rfl
 have hC:=fun n=>yP (Zj d sels) n (by omega)
 generalize ZN d sels=F at *
 generalize Zj d sels=R at *
 have hfl:=yO d.frags
 obtain⟨ops,frags⟩:=d
 simp only[zX] at hR e0 hfl h0 ⊢
 have l1:=Y2 frags
 refine zj.goO ir11 ck11 (Al4 _) fun KP Q hQ hP=>?_
 simp(disch:=omega) only[ir11,go_sem]
 refine zG (hR _) fun o0 H0 hs0=>?_
 simp(disch:=omega) only[l1,go_sem]
 refine zf frags 15 (fun x:Own×List (List UInt8)=>[(6,.sl x.1 1 (cT x.2))]) (fun done rest x H'=>rest.foldl (Zq R) x.2=frags.foldl (Zq R) []∧x.2.length≤done.length∧OwnS H .nil H' x.1 x.2.length 1) (.nil,[]) (by simp(disch:=omega) only[cT,List.map,go_sem]) ⟨rfl,Al4 _,⟨rfl,hs0.kept,fun b d e=>by cases e⟩⟩ ?_ ?_
 ·rintro⟨o1,a⟩ H1 J ⟨hn,_,hs1⟩ hlt
  simp only[List.foldl] at hn
  simp(disch:=omega) only[l1,hlt,go_sem]
  refine hQ _ _ H1 H1 [.sl o1 1 (cT a)] nofun (by simp(disch:=omega) only[ir11,zQ,Zv,go_sem]) (Low.refl _) ⟨o1,by rw[e0,← hn];rfl,by rw[e0,← hn,zM];exact hs1⟩
 ·rintro done x rest ⟨o1,a⟩ H1 J hd hlt _ ⟨hn,hle,hs1⟩ hJ
  have hg:=YX hd
  simp only[List.foldl] at hn
  simp only at hle
  replace hs1:OwnS H .nil H1 o1 a.length 1:=hs1
  have h3:=zM a
  obtain⟨nm,on,ds,ss⟩:=x
  have ha:=yP a nm (by simp only[Lim];omega)
  have hst:Zq R a ⟨nm,on,ds,ss⟩=if yu nm R=true∧yu nm a=false then a++[nm] else a:=rfl
  rw[Ya] at hg
  simp(disch:=omega) only[l1,hlt,hg,go_sem]
  refine zc fun b8 hb8=>?_
  have hsu:=hs1.upd (x:=.cells [.str nm,.str on,.sl .no 2 (cDs ds),.sl .no 7 (cSs ss)]) hb8
  simp(disch:=omega) only[go_sem]
  refine za (zi.low (hC nm)) ?_
  cases hh:yu nm R with
  | false =>
   rw[if_neg (by simp[hh])] at hst
   rw[hst] at hn
   simp(disch:=omega) only[go_sem]
   exact goJ (hJ (o1,a) _ ⟨hn,by simp only[Al5,Al2,Al3];omega,hsu⟩) (by simp(disch:=omega) only[wrap64,go_sem])
  | true =>
  simp(disch:=omega) only[go_sem]
  refine za (zi.low ha) ?_
  cases hh2:yu nm a with
  | true =>
   rw[if_neg (by simp[hh2])] at hst
   rw[hst] at hn
   simp(disch:=omega) only[go_sem]
   exact goJ (hJ (o1,a) _ ⟨hn,by simp only[Al5,Al2,Al3];omega,hsu⟩) (by simp(disch:=omega) only[wrap64,go_sem])
  | false =>
   rw[if_pos ⟨hh,hh2⟩] at hst
   rw[hst] at hn
   simp(disch:=omega) only[go_sem]
   refine zw (by rw[h3];exact hsu.own) ?_ ?_ fun o' H3 hs2=>?_
   ·simp only[h3,Al2,Al3];omega
   ·simp only[h3,Al2,Al3,maxLen];omega
   have e1:cT a++[[AV.str nm]]=cT (a++[nm]):=by simp[cT]
   have hs3:=hsu.trans hs2
   simp only[h3,Al2,Al3] at hs3
   simp(disch:=omega) only[wrap64,e1,go_sem]
   exact goJ (hJ (o',a++[nm]) H3 ⟨hn,by simp only[Al5,Al2,Al3];omega,by simpa using hs3⟩) (by simp(disch:=omega) only[wrap64,go_sem])
theorem zsD (f:FragD) (l:List (List UInt8)) (b:Nat) (o:Own) (H:zb) (hb:H b=some (.cells [.sl o 1 (cT l)])) (hl:l.length≤Lim):zj Tryz.prog 86 [.agg (cF f),.ptr b 0] H (At (.bool (!yu f.nm l)) H):=by
 have h1:=yP l f.nm hl
 obtain⟨nm,on,ds,ss⟩:=f
 simp only at h1 ⊢
 generalize yu nm l=x1 at *
 refine zj.go ir86 ck86 (Al4 _) fun KP Q hQ=>?_
 simp(disch:=omega) only[ir86,Ya,hb,go_sem]
 refine za (zi.low h1) ?_
 simp(disch:=omega) only[go_sem]
 exact hQ _ _ _ _ _ nofun rfl (Low.refl _) ⟨by simp[zd,ze,AV.strip,AV.strip1],rfl⟩
theorem zqy {H:zb} {o:Own} {n sz b:Nat} {cs cs':List AV} (h:ya H o n sz) (hb:H b=some (.cells cs)):ya (H.upd b (.cells cs')) o n sz:=by
 cases o with
 | tip c d =>
  have hc:H c=some (.tip (d+n) sz):=h
  have hne:c≠b:=fun e=>by subst e;rw[hb] at hc;cases hc
  show (H.upd b _) c=_
  simp[zb.upd,hne,hc]
 | no=>exact h
 | nil=>exact h
 | full=>exact h
def ztz (d:DocD):List (List UInt8):=d.ops.foldl (fun l o=>l++Zj d o.sels) []
def zi2 (d:DocD):Bool:=!d.frags.any fun f=>!yu f.nm (ztz d)
theorem ztW (d:DocD) (hb:Zc d≤Lim) (hb2:zy d*zy d+zy d≤1099511627776):zi Tryz.prog 46 [.agg (zX d)] (.bool (zi2 d)):=by
 have hb3:=hb
 simp only[Zc] at hb3
 have hb4:2*(zy d+zy d)≤1099511627776:=by simpa only[Lim] using hb3
 have h0:bOs d.ops+bFs d.frags=zy d:=rfl
 have hfl:=yO d.frags
 have hol:=Zt d.ops
 have hR:=fun(o:OpD) (H:zb) (ho:bSs o.sels+bFs d.frags≤zy d)=>zgu d o.sels H (by omega)
 have hRl:=fun o:OpD=>zb0 d o.sels
 have hop:=fun(o:OpD) (ho:o∈d.ops)=>(by
  obtain⟨a,b,hd⟩:=List.append_of_mem ho
  have:=Y1 a o b
  rw[← hd] at this
  simp only[bO] at this;omega:bSs o.sels+bFs d.frags≤zy d)
 have hany:=fun(l:List (List UInt8)) (b:Nat) (o:Own) (H:zb) (hb:H b=some (.cells [.sl o 1 (cT l)])) (hl:l.length≤Lim)=>znq cF (fun _=>rfl) d.frags 86 [.ptr b 0] (fun f=>!yu f.nm l) H (by omega) (by kernel_rfl) fun f _=>zsD f l b o H hb hl
 have e0:zi2 d=!d.frags.any fun f=>!yu f.nm (d.ops.foldl (fun l o=>l++Zj d o.sels) []):=rfl
 generalize zi2 d=F at *
 generalize hRe:Zj d=R at *
 generalize hB:zy d=B at *
 have l1:=Z4 d.ops
 have hmul:d.ops.length*B≤B*B:=Nat.mul_le_mul_right _ (by omega)
 have hcd:zX d=[.sl .no 5 (cOs d.ops),.sl .no 4 (cFs d.frags)]:=rfl
 rw[hcd] at hR ⊢
 refine zi.go ir46 ck46 (Al4 _) fun KP Q hQ=>?_
 simp(disch:=omega) only[ir46,go_sem]
 refine zc fun b3 hb3=>?_
 simp(disch:=omega) only[l1,go_sem]
 refine zf d.ops 9 (fun _:Unit=>[]) (fun done rest _ H'=>∃ o l,rest.foldl (fun l o=>l++R o.sels) l=d.ops.foldl (fun l o=>l++R o.sels) []∧H' b3=some (.cells [.sl o 1 (cT l)])∧ya H' o l.length 1∧l.length≤done.length*B) () (by simp(disch:=omega) only[go_sem]) ⟨.nil,[],rfl,by simp[zb.upd,cT],rfl,by simp⟩ ?_ ?_
 ·rintro _ H1 J ⟨o,l,hn,g3,ho,hle⟩ hlt
  simp only[List.foldl] at hn
  rw[← hn] at e0
  have h5:=zj.low (args:=[.sl .no 4 (cFs d.frags),.clo 86 [] [.ptr b3 0]]) (hany l b3 o H1 g3 (by simp only[Lim];omega))
  simp(disch:=omega) only[l1,hlt,g3,go_sem]
  refine z6 h5 ?_
  rintro _ _ ⟨_,rfl,rfl,rfl⟩
  simp(disch:=omega) only[ZL,go_sem]
  exact hQ _ _ _ _ nofun rfl (by simp[zd,ze,AV.strip,AV.strip1,e0])
 ·rintro done x rest _ H1 J hd hlt hlt2 ⟨o,l,hn,g3,ho,hle⟩ hJ
  have hg:=Ym hd
  have hxm:x∈d.ops:=by rw[hd];simp
  have hxs:=hop x hxm
  have hRx:=fun H=>hR x H hxs
  have hRlx:=hRl x
  have hml:(done.length+1)*B≤d.ops.length*B:=Nat.mul_le_mul_right _ (by omega)
  rw[Nat.add_mul,Nat.one_mul] at hml
  simp only[List.foldl] at hn
  obtain⟨k,nm,vs,ds,ss⟩:=x
  simp only at hRx hRlx hn hxs
  have h3:=zM l
  have h4:=zM (R ss)
  have hRl':(R ss).length≤B:=by omega
  rw[Y3] at hg
  simp(disch:=omega) only[l1,hlt,hg,go_sem]
  refine zc fun b5 hb5=>?_
  have hb53:b5≠b3:=fun e=>by subst e;rw[g3] at hb5;cases hb5
  simp(disch:=omega) only[g3,hb53,Ne.symm hb53,go_sem]
  refine zG (hRx _) fun o2 H2 hs2=>?_
  have k3:=hs2.kept b3 _ (by simp only[zb.upd,Ne.symm hb53,if_false];exact g3) (fun d e=>by cases e)
  have k5:=hs2.kept b5 _ (upd_same ..) (fun d e=>by cases e)
  have ko:ya H2 o l.length 1:=ya.ofKept (ho.upd hb5) hs2.kept fun _ _ _ _ e=>by cases e
  simp(disch:=omega) only[g3,k3,k5,hb53,Ne.symm hb53,go_sem]
  refine zw (by rw[h3];exact ko) ?_ ?_ fun o' H3 hs3=>?_
  ·simp only[h3,h4];omega
  ·simp only[h3,h4,maxLen];omega
  have e1:cT l++(cT (R ss)).map (·.map AV.strip1)=cT (l++R ss):=by simp[cT];intro a _;rfl
  have hs4:=hs3
  simp only[h3,h4] at hs4
  have nt:∀ b c,H2 b=some (.cells c)→∀ d,o≠.tip b d:=fun b c hc d e=>by subst e;simp only[ya] at ko;rw[hc] at ko;cases ko
  have j3:=hs4.kept b3 _ k3 (nt b3 _ k3)
  simp(disch:=omega) only[wrap64,j3,e1,go_sem]
  have hol3:ya (H3.upd b3 (.cells [.sl o' 1 (cT (l++R ss))])) o' (l++R ss).length 1:=zqy (by simpa using hs4.own) j3
  exact goJ (hJ () _ ⟨o',l++R ss,hn,upd_same ..,hol3,by simp only[Al5,Al2,Al3,Nat.add_mul,Nat.one_mul];omega⟩) (by simp(disch:=omega) only[wrap64,go_sem])
noncomputable def zbQ (s:SchD) (d:DocD) (n:Int):Bool :=
 if n=1 then zaJ ((d.ops.map (·.nm)).filter (fun n=>!decide (n=[])))
 else if n=2 then decide (0<d.ops.length)&&(decide (d.ops.length=1)||!yu [] (d.ops.map (·.nm)))
 else if n=3 then !decide (s.m=[])||!d.ops.any fun o=>decide (o.k=1)
 else if n=4 then zaJ (d.frags.map (·.nm))
 else if n=5 then onM s d
 else if n=6 then ziN d
 else if n=7 then !zdy d
 else if n=8 then zi2 d
 else false
theorem zuH (o:OpD):zi Tryz.prog 41 [.agg (cO o)] (.bool (decide (o.k=1))):=by
 obtain⟨k,nm,vs,ds,ss⟩:=o
 rw[Y3]
 refine zi.go ir41 ck41 (Al4 _) fun KP Q hQ=>?_
 simp(disch:=omega) only[ir41,go_sem]
 exact hQ _ _ _ _ nofun rfl (by simp[zd,ze,AV.strip,AV.strip1])
theorem zs2 (s:SchD) (d:DocD) (n:Int) (hs:zN s≤Lim) (hb:Zc d≤Lim) (hb2:zy d*zy d+zy d≤1099511627776):zi Tryz.prog 17 [.agg (zr s),.agg (zX d),.int .i64 n] (.bool (zbQ s d n)):=by
 have hb3:=hb
 simp only[Zc,Lim] at hb3
 have hbd:zy d≤Lim:=by simp only[Lim];omega
 have hd1:=Zt d.ops
 have hd2:=yO d.frags
 have h0:bOs d.ops+bFs d.frags=zy d:=rfl
 have r1:=fun H=>zsU d H hbd
 have r1':=fun o:Own=>zi.low (args:=[.sl o 1 (cT ((d.ops.map (·.nm)).filter (fun n=>!decide (n=[]))))]) (znk ((d.ops.map (·.nm)).filter (fun n=>!decide (n=[]))) (by
  have:=List.length_filter_le (fun n:List UInt8=>!decide (n=[])) (d.ops.map (·.nm))
  rw[List.length_map] at this
  simp only[Lim];omega))
 have r2:=fun H=>zuD d H hbd
 have r2':=fun o:Own=>zi.low (args:=[.sl o 1 (cT (d.ops.map (·.nm))),.str []]) (yP (d.ops.map (·.nm)) [] (by rw[List.length_map];simp only[Lim];omega))
 have r3:=anyOp cO (fun _=>rfl) d.ops 41 [] (fun o=>decide (o.k=1)) (by simp only[Lim];omega) (by kernel_rfl) fun o _=>zuH o
 have r4:=fun H=>zsi d H hbd
 have r4':=fun o:Own=>zi.low (args:=[.sl o 1 (cT (d.frags.map (·.nm)))]) (znk (d.frags.map (·.nm)) (by rw[List.length_map];simp only[Lim];omega))
 have r5:=onC s d (yc hs) hbd
 have r6:=zrY d hbd
 have r7:=zn1 d hb
 have r8:=ztW d hb hb2
 have l1:=Z4 d.ops
 have hol:d.ops.length≤1099511627776:=by omega
 have eR:zbQ s d n=zbQ s d n:=rfl
 conv at eR=>rhs;unfold zbQ
 generalize zbQ s d n=F at *
 generalize zaJ ((d.ops.map (·.nm)).filter (fun n=>!decide (n=[])))=x1 at *
 generalize yu [] (d.ops.map (·.nm))=x2 at *
 generalize d.ops.any (fun o=>decide (o.k=1))=x3 at *
 generalize zaJ (d.frags.map (·.nm))=x4 at *
 generalize onM s d=x5 at *
 generalize ziN d=x6 at *
 generalize zdy d=x7 at *
 generalize zi2 d=x8 at *
 obtain⟨ops,frags⟩:=d
 obtain⟨sd,sq,sm⟩:=s
 have hcd:zX ⟨ops,frags⟩=[.sl .no 5 (cOs ops),.sl .no 4 (cFs frags)]:=rfl
 simp only[zr,hcd] at r1 r2 r3 r4 r5 r6 r7 r8 eR l1 hol ⊢
 refine zi.go ir17 ck17 (Al4 _) fun KP Q hQ=>?_
 by_cases h1:n=1
 ·subst h1
  rw[if_pos rfl] at eR
  subst eR
  simp(disch:=omega) only[ir17,go_sem]
  refine zG (r1 _) fun o1 H1 _=>?_
  simp(disch:=omega) only[go_sem]
  refine za (r1' o1) ?_
  simp(disch:=omega) only[go_sem]
  exact hQ _ _ _ _ nofun rfl (by simp[zd,ze,AV.strip,AV.strip1])
 rw[if_neg h1] at eR
 by_cases h2:n=2
 ·subst h2
  rw[if_pos rfl] at eR
  subst eR
  by_cases z0:0<ops.length
  case neg =>
   have z1:¬ ((0:Int)<ops.length):=by omega
   simp(disch:=omega) only[ir17,l1,z1,go_sem]
   exact hQ _ _ _ _ nofun rfl (by simp[zd,ze,AV.strip,AV.strip1,z0])
  have z1:(0:Int)<ops.length:=by omega
  have z1':((0:Int)<ops.length)=True:=eq_true z1
  by_cases y:ops.length=1
  ·have y':((ops.length:Int)=1)=True:=eq_true (by omega)
   simp(disch:=omega) only[ir17,l1,z1',y',go_sem]
   exact hQ _ _ _ _ nofun rfl (by simp[zd,ze,AV.strip,AV.strip1,z0,y])
  ·have y':¬ ((ops.length:Int)=1):=by omega
   simp(disch:=omega) only[ir17,l1,z1',y',go_sem]
   refine zG (r2 _) fun o1 H1 _=>?_
   simp(disch:=omega) only[go_sem]
   refine za (r2' o1) ?_
   simp(disch:=omega) only[go_sem]
   exact hQ _ _ _ _ nofun rfl (by simp[zd,ze,AV.strip,AV.strip1,z0,y])
 rw[if_neg h2] at eR
 by_cases h3:n=3
 ·subst h3
  rw[if_pos rfl] at eR
  subst eR
  by_cases z:sm=[]
  ·have z':=eq_true z
   simp(disch:=omega) only[ir17,z',go_sem]
   refine za r3 ?_
   simp(disch:=omega) only[go_sem]
   exact hQ _ _ _ _ nofun rfl (by simp[zd,ze,AV.strip,AV.strip1,z])
  ·simp(disch:=omega) only[ir17,z,go_sem]
   exact hQ _ _ _ _ nofun rfl (by simp[zd,ze,AV.strip,AV.strip1,z])
 rw[if_neg h3] at eR
 by_cases h4:n=4
 ·subst h4
  rw[if_pos rfl] at eR
  subst eR
  simp(disch:=omega) only[ir17,go_sem]
  refine zG (r4 _) fun o1 H1 _=>?_
  simp(disch:=omega) only[go_sem]
  refine za (r4' o1) ?_
  simp(disch:=omega) only[go_sem]
  exact hQ _ _ _ _ nofun rfl (by simp[zd,ze,AV.strip,AV.strip1])
 rw[if_neg h4] at eR
 by_cases h5:n=5
 ·subst h5
  rw[if_pos rfl] at eR
  subst eR
  simp(disch:=omega) only[ir17,go_sem]
  refine za r5 ?_
  simp(disch:=omega) only[go_sem]
  exact hQ _ _ _ _ nofun rfl (by simp[zd,ze,AV.strip,AV.strip1])
 rw[if_neg h5] at eR
 by_cases h6:n=6
 ·subst h6
  rw[if_pos rfl] at eR
  subst eR
  simp(disch:=omega) only[ir17,go_sem]
  refine za r6 ?_
  simp(disch:=omega) only[go_sem]
  exact hQ _ _ _ _ nofun rfl (by simp[zd,ze,AV.strip,AV.strip1])
 rw[if_neg h6] at eR
 by_cases h7:n=7
 ·subst h7
  rw[if_pos rfl] at eR
  subst eR
  simp(disch:=omega) only[ir17,go_sem]
  refine za r7 ?_
  simp(disch:=omega) only[go_sem]
  exact hQ _ _ _ _ nofun rfl (by simp[zd,ze,AV.strip,AV.strip1])
 rw[if_neg h7] at eR
 by_cases h8:n=8
 ·subst h8
  rw[if_pos rfl] at eR
  subst eR
  simp(disch:=omega) only[ir17,go_sem]
  refine za r8 ?_
  simp(disch:=omega) only[go_sem]
  exact hQ _ _ _ _ nofun rfl (by simp[zd,ze,AV.strip,AV.strip1])
 rw[if_neg h8] at eR
 subst eR
 simp(disch:=omega) only[ir17,h1,h2,h3,h4,h5,h6,h7,h8,go_sem]
 exact hQ _ _ _ _ nofun rfl (by simp[zd,ze,AV.strip,AV.strip1])
def zoi (s:SchD) (a b:List UInt8):Bool:=(zbi s a).any fun x=>yu x (zbi s b)
theorem zuI (s:SchD) (a b:List UInt8) (hb:zN s+1≤Lim):zi Tryz.prog 91 [.agg (zr s),.str a,.str b] (.bool (zoi s a b)):=by
 have h1:=zoC s a (by omega)
 have h2:=zoC s b (by omega)
 have m1:=zfY s a
 have m2:=zfY s b
 have hb':zN s+1≤1099511627776:=by simpa only[Lim] using hb
 have e0:zoi s a b=(zbi s a).any fun x=>yu x (zbi s b):=rfl
 generalize zoi s a b=F at *
 generalize zbi s a=la at *
 generalize zbi s b=lb at *
 have l1:=zM la
 have l2:=zM lb
 obtain⟨sd,sq,sm⟩:=s
 simp only[zr] at h1 h2 ⊢
 refine zi.go ir91 ck91 (Al4 _) fun KP Q hQ=>?_
 simp(disch:=omega) only[ir91,go_sem]
 refine za h2 ?_
 simp(disch:=omega) only[go_sem]
 refine za h1 ?_
 simp(disch:=omega) only[l1,go_sem]
 refine zf la 20 (fun _:Unit=>[]) (fun done rest _ H=>(rest.any fun x=>yu x lb)=la.any fun x=>yu x lb) () (by simp(disch:=omega) only[go_sem]) rfl ?_ ?_
 ·rintro _ H J hn hlt
  simp(disch:=omega) only[l1,hlt,go_sem]
  exact hQ _ _ _ [.bool false] nofun rfl (by rw[e0,← hn];rfl)
 ·rintro done x rest _ H J hd hlt _ hn hJ
  have hg:=Z0 hd
  rw[List.any_cons] at hn
  simp(disch:=omega) only[l1,hlt,l2,hg,go_sem]
  refine zf lb 26 (fun _:Unit=>[]) (fun done rest _ H=>yu x rest=yu x lb) () (by simp(disch:=omega) only[go_sem]) rfl ?_ ?_
  ·rintro _ H2 J2 hn2 hlt2
   rw[← hn2] at hn
   simp(disch:=omega) only[l2,hlt2,go_sem]
   exact goJ (hJ () _ (by simpa[yu] using hn)) (by simp(disch:=omega) only[wrap64,go_sem])
  ·rintro done2 y rest2 _ H2 J2 hd2 hlt2 _ hn2 hJ2
   have hg2:=Z0 hd2
   simp only[yu] at hn2
   by_cases hxy:y=x
   ·rw[if_pos hxy] at hn2
    rw[← hn2] at hn
    have hxy':(x=y)=True:=eq_true hxy.symm
    simp(disch:=omega) only[l1,hlt,l2,hlt2,hg,hg2,hxy',go_sem]
    exact hQ _ _ _ [.bool true] nofun rfl (by rw[e0,← hn];rfl)
   ·rw[if_neg hxy] at hn2
    have hxy':¬ x=y:=fun h=>hxy h.symm
    simp(disch:=omega) only[l1,hlt,l2,hlt2,hg,hg2,hxy',go_sem]
    exact goJ (hJ2 () _ hn2) (by simp(disch:=omega) only[wrap64,go_sem])
def Yx (s:SchD) (o:OpD):List UInt8:=if o.k=1 then s.m else s.q
theorem zoq (s:SchD) (o:OpD):zi Tryz.prog 66 [.agg (zr s),.agg (cO o)] (.str (Yx s o)):=by
 obtain⟨k,nm,vs,ds,ss⟩:=o
 obtain⟨sd,sq,sm⟩:=s
 simp only[zr,Y3]
 refine zi.go ir66 ck66 (Al4 _) fun KP Q hQ=>?_
 by_cases hk:k=1
 ·subst hk
  simp(disch:=omega) only[ir66,go_sem]
  exact hQ _ _ _ _ nofun rfl (by simp[zd,ze,AV.strip,AV.strip1,Yx])
 ·simp(disch:=omega) only[ir66,hk,go_sem]
  exact hQ _ _ _ _ nofun rfl (by simp[zd,ze,AV.strip,AV.strip1,Yx,hk])
def yZ (s:SchD) (typ:List UInt8):SelD→List UInt8
 | .mk k _ nm _ _ on _=>if k=0 then ((yR s typ nm).getD zF).t.nm else if k=2 then (if on=[] then typ else on) else []
theorem zfP (s:SchD) (typ:List UInt8) (x:SelD) (hb:zN s≤Lim):zi Tryz.prog 89 [.agg (zr s),.str typ,.agg (cS x)] (.str (yZ s typ x)):=by
 obtain⟨k,al,nm,args,dirs,on,xs⟩:=x
 have h1:=zeQ s typ nm hb
 simp only[yZ]
 generalize (yR s typ nm).isSome=fs at *
 generalize (yR s typ nm).getD zF=f at *
 obtain⟨fn,fp,⟨f1,f2,f3⟩,fd⟩:=f
 obtain⟨sd,sq,sm⟩:=s
 simp only[zr,zaq,y6] at h1 ⊢
 refine zi.go ir89 ck89 (Al4 _) fun KP Q hQ=>?_
 by_cases h0:k=0
 ·subst h0
  simp(disch:=omega) only[ir89,go_sem]
  refine za h1 ?_
  simp(disch:=omega) only[go_sem]
  refine zc fun b7 hb7=>?_
  simp(disch:=omega) only[go_sem]
  exact hQ _ _ _ _ nofun rfl (by simp[zd,ze,AV.strip,AV.strip1])
 by_cases h2:k=2
 ·subst h2
  by_cases ho:on=[]
  ·have ho':=eq_true ho
   simp(disch:=omega) only[ir89,ho',go_sem]
   exact hQ _ _ _ _ nofun rfl (by simp[zd,ze,AV.strip,AV.strip1,ho])
  ·simp(disch:=omega) only[ir89,ho,go_sem]
   exact hQ _ _ _ _ nofun rfl (by simp[zd,ze,AV.strip,AV.strip1,ho])
 ·simp(disch:=omega) only[ir89,h0,h2,go_sem]
  exact hQ _ _ _ _ nofun rfl (by simp[zd,ze,AV.strip,AV.strip1,h0,h2])
def ziC (s:SchD) (typ:List UInt8):SelD→Bool
 | .mk k _ nm _ _ _ _=>!decide (k=0)||(yR s typ nm).isSome
theorem zsf (s:SchD) (typ:List UInt8) (x:SelD) (hb:zN s≤Lim):zi Tryz.prog 49 [.agg (zr s),.str typ,.agg (cS x)] (.bool (ziC s typ x)):=by
 obtain⟨k,al,nm,args,dirs,on,xs⟩:=x
 have h1:=zeQ s typ nm hb
 simp only[ziC]
 generalize (yR s typ nm).isSome=fs at *
 generalize (yR s typ nm).getD zF=f at *
 obtain⟨fn,fp,⟨f1,f2,f3⟩,fd⟩:=f
 obtain⟨sd,sq,sm⟩:=s
 simp only[zr,zaq,y6] at h1 ⊢
 refine zi.go ir49 ck49 (Al4 _) fun KP Q hQ=>?_
 by_cases h0:k=0
 ·subst h0
  simp(disch:=omega) only[ir49,go_sem]
  refine za h1 ?_
  simp(disch:=omega) only[go_sem]
  refine zc fun b7 hb7=>?_
  simp(disch:=omega) only[go_sem]
  exact hQ _ _ _ _ nofun rfl (by simp[zd,ze,AV.strip,AV.strip1])
 ·simp(disch:=omega) only[ir49,h0,go_sem]
  refine za h1 ?_
  simp(disch:=omega) only[go_sem]
  refine zc fun b7 hb7=>?_
  simp(disch:=omega) only[h0,go_sem]
  exact hQ _ _ _ _ nofun rfl (by simp[zd,ze,AV.strip,AV.strip1,h0])
mutual
def ztr (s:SchD) (p:List UInt8→SelD→Bool) (typ:List UInt8):SelD→Bool
 | .mk k al nm args dirs on sels=>p typ (.mk k al nm args dirs on sels)&&zay s p (yZ s typ (.mk k al nm args dirs on [])) sels
def zay (s:SchD) (p:List UInt8→SelD→Bool) (typ:List UInt8):List SelD→Bool
 | []=>true
 | x::r=>ztr s p typ x&&zay s p typ r
end
theorem ziK (s:SchD) (typ:List UInt8) (k:Int) (al nm:List UInt8) (args:List Mem) (dirs:List DirD) (on:List UInt8) (xs ys:List SelD):yZ s typ (.mk k al nm args dirs on xs)=yZ s typ (.mk k al nm args dirs on ys):=rfl
def znZ (f:FuncId) (caps:List AV) (p:List UInt8→SelD→Bool) (B:Nat):Prop:=Program.callable Tryz.prog f=true∧∀ typ x,bS x≤B→zi Tryz.prog f (.str typ::.agg (cS x)::caps) (.bool (p typ x))
def zoL (s:SchD) (f:FuncId) (caps:List AV) (p:List UInt8→SelD→Bool) (B:Nat) (sels:List SelD):Prop:=∀ typ,bSs sels≤B→zi Tryz.prog 87 [.agg (zr s),.str typ,.sl .no 7 (cSs sels),.clo f [] caps] (.bool (zay s p typ sels))
theorem zmb (s:SchD) (f:FuncId) (caps:List AV) (p:List UInt8→SelD→Bool) (B:Nat) (hs:zN s≤Lim) (hB:B≤Lim) (hf:znZ f caps p B) (sels:List SelD) (ih:∀ k al nm args dirs on xs,SelD.mk k al nm args dirs on xs∈sels→zoL s f caps p B xs):zoL s f caps p B sels:=by
 intro typ hb
 have hsl:=YA sels
 have hB':B≤1099511627776:=by simpa only[Lim] using hB
 have h1:=YJ sels
 have hW:=fun x=>zfP s typ x hs
 have hih:=fun k al nm args dirs on xs (h:SelD.mk k al nm args dirs on xs∈sels) (hb:bSs xs≤B)=>ih k al nm args dirs on xs h (yZ s typ (.mk k al nm args dirs on xs)) hb
 obtain⟨sd,sq,sm⟩:=s
 generalize hS:(⟨sd,sq,sm⟩:SchD)=s at *
 have hcs:zr s=[.sl .no 6 (cEs sd),.str sq,.str sm]:=by rw[← hS];rfl
 simp only[hcs] at hW hih ⊢
 refine zi.go ir87 ck87 (Al4 _) fun KP Q hQ=>?_
 simp(disch:=omega) only[ir87,h1,go_sem]
 refine zf sels 14 (fun _:Unit=>[(9,.bool true)]) (fun done rest _ H=>zay s p typ rest=zay s p typ sels) () (by simp(disch:=omega) only[go_sem]) rfl ?_ ?_
 ·rintro _ H J hn hlt
  simp(disch:=omega) only[h1,hlt,go_sem]
  exact hQ _ _ _ [.bool true] nofun rfl (by rw[← hn];rfl)
 ·rintro done x rest _ H J hd hlt _ hn hJ
  have hg:=zab hd
  have hmem:x∈sels:=by rw[hd];simp
  have hbx:=zlo hmem
  have hfx:=hf.2 typ x (by omega)
  have hWx:=hW x
  rw[zay] at hn
  obtain⟨k,al,nm,args,dirs,on,xs⟩:=x
  have hx2:=hih _ _ _ _ _ _ _ hmem (by simp only[bS] at hbx;omega)
  rw[ztr,ziK s typ k al nm args dirs on [] xs] at hn
  generalize yZ s typ (.mk k al nm args dirs on xs)=t2 at *
  generalize p typ (.mk k al nm args dirs on xs)=x1 at *
  generalize zay s p t2 xs=x2 at *
  rw[y6] at hg hfx hWx
  simp(disch:=omega) only[h1,hlt,hg,go_sem]
  refine zc fun b11 hb11=>?_
  simp(disch:=omega) only[go_sem]
  refine⟨hf.1,za hfx ?_⟩
  cases x1 with
  | false =>
   simp(disch:=omega) only[go_sem]
   exact hQ _ _ _ [.bool false] nofun rfl (by rw[← hn];rfl)
  | true =>
   simp(disch:=omega) only[go_sem]
   refine za hWx ?_
   simp(disch:=omega) only[go_sem]
   refine za hx2 ?_
   cases x2 with
   | false =>
    simp(disch:=omega) only[go_sem]
    exact hQ _ _ _ [.bool false] nofun rfl (by rw[← hn];rfl)
   | true =>
    simp(disch:=omega) only[go_sem]
    exact goJ (hJ () _ (by simpa using hn)) (by simp(disch:=omega) only[wrap64,go_sem])
theorem ztV (s:SchD) (f:FuncId) (caps:List AV) (p:List UInt8→SelD→Bool) (B:Nat) (hs:zN s≤Lim) (hB:B≤Lim) (hf:znZ f caps p B) (sels:List SelD):zoL s f caps p B sels:=by
 have h:∀ x:SelD,∀ k al nm args dirs on xs,x=.mk k al nm args dirs on xs→zoL s f caps p B xs:=SelD.ind fun k al nm args dirs on sels ih=>by
  intro k' al' nm' args' dirs' on' xs e
  cases e
  exact zmb s f caps p B hs hB hf sels fun k al nm args dirs on xs hm=>ih _ hm _ _ _ _ _ _ _ rfl
 exact zmb s f caps p B hs hB hf sels fun k al nm args dirs on xs _=>h _ k al nm args dirs on xs rfl
def Yc (s:SchD) (d:DocD) (p:List UInt8→SelD→Bool):Bool:=(d.ops.all fun o=>zay s p (Yx s o) o.sels)&&d.frags.all fun f=>zay s p f.on f.sels
theorem zo9 (s:SchD) (d:DocD) (f:FuncId) (caps:List AV) (p:List UInt8→SelD→Bool) (hs:zN s≤Lim) (hb:zy d≤Lim) (hf:znZ f caps p (zy d)) :
  zi Tryz.prog 47 [.agg (zr s),.agg (zX d),.clo f [] caps] (.bool (Yc s d p)):=by
 have hA:=fun sels=>ztV s f caps p (zy d) hs hb hf sels
 have hR:=fun o=>zoq s o
 have hb':bOs d.ops+bFs d.frags≤1099511627776:=by simpa only[Lim,zy] using hb
 have hol:=Zt d.ops
 have hfl:=yO d.frags
 have l1:=Z4 d.ops
 have l2:=Y2 d.frags
 have hop:=fun(o:OpD) (ho:o∈d.ops)=>(by
  obtain⟨a,b,hd⟩:=List.append_of_mem ho
  have:=Y1 a o b
  rw[← hd] at this
  simp only[bO] at this;simp only[zy];omega:bSs o.sels≤zy d)
 have hfr:=fun(f:FragD) (h:f∈d.frags)=>(by have:=zbw h;have:=zag f;simp only[zy];omega:bSs f.sels≤zy d)
 have e0:Yc s d p=((d.ops.all fun o=>zay s p (Yx s o) o.sels)&&d.frags.all fun f=>zay s p f.on f.sels):=rfl
 generalize Yc s d p=F at *
 obtain⟨ops,frags⟩:=d
 simp only at l1 l2 hol hfl hb' hop hfr e0
 obtain⟨sd,sq,sm⟩:=s
 generalize hS:(⟨sd,sq,sm⟩:SchD)=s at *
 have hcs:zr s=[.sl .no 6 (cEs sd),.str sq,.str sm]:=by rw[← hS];rfl
 unfold zoL at hA
 simp only[hcs,zX] at hA hR ⊢
 refine zi.go ir47 ck47 (Al4 _) fun KP Q hQ=>?_
 have fin:∀ r,F=r→∀ ρ H,zQ ρ H ir47.res=some [.bool r]→Q .ret ρ H:=fun r e ρ H h1=>hQ _ ρ H _ nofun h1 (by rw[e];rfl)
 simp(disch:=omega) only[ir47,l1,go_sem]
 refine zf ops 14 (fun _:Unit=>[]) (fun done rest _ H=>(rest.all fun o=>zay s p (Yx s o) o.sels)=ops.all fun o=>zay s p (Yx s o) o.sels) () (by simp(disch:=omega) only[go_sem]) rfl ?_ ?_
 ·rintro _ H J hn hlt
  simp(disch:=omega) only[l1,hlt,l2,go_sem]
  refine zf frags 31 (fun _:Unit=>[]) (fun done rest _ H=>(rest.all fun f=>zay s p f.on f.sels)=frags.all fun f=>zay s p f.on f.sels) () (by simp(disch:=omega) only[go_sem]) rfl ?_ ?_
  ·rintro _ H J hn2 hlt
   simp(disch:=omega) only[l2,hlt,go_sem]
   exact fin true (by rw[e0,← hn,← hn2];rfl) _ _ rfl
  ·rintro done x rest _ H J hd hlt _ hn2 hJ
   have hg:=YX hd
   have hx:=hA x.sels x.on (hfr x (by rw[hd];simp))
   rw[List.all_cons] at hn2
   obtain⟨nm,on,ds,ss⟩:=x
   simp only at hx hn2
   rw[Ya] at hg
   simp(disch:=omega) only[l2,hlt,hg,go_sem]
   refine zc fun b10 hb10=>?_
   simp(disch:=omega) only[go_sem]
   refine za hx ?_
   cases hv:zay s p on ss with
   | false =>
    rw[hv] at hn2
    simp(disch:=omega) only[go_sem]
    exact fin false (by rw[e0,← hn2];simp) _ _ rfl
   | true =>
    rw[hv] at hn2
    simp(disch:=omega) only[go_sem]
    exact goJ (hJ () _ (by simpa using hn2)) (by simp(disch:=omega) only[wrap64,go_sem])
 ·rintro done x rest _ H J hd hlt _ hn hJ
  have hg:=Ym hd
  have hx:=hA x.sels (Yx s x) (hop x (by rw[hd];simp))
  have hr:=hR x
  rw[List.all_cons] at hn
  generalize Yx s x=rt at *
  obtain⟨k,nm,vs,ds,ss⟩:=x
  simp only at hx hn
  rw[Y3] at hg hr
  simp(disch:=omega) only[l1,hlt,hg,go_sem]
  refine zc fun b8 hb8=>?_
  simp(disch:=omega) only[go_sem]
  refine za hr ?_
  simp(disch:=omega) only[go_sem]
  refine za hx ?_
  cases hv:zay s p rt ss with
  | false =>
   rw[hv] at hn
   simp(disch:=omega) only[go_sem]
   exact fin false (by rw[e0,← hn];simp) _ _ rfl
  | true =>
   rw[hv] at hn
   simp(disch:=omega) only[go_sem]
   exact goJ (hJ () _ (by simpa using hn)) (by simp(disch:=omega) only[wrap64,go_sem])
def zl1 (s:SchD) (typ:List UInt8):SelD→Bool
 | .mk k al nm args dirs on sels=>!decide (k=0)||((!zao s (yZ s typ (.mk k al nm args dirs on sels))&&!ZT s (yZ s typ (.mk k al nm args dirs on sels))) ||
  (ZT s (yZ s typ (.mk k al nm args dirs on sels))==decide (0<sels.length)))
theorem zr2 (s:SchD) (typ:List UInt8) (x:SelD) (hb:zN s≤Lim):zi Tryz.prog 50 [.agg (zr s),.str typ,.agg (cS x)] (.bool (zl1 s typ x)):=by
 have hw:=zfP s typ x hb
 have hl:=yc hb
 have h1:=ziV s (yZ s typ x) hl
 have h2:=zfU s (yZ s typ x) hl
 obtain⟨k,al,nm,args,dirs,on,xs⟩:=x
 simp only[zl1]
 generalize yZ s typ (.mk k al nm args dirs on xs)=t at *
 generalize zao s t=x1 at *
 generalize ZT s t=x2 at *
 have hx:=YJ xs
 obtain⟨sd,sq,sm⟩:=s
 simp only[zr,y6] at hw h1 h2 ⊢
 refine zi.go ir50 ck50 (Al4 _) fun KP Q hQ=>?_
 by_cases h0:k=0
 case neg =>
  simp(disch:=omega) only[ir50,h0,go_sem]
  exact hQ _ _ _ _ nofun rfl (by simp[zd,ze,AV.strip,AV.strip1,h0])
 subst h0
 simp(disch:=omega) only[ir50,go_sem]
 refine za hw ?_
 simp(disch:=omega) only[go_sem]
 refine za h1 ?_
 cases x1 with
 | true =>
  simp(disch:=omega) only[hx,go_sem]
  refine za h2 ?_
  simp(disch:=omega) only[hx,go_sem]
  exact hQ _ _ _ _ nofun rfl (by cases x2<;>by_cases h:(0:Int)<xs.length<;>simp_all [zd,ze,AV.strip,AV.strip1])
 | false =>
  simp(disch:=omega) only[hx,go_sem]
  refine za h2 ?_
  cases x2 with
  | false =>
   simp(disch:=omega) only[hx,go_sem]
   exact hQ _ _ _ _ nofun rfl (by simp[zd,ze,AV.strip,AV.strip1])
  | true =>
   simp(disch:=omega) only[hx,go_sem]
   refine za h2 ?_
   simp(disch:=omega) only[hx,go_sem]
   exact hQ _ _ _ _ nofun rfl (by by_cases h:(0:Int)<xs.length<;>simp_all [zd,ze,AV.strip,AV.strip1])
def zll (s:SchD) (d:DocD) (typ:List UInt8):SelD→Bool
 | .mk k _ nm _ _ on _=>if k=2 then decide (on=[])||zoi s typ on else if k=1 then zoi s typ ((yD d nm).getD zFr).on else true
theorem zso (s:SchD) (d:DocD) (typ:List UInt8) (x:SelD) (hb:zN s+1≤Lim) (hd:d.frags.length≤Lim):zi Tryz.prog 51 [.agg (zr s),.agg (zX d),.str typ,.agg (cS x)] (.bool (zll s d typ x)):=by
 have hm:=fun n=>zuI s typ n hb
 obtain⟨k,al,nm,args,dirs,on,xs⟩:=x
 have hf:=zjb d nm hd
 simp only[zll]
 generalize (yD d nm).isSome=fs at *
 generalize (yD d nm).getD zFr=f at *
 obtain⟨fn,fo,fd,fss⟩:=f
 obtain⟨ops,frags⟩:=d
 obtain⟨sd,sq,sm⟩:=s
 simp only[zr,zX,y6,Ya] at hm hf ⊢
 refine zi.go ir51 ck51 (Al4 _) fun KP Q hQ=>?_
 by_cases h2:k=2
 ·subst h2
  by_cases ho:on=[]
  ·have ho':=eq_true ho
   simp(disch:=omega) only[ir51,ho',go_sem]
   exact hQ _ _ _ _ nofun rfl (by simp[zd,ze,AV.strip,AV.strip1,ho])
  ·simp(disch:=omega) only[ir51,ho,go_sem]
   refine za (hm on) ?_
   simp(disch:=omega) only[go_sem]
   exact hQ _ _ _ _ nofun rfl (by simp[zd,ze,AV.strip,AV.strip1,ho])
 by_cases h1:k=1
 ·subst h1
  simp(disch:=omega) only[ir51,go_sem]
  refine za hf ?_
  simp(disch:=omega) only[go_sem]
  refine zc fun b10 hb10=>?_
  simp(disch:=omega) only[go_sem]
  refine za (hm fo) ?_
  simp(disch:=omega) only[go_sem]
  exact hQ _ _ _ _ nofun rfl (by simp[zd,ze,AV.strip,AV.strip1])
 ·simp(disch:=omega) only[ir51,h1,h2,go_sem]
  exact hQ _ _ _ _ nofun rfl (by simp[zd,ze,AV.strip,AV.strip1,h1,h2])
def zn6 (s:SchD) (d:DocD) (n:Int) (typ:List UInt8) (x:SelD):Bool:=if n=9 then ziC s typ x else if n=10 then zl1 s typ x else if n=11 then zll s d typ x else false
theorem zna (s:SchD) (d:DocD) (n:Int) (hb:zN s+1≤Lim) (hd:d.frags.length≤Lim) (typ:List UInt8) (x:SelD):zi Tryz.prog 48 [.str typ,.agg (cS x),.view [.int .i64 n],.view (zr s),.view (zX d)] (.bool (zn6 s d n typ x)):=by
 have h1:=zsf s typ x (by omega)
 have h2:=zr2 s typ x (by omega)
 have h3:=zso s d typ x hb hd
 unfold zn6
 generalize ziC s typ x=x1 at *
 generalize zl1 s typ x=x2 at *
 generalize zll s d typ x=x3 at *
 obtain⟨k,al,nm,args,dirs,on,xs⟩:=x
 obtain⟨ops,frags⟩:=d
 obtain⟨sd,sq,sm⟩:=s
 simp only[zr,zX,y6] at h1 h2 h3 ⊢
 refine zi.go ir48 ck48 (Al4 _) fun KP Q hQ=>?_
 by_cases n1:n=9
 ·subst n1
  simp(disch:=omega) only[ir48,go_sem]
  refine za h1 ?_
  simp(disch:=omega) only[go_sem]
  exact hQ _ _ _ _ nofun rfl (by simp[zd,ze,AV.strip,AV.strip1])
 by_cases n2:n=10
 ·subst n2
  simp(disch:=omega) only[ir48,go_sem]
  refine za h2 ?_
  simp(disch:=omega) only[go_sem]
  exact hQ _ _ _ _ nofun rfl (by simp[zd,ze,AV.strip,AV.strip1])
 by_cases n3:n=11
 ·subst n3
  simp(disch:=omega) only[ir48,go_sem]
  refine za h3 ?_
  simp(disch:=omega) only[go_sem]
  exact hQ _ _ _ _ nofun rfl (by simp[zd,ze,AV.strip,AV.strip1])
 ·simp(disch:=omega) only[ir48,n1,n2,n3,go_sem]
  exact hQ _ _ _ _ nofun rfl (by simp[zd,ze,AV.strip,AV.strip1,n1,n2,n3])
def zcS (s:SchD) (d:DocD) (n:Int):Bool:=Yc s d (zn6 s d n)&&(decide (9≤n)&&decide (n≤11))
theorem znW (s:SchD) (d:DocD) (n:Int) (hb:zN s+1≤Lim) (hd:zy d≤Lim):zi Tryz.prog 18 [.agg (zr s),.agg (zX d),.int .i64 n] (.bool (zcS s d n)):=by
 have hfl:=yO d.frags
 have hbd:bOs d.ops+bFs d.frags≤Lim:=hd
 have h1:=zo9 s d 48 [.view [.int .i64 n],.view (zr s),.view (zX d)] (zn6 s d n) (by omega) hd ⟨by kernel_rfl,fun typ x _=>zna s d n hb (by omega) typ x⟩
 unfold zcS
 generalize Yc s d (zn6 s d n)=x1 at *
 obtain⟨ops,frags⟩:=d
 obtain⟨sd,sq,sm⟩:=s
 simp only[zr,zX] at h1 ⊢
 refine zi.go ir18 ck18 (Al4 _) fun KP Q hQ=>?_
 simp(disch:=omega) only[ir18,go_sem]
 refine za h1 ?_
 cases x1 with
 | false =>
  simp(disch:=omega) only[go_sem]
  exact hQ _ _ _ _ nofun rfl (by simp[zd,ze,AV.strip,AV.strip1])
 | true =>
  by_cases n1:9≤n
  ·simp(disch:=omega) only[n1,go_sem]
   exact hQ _ _ _ _ nofun rfl (by simp[zd,ze,AV.strip,AV.strip1,n1])
  ·simp(disch:=omega) only[n1,go_sem]
   exact hQ _ _ _ _ nofun rfl (by simp[zd,ze,AV.strip,AV.strip1,n1])
theorem zf3 (nm:List UInt8) (args:List Mem):cD ⟨nm,args⟩=[.str nm,.sl .no 6 (cMs args)]:=rfl
def zbk (n:List UInt8):Option VarD:=if n=[115,107,105,112]∨n=[105,110,99,108,117,100,101] then some ⟨[105,102],⟨[66,111,111,108,101,97,110],0,1⟩,false,zV⟩ else none
theorem zhb (n:List UInt8):zi Tryz.prog 93 [.str n] (.tup [.agg (cW ((zbk n).getD zW)),.bool (zbk n).isSome]):=by
 refine zi.go ir93 ck93 (Al4 _) fun KP Q hQ=>?_
 have fin:∀ o,zbk n=o→∀ ρ H vs,zQ ρ H ir93.res=some vs→(zd vs).strip=.tup [.agg (cW (o.getD zW)),.bool o.isSome]→Q .ret ρ H:=fun o e ρ H vs h1 h2=>hQ _ ρ H vs nofun h1 (by rw[h2,e])
 by_cases h1:n=[115,107,105,112]
 ·have e:zbk n=some ⟨[105,102],⟨[66,111,111,108,101,97,110],0,1⟩,false,zV⟩:=if_pos (.inl h1)
  have h1':=eq_true h1
  simp(disch:=omega) only[ir93,go_sem]
  refine zc fun b2 hb2=>?_
  simp(disch:=omega) only[h1',go_sem]
  exact fin _ e _ _ [.agg [.str [105,102],.str [66,111,111,108,101,97,110],.int .i64 0,.int .i64 1,.bool false,.int .i64 0,.int .i64 0,.str [],.sl .nil 5 [],.sl .nil 6 []],.bool true] (by simp(disch:=omega) only[ir93,zQ,Zv,go_sem]) rfl
 by_cases h2:n=[105,110,99,108,117,100,101]
 ·have e:zbk n=some ⟨[105,102],⟨[66,111,111,108,101,97,110],0,1⟩,false,zV⟩:=if_pos (.inr h2)
  have h2':=eq_true h2
  simp(disch:=omega) only[ir93,go_sem]
  refine zc fun b2 hb2=>?_
  simp(disch:=omega) only[h1,h2',go_sem]
  exact fin _ e _ _ [.agg [.str [105,102],.str [66,111,111,108,101,97,110],.int .i64 0,.int .i64 1,.bool false,.int .i64 0,.int .i64 0,.str [],.sl .nil 5 [],.sl .nil 6 []],.bool true] (by simp(disch:=omega) only[ir93,zQ,Zv,go_sem]) rfl
 have e:zbk n=none:=if_neg (fun h=>h.elim h1 h2)
 simp(disch:=omega) only[ir93,go_sem]
 refine zc fun b2 hb2=>?_
 simp(disch:=omega) only[h1,h2,go_sem]
 exact fin _ e _ _ [.agg [.str [],.str [],.int .i64 0,.int .i64 0,.bool false,.int .i64 0,.int .i64 0,.str [],.sl .nil 5 [],.sl .nil 6 []],.bool false] (by simp(disch:=omega) only[ir93,zQ,Zv,go_sem]) rfl
def Z3 (l:List DirD):Bool:=l.all fun d=>(zbk d.nm).isSome
theorem zmQ (l:List DirD) (hl:l.length≤Lim):zi Tryz.prog 53 [.sl .no 2 (cDs l)] (.bool (Z3 l)):=by
 refine zi.go ir53 ck53 (Al4 _) fun KP Q hQ=>?_
 have h1:=YQ l
 simp only[Lim] at hl
 simp(disch:=omega) only[ir53,h1,go_sem]
 refine zf l 9 (fun _:Unit=>[]) (fun done rest _ H=>Z3 rest=Z3 l) () (by simp(disch:=omega) only[go_sem]) rfl ?_ ?_
 ·rintro _ H J hn hlt
  simp(disch:=omega) only[h1,hlt,go_sem]
  exact hQ _ _ _ [.bool true] nofun rfl (by rw[← hn];rfl)
 ·rintro done x rest _ H J hd hlt _ hn hJ
  have hg:=zal hd
  have hstep:Z3 (x::rest)=((zbk x.nm).isSome&&Z3 rest):=by simp[Z3]
  rw[hstep] at hn
  obtain⟨nm,args⟩:=x
  have hP:=zhb nm
  simp only at hn
  rw[zf3] at hg
  generalize (zbk nm).getD zW=w at *
  obtain⟨wn,⟨w1,w2,w3⟩,wh,⟨wk,wq,ws,wl,wm⟩⟩:=w
  rw[z7] at hP
  simp(disch:=omega) only[h1,hlt,hg,go_sem]
  refine zc fun b4 hb4=>?_
  simp(disch:=omega) only[go_sem]
  refine za hP ?_
  simp(disch:=omega) only[go_sem]
  refine zc fun b5 hb5=>?_
  have hne:=yW hb5
  cases hv:(zbk nm).isSome with
  | false =>
   rw[hv] at hn
   simp(disch:=omega) only[hne,Ne.symm hne,go_sem]
   exact hQ _ _ _ [.bool false] nofun rfl (by rw[← hn];rfl)
  | true =>
   rw[hv] at hn
   simp(disch:=omega) only[hne,Ne.symm hne,go_sem]
   exact goJ (hJ () _ (by simpa using hn)) (by simp(disch:=omega) only[wrap64,go_sem])
theorem zmT (l:List DirD):zi Tryz.prog 55 [.sl .no 2 (cDs l)] (.bool (decide (l.length=0))):=by
 have h1:=YQ l
 refine zi.go ir55 ck55 (Al4 _) fun KP Q hQ=>?_
 simp(disch:=omega) only[ir55,h1,go_sem]
 exact hQ _ _ _ _ nofun rfl (by simp[zd,ze,AV.strip,AV.strip1])
def cLD (l:List (List DirD)):List (List AV):=l.map fun x=>[.sl .no 2 (cDs x)]
theorem zfK (l:List (List DirD)):(cLD l).length=l.length:=by simp[cLD]
theorem zqB {l a:List (List DirD)} {x:List DirD} {b:List (List DirD)} (h:l=a++x::b):(cLD l).getD a.length []=[.sl .no 2 (cDs x)]:=yQ h
def zcJ (d:DocD):List (List DirD):=d.ops.map (·.dirs)++d.frags.map (·.dirs)
theorem zuv (d:DocD) (H:zb) (hb:zy d≤Lim):Y5 Tryz.prog 92 [.agg (zX d)] H .nil 1 (cLD (zcJ d)):=by
 obtain⟨ops,frags⟩:=d
 have hb':bOs ops+bFs frags≤1099511627776:=by simpa only[Lim,zy] using hb
 have l1:=Z4 ops
 have l2:=Y2 frags
 have m1:=Zt ops
 have m2:=yO frags
 rw[show zX ⟨ops,frags⟩=[.sl .no 5 (cOs ops),.sl .no 4 (cFs frags)] from rfl]
 refine zj.goO ir92 ck92 (Al4 _) fun KP Q hQ hP=>?_
 simp(disch:=omega) only[ir92,l1,go_sem]
 refine zf ops 11 (fun x:Own×List (List DirD)=>[(3,.sl x.1 1 (cLD x.2))]) (fun done rest x H'=>x.2=done.map (·.dirs)∧OwnS H .nil H' x.1 done.length 1) (.nil,[]) (by simp(disch:=omega) only[cLD,List.map,go_sem]) ⟨rfl,OwnS.refl (o:=.nil) (n:=0) rfl⟩ ?_ ?_
 ·rintro⟨o1,a⟩ H1 J ⟨hn,hs⟩ hlt
  simp only at hn
  subst hn
  replace hs:OwnS H .nil H1 o1 ops.length 1:=hs
  simp(disch:=omega) only[l1,hlt,l2,go_sem]
  refine zf frags 24 (fun x:Own×List (List DirD)=>[(3,.sl x.1 1 (cLD x.2))]) (fun done rest x H'=>x.2=ops.map (·.dirs)++done.map (·.dirs)∧OwnS H .nil H' x.1 (ops.length+done.length) 1) (o1,ops.map (·.dirs)) (by simp(disch:=omega) only[go_sem]) ⟨by simp,hs⟩ ?_ ?_
  ·rintro⟨o2,a⟩ H2 J ⟨hn,hs⟩ hlt
   simp only at hn
   subst hn
   simp(disch:=omega) only[l2,hlt,go_sem]
   refine hQ _ _ H2 H2 [.sl o2 1 (cLD (zcJ ⟨ops,frags⟩))] nofun (by simp(disch:=omega) only[ir92,zQ,Zv,zcJ,go_sem]) (Low.refl _) ⟨o2,rfl,by rw[zfK];simpa[zcJ] using hs⟩
  ·rintro done x rest ⟨o2,a⟩ H2 J hd hlt _ ⟨hn,hs⟩ hJ
   have hg:=YX hd
   simp only at hn
   subst hn
   have h3:=zfK (ops.map (·.dirs)++done.map (·.dirs))
   simp only[Al5,List.length_map] at h3
   replace hs:OwnS H .nil H2 o2 (ops.length+done.length) 1:=hs
   obtain⟨nm,on,ds,ss⟩:=x
   rw[Ya] at hg
   simp(disch:=omega) only[l2,hlt,hg,go_sem]
   refine zc fun b7 hb7=>?_
   have hsu:=hs.upd (x:=.cells [.str nm,.str on,.sl .no 2 (cDs ds),.sl .no 7 (cSs ss)]) hb7
   simp(disch:=omega) only[go_sem]
   refine zw (by rw[h3];exact hsu.own) ?_ ?_ fun o' H3 hs2=>?_
   ·simp only[h3,Al2,Al3];omega
   ·simp only[h3,Al2,Al3,maxLen];omega
   have e1:cLD (ops.map (·.dirs)++done.map (·.dirs))++[[AV.sl .no 2 (cDs ds)]]=cLD (ops.map (·.dirs)++(done.map (·.dirs)++[ds])):=by simp[cLD]
   have hs3:=hsu.trans hs2
   simp only[h3,Al2,Al3] at hs3
   simp(disch:=omega) only[wrap64,e1,go_sem]
   exact goJ (hJ (o',ops.map (·.dirs)++(done.map (·.dirs)++[ds])) H3 ⟨by simp,by simpa[Nat.add_assoc] using hs3⟩) (by simp(disch:=omega) only[wrap64,go_sem])
 ·rintro done x rest ⟨o1,a⟩ H1 J hd hlt _ ⟨hn,hs⟩ hJ
  have hg:=Ym hd
  simp only at hn
  subst hn
  have h3:=zfK (done.map (·.dirs))
  simp only[List.length_map] at h3
  replace hs:OwnS H .nil H1 o1 done.length 1:=hs
  obtain⟨k,nm,vs,ds,ss⟩:=x
  rw[Y3] at hg
  simp(disch:=omega) only[l1,hlt,hg,go_sem]
  refine zc fun b5 hb5=>?_
  have hsu:=hs.upd (x:=.cells [.int .i64 k,.str nm,.sl .no 10 (cWs vs),.sl .no 2 (cDs ds),.sl .no 7 (cSs ss)]) hb5
  simp(disch:=omega) only[go_sem]
  refine zw (by rw[h3];exact hsu.own) ?_ ?_ fun o' H3 hs2=>?_
  ·simp only[h3,Al2,Al3];omega
  ·simp only[h3,Al2,Al3,maxLen];omega
  have e1:cLD (done.map (·.dirs))++[[AV.sl .no 2 (cDs ds)]]=cLD (done.map (·.dirs)++[ds]):=by simp[cLD]
  have hs3:=hsu.trans hs2
  simp only[h3,Al2,Al3] at hs3
  simp(disch:=omega) only[wrap64,e1,go_sem]
  exact goJ (hJ (o',done.map (·.dirs)++[ds]) H3 ⟨by simp,by simpa using hs3⟩) (by simp(disch:=omega) only[wrap64,go_sem])
def zoK (f:FuncId) (p:List DirD→Bool):Prop:=Program.callable Tryz.prog f=true∧∀ l:List DirD,l.length≤Lim→zi Tryz.prog f [.sl .no 2 (cDs l)] (.bool (p l))
theorem zoE {d:DocD} {l:List DirD} (h:l∈zcJ d):l.length≤zy d:=by
 simp only[zcJ,List.mem_append,List.mem_map] at h
 rcases h with ⟨o,ho,rfl⟩|⟨f,hf,rfl⟩
 ·obtain⟨a,b,hd⟩:=List.append_of_mem ho
  have:=Y1 a o b
  have h2:=zai o.dirs
  rw[← hd] at this
  simp only[bO] at this;simp only[zy];omega
 ·have:=zbw hf
  have h2:=zai f.dirs
  simp only[bF] at this;simp only[zy];omega
theorem zkG (d:DocD) (f:FuncId) (p:List DirD→Bool) (hb:zy d≤Lim) (hf:zoK f p):zi Tryz.prog 52 [.agg (zX d),.clo f [] []] (.bool ((zcJ d).all p)):=by
 have h1:=fun H=>zuv d H hb
 have hm:=fun l (h:l∈zcJ d)=>hf.2 l (by have:=zoE h;omega)
 have hol:=Zt d.ops
 have hfl:=yO d.frags
 have hb':bOs d.ops+bFs d.frags≤1099511627776:=by simpa only[Lim,zy] using hb
 have hlen:(zcJ d).length≤1099511627776:=by simp only[zcJ,Al5,List.length_map];omega
 generalize zcJ d=L at *
 have l1:=zfK L
 obtain⟨ops,frags⟩:=d
 simp only[zX] at h1 ⊢
 refine zi.go ir52 ck52 (Al4 _) fun KP Q hQ=>?_
 simp(disch:=omega) only[ir52,go_sem]
 refine zG (h1 _) fun o2 H2 hs2=>?_
 simp(disch:=omega) only[l1,go_sem]
 refine zf L 10 (fun _:Unit=>[]) (fun done rest _ H=>rest.all p=L.all p) () (by simp(disch:=omega) only[go_sem]) rfl ?_ ?_
 ·rintro _ H J hn hlt
  simp(disch:=omega) only[l1,hlt,go_sem]
  exact hQ _ _ _ [.bool true] nofun rfl (by rw[← hn];rfl)
 ·rintro done x rest _ H J hd hlt _ hn hJ
  have hg:=zqB hd
  have hx:=hm x (by rw[hd];simp)
  rw[List.all_cons] at hn
  simp(disch:=omega) only[l1,hlt,hg,go_sem]
  refine⟨hf.1,za hx ?_⟩
  cases hv:p x with
  | false =>
   rw[hv] at hn
   simp(disch:=omega) only[go_sem]
   exact hQ _ _ _ [.bool false] nofun rfl (by rw[← hn];rfl)
  | true =>
   rw[hv] at hn
   simp(disch:=omega) only[go_sem]
   exact goJ (hJ () _ (by simpa using hn)) (by simp(disch:=omega) only[wrap64,go_sem])
def zcH:SelD→List DirD
 | .mk _ _ _ _ dirs _ _=>dirs
theorem zhl (s:SchD) (d:DocD) (f:FuncId) (p:List DirD→Bool) (hs:zN s≤Lim) (hb:zy d≤Lim) (hf:zoK f p):zi Tryz.prog 54 [.agg (zr s),.agg (zX d),.clo f [] []] (.bool (Yc s d fun _ x=>p (zcH x))):=by
 have h1:=zo9 s d 94 [.view [.clo f [] []]] (fun _ x=>p (zcH x)) hs hb ⟨by kernel_rfl,fun typ x hx=>by
  obtain⟨k,al,nm,args,dirs,on,xs⟩:=x
  have hdl:=zai dirs
  have h2:=hf.2 dirs (by simp only[bS] at hx;omega)
  simp only[zcH]
  rw[y6]
  refine zi.go ir94 ck94 (Al4 _) fun KP Q hQ=>?_
  simp(disch:=omega) only[ir94,go_sem]
  refine⟨hf.1,za h2 ?_⟩
  simp(disch:=omega) only[go_sem]
  exact hQ _ _ _ _ nofun rfl (by simp[zd,ze,AV.strip,AV.strip1])⟩
 generalize (Yc s d fun _ x=>p (zcH x))=x1 at *
 obtain⟨ops,frags⟩:=d
 obtain⟨sd,sq,sm⟩:=s
 simp only[zr,zX] at h1 ⊢
 refine zi.go ir54 ck54 (Al4 _) fun KP Q hQ=>?_
 simp(disch:=omega) only[ir54,go_sem]
 refine za h1 ?_
 simp(disch:=omega) only[go_sem]
 exact hQ _ _ _ _ nofun rfl (by simp[zd,ze,AV.strip,AV.strip1])
def zcB:List DirD→List DirD→Bool
 | _,[]=>true
 | a,x::r=>!(a.any fun y=>decide (y.nm=x.nm))&&zcB (a++[x]) r
def zbh (l:List DirD):Bool:=zcB [] l
theorem zoJ (l:List DirD) (hl:l.length≤Lim):zi Tryz.prog 56 [.sl .no 2 (cDs l)] (.bool (zbh l)):=by
 refine zi.go ir56 ck56 (Al4 _) fun KP Q hQ=>?_
 have h1:=YQ l
 have e0:zbh l=zcB [] l:=rfl
 generalize zbh l=F at *
 simp only[Lim] at hl
 simp(disch:=omega) only[ir56,h1,go_sem]
 refine zf l 10 (fun _:Unit=>[(3,.bool true)]) (fun done rest _ H=>zcB done rest=F) () (by simp(disch:=omega) only[go_sem]) e0.symm ?_ ?_
 ·rintro _ H J hn hlt
  simp(disch:=omega) only[h1,hlt,go_sem]
  exact hQ _ _ _ [.bool true] nofun rfl (by rw[← hn];rfl)
 ·rintro done x rest _ H J hd hlt _ hn hJ
  have hg:=zal hd
  have htk:(cDs l).take done.length=cDs done:=by rw[hd];simp[cDs]
  have hle:(done.length:Int)≤l.length:=by omega
  have h2:=YQ done
  simp only[zcB] at hn
  obtain⟨nm,args⟩:=x
  simp only at hn
  rw[zf3] at hg
  simp(disch:=omega) only[h1,hlt,hg,go_sem]
  refine zc fun b5 hb5=>?_
  simp(disch:=omega) only[htk,hle,h1,h2,go_sem]
  refine zf done 19 (fun _:Unit=>[]) (fun done2 rest2 _ H2=>H2 b5=some (.cells [.str nm,.sl .no 6 (cMs args)])∧(rest2.any fun y=>decide (y.nm=nm))=done.any fun y=>decide (y.nm=nm)) () (by simp(disch:=omega) only[go_sem]) ⟨upd_same ..,rfl⟩ ?_ ?_
  ·rintro _ H2 J2 ⟨hH,hn2⟩ hlt2
   rw[← hn2] at hn
   simp(disch:=omega) only[h2,hlt2,go_sem]
   exact goJ (hJ () _ (by simpa using hn)) (by simp(disch:=omega) only[wrap64,go_sem])
  ·rintro done2 y rest2 _ H2 J2 hd2 hlt2 _ ⟨hH,hn2⟩ hJ2
   have hg2:=zal hd2
   rw[List.any_cons] at hn2
   obtain⟨ym,yargs⟩:=y
   simp only at hn2
   rw[zf3] at hg2
   simp(disch:=omega) only[h2,hlt2,hg2,go_sem]
   refine zc fun b7 hb7=>?_
   have hne:b5≠b7:=fun e=>by subst e;rw[hH] at hb7;cases hb7
   by_cases hy:ym=nm
   ·rw[← hn2] at hn
    have hy':=eq_true hy
    simp(disch:=omega) only[hH,hne,Ne.symm hne,hy',go_sem]
    exact hQ _ _ _ [.bool false] nofun rfl (by rw[← hn];simp[hy,zd,AV.strip,AV.strip1])
   ·simp(disch:=omega) only[hH,hne,Ne.symm hne,hy,go_sem]
    exact goJ (hJ2 () _ ⟨by simp(disch:=omega) only[hH,hne,Ne.symm hne,go_sem],by rw[← hn2];simp[hy]⟩) (by simp(disch:=omega) only[wrap64,go_sem])
def zcI (s:SchD) (d:DocD) (n:Int):Bool :=
 if n=12 then (zcJ d).all Z3&&Yc s d (fun _ x=>Z3 (zcH x)) else if n=13 then (zcJ d).all (fun l=>decide (l.length=0))
 else if n=14 then (zcJ d).all zbh&&Yc s d (fun _ x=>zbh (zcH x)) else false
theorem zoF (s:SchD) (d:DocD) (n:Int) (hs:zN s≤Lim) (hb:zy d≤Lim):zi Tryz.prog 19 [.agg (zr s),.agg (zX d),.int .i64 n] (.bool (zcI s d n)):=by
 have f1:zoK 53 Z3:=⟨by kernel_rfl,zmQ⟩
 have f2:zoK 55 (fun l=>decide (l.length=0)):=⟨by kernel_rfl,fun l _=>zmT l⟩
 have f3:zoK 56 zbh:=⟨by kernel_rfl,zoJ⟩
 have h1:=zkG d _ _ hb f1
 have h2:=zkG d _ _ hb f2
 have h3:=zkG d _ _ hb f3
 have h4:=zhl s d _ _ hs hb f1
 have h5:=zhl s d _ _ hs hb f3
 unfold zcI
 generalize (zcJ d).all Z3=x1 at *
 generalize (zcJ d).all zbh=x3 at *
 generalize ((zcJ d).all fun l=>decide (l.length=0))=x2 at *
 generalize (Yc s d fun _ x=>Z3 (zcH x))=x4 at *
 generalize (Yc s d fun _ x=>zbh (zcH x))=x5 at *
 obtain⟨ops,frags⟩:=d
 obtain⟨sd,sq,sm⟩:=s
 simp only[zr,zX] at h1 h2 h3 h4 h5 ⊢
 refine zi.go ir19 ck19 (Al4 _) fun KP Q hQ=>?_
 by_cases n1:n=12
 ·subst n1
  simp(disch:=omega) only[ir19,go_sem]
  refine za h1 ?_
  cases x1 with
  | false =>
   simp(disch:=omega) only[go_sem]
   exact hQ _ _ _ _ nofun rfl (by simp[zd,ze,AV.strip,AV.strip1])
  | true =>
   simp(disch:=omega) only[go_sem]
   refine za h4 ?_
   simp(disch:=omega) only[go_sem]
   exact hQ _ _ _ _ nofun rfl (by simp[zd,ze,AV.strip,AV.strip1])
 by_cases n2:n=13
 ·subst n2
  simp(disch:=omega) only[ir19,go_sem]
  refine za h2 ?_
  simp(disch:=omega) only[go_sem]
  exact hQ _ _ _ _ nofun rfl (by simp[zd,ze,AV.strip,AV.strip1])
 by_cases n3:n=14
 ·subst n3
  simp(disch:=omega) only[ir19,go_sem]
  refine za h3 ?_
  cases x3 with
  | false =>
   simp(disch:=omega) only[go_sem]
   exact hQ _ _ _ _ nofun rfl (by simp[zd,ze,AV.strip,AV.strip1])
  | true =>
   simp(disch:=omega) only[go_sem]
   refine za h5 ?_
   simp(disch:=omega) only[go_sem]
   exact hQ _ _ _ _ nofun rfl (by simp[zd,ze,AV.strip,AV.strip1])
 ·simp(disch:=omega) only[ir19,n1,n2,n3,go_sem]
  exact hQ _ _ _ _ nofun rfl (by simp[zd,ze,AV.strip,AV.strip1,n1,n2,n3])
def mN:Mem→List UInt8
 | .mk n _=>n
def YH (ps:List VarD) (l:List Mem):Bool:=l.all fun m=>(z8 ps (mN m)).isSome
theorem zmD (ps:List VarD) (l:List Mem) (hp:ps.length≤Lim) (hl:l.length≤Lim):zi Tryz.prog 58 [.sl .no 10 (cWs ps),.sl .no 6 (cMs l)] (.bool (YH ps l)):=by
 refine zi.go ir58 ck58 (Al4 _) fun KP Q hQ=>?_
 have h1:=y0 l
 have hP:=fun n=>zdO ps n hp
 simp only[Lim] at hl
 simp(disch:=omega) only[ir58,h1,go_sem]
 refine zf l 11 (fun _:Unit=>[]) (fun done rest _ H=>YH ps rest=YH ps l) () (by simp(disch:=omega) only[go_sem]) rfl ?_ ?_
 ·rintro _ H J hn hlt
  simp(disch:=omega) only[h1,hlt,go_sem]
  exact hQ _ _ _ [.bool true] nofun rfl (by rw[← hn];rfl)
 ·rintro done x rest _ H J hd hlt _ hn hJ
  have hg:=Zu hd
  have hstep:YH ps (x::rest)=((z8 ps (mN x)).isSome&&YH ps rest):=by simp[YH]
  rw[hstep] at hn
  obtain⟨nm,⟨xk,xq,xs,xl,xm⟩⟩:=x
  simp only[mN] at hn
  have hPn:=hP nm
  rw[zu,yj] at hg
  generalize (z8 ps nm).getD zW=w at *
  obtain⟨wn,⟨w1,w2,w3⟩,wh,⟨wk,wq,ws,wl,wm⟩⟩:=w
  rw[z7] at hPn
  simp(disch:=omega) only[h1,hlt,hg,go_sem]
  refine zc fun b6 hb6=>?_
  simp(disch:=omega) only[go_sem]
  refine za hPn ?_
  simp(disch:=omega) only[go_sem]
  refine zc fun b7 hb7=>?_
  have hne:=yW hb7
  cases hv:(z8 ps nm).isSome with
  | false =>
   rw[hv] at hn
   simp(disch:=omega) only[hne,Ne.symm hne,go_sem]
   exact hQ _ _ _ [.bool false] nofun rfl (by rw[← hn];rfl)
  | true =>
   rw[hv] at hn
   simp(disch:=omega) only[hne,Ne.symm hne,go_sem]
   exact goJ (hJ () _ (by simpa using hn)) (by simp(disch:=omega) only[wrap64,go_sem])
theorem zk2 (ps:List VarD) (l:List Mem) (hp:bWs ps≤Lim) (hl:l.length≤Lim):zi Tryz.prog 60 [.sl .no 10 (cWs ps),.sl .no 6 (cMs l)] (.bool (zdk ps l)):=by
 refine zi.go ir60 ck60 (Al4 _) fun KP Q hQ=>?_
 have h1:=Zs ps
 have hpl:=yS ps
 have hp':=hp
 simp only[Lim] at hp'
 simp(disch:=omega) only[ir60,h1,go_sem]
 refine zf ps 11 (fun _:Unit=>[]) (fun done rest _ H=>zdk rest l=zdk ps l) () (by simp(disch:=omega) only[go_sem]) rfl ?_ ?_
 ·rintro _ H J hn hlt
  simp(disch:=omega) only[h1,hlt,go_sem]
  exact hQ _ _ _ [.bool true] nofun rfl (by rw[← hn];rfl)
 ·rintro done x rest _ H J hd hlt _ hn hJ
  have hg:=Zm hd
  have hR:=zrX x (by have:=@Yk x ps (by rw[hd];simp);simp only[bW] at this;simp only[Lim];omega)
  have hG:=zqR x.nm l hl
  have hstep:zdk (x::rest) l=(((zbA x.nm l).2||!zgh x)&&zdk rest l):=by simp[zdk]
  rw[hstep] at hn
  generalize zgh x=rq at *
  obtain⟨nm,⟨t1,t2,t3⟩,hh,⟨xk,xq,xs,xl,xm⟩⟩:=x
  rw[z7] at hg hR
  simp only at hG hn
  generalize zbA nm l=g at *
  obtain⟨⟨gk,gq,gs,gl,gm⟩,gb⟩:=g
  simp only[yj] at hG
  simp(disch:=omega) only[h1,hlt,hg,go_sem]
  refine zc fun b6 hb6=>?_
  simp(disch:=omega) only[go_sem]
  refine za hG ?_
  simp(disch:=omega) only[go_sem]
  refine zc fun b7 hb7=>?_
  have hne:=yW hb7
  cases gb with
  | true =>
   simp(disch:=omega) only[hne,Ne.symm hne,go_sem]
   exact goJ (hJ () _ (by simpa using hn)) (by simp(disch:=omega) only[wrap64,go_sem])
  | false =>
   simp(disch:=omega) only[hne,Ne.symm hne,go_sem]
   refine za hR ?_
   cases rq with
   | true =>
    simp(disch:=omega) only[go_sem]
    exact hQ _ _ _ [.bool false] nofun rfl (by rw[← hn];rfl)
   | false =>
    simp(disch:=omega) only[go_sem]
    exact goJ (hJ () _ (by simpa using hn)) (by simp(disch:=omega) only[wrap64,go_sem])
def YL:List Mem→List Mem→Bool
 | _,[]=>true
 | a,x::r=>!(zbA (mN x) a).2&&YL (a++[x]) r
theorem znR (l:List Mem) (hl:l.length≤Lim):zi Tryz.prog 98 [.sl .no 6 (cMs l)] (.bool (YL [] l)):=by
 refine zi.go ir98 ck98 (Al4 _) fun KP Q hQ=>?_
 have h1:=y0 l
 simp only[Lim] at hl
 simp(disch:=omega) only[ir98,h1,go_sem]
 refine zf l 9 (fun _:Unit=>[]) (fun done rest _ H=>YL done rest=YL [] l) () (by simp(disch:=omega) only[go_sem]) rfl ?_ ?_
 ·rintro _ H J hn hlt
  simp(disch:=omega) only[h1,hlt,go_sem]
  exact hQ _ _ _ [.bool true] nofun rfl (by rw[← hn];rfl)
 ·rintro done x rest _ H J hd hlt _ hn hJ
  have hg:=Zu hd
  have htk:(cMs l).take done.length=cMs done:=by rw[zb4,zb4,hd];simp
  have hle:(done.length:Int)≤l.length:=by omega
  obtain⟨nm,⟨xk,xq,xs,xl,xm⟩⟩:=x
  simp only[YL,mN] at hn
  have hG:=zqR nm done (by simp only[Lim];omega)
  rw[zu,yj] at hg
  generalize zbA nm done=g at *
  obtain⟨⟨gk,gq,gs,gl,gm⟩,gb⟩:=g
  simp only[yj] at hG hn
  simp(disch:=omega) only[h1,hlt,hg,go_sem]
  refine zc fun b4 hb4=>?_
  simp(disch:=omega) only[h1,hle,htk,go_sem]
  refine za hG ?_
  simp(disch:=omega) only[go_sem]
  refine zc fun b5 hb5=>?_
  have hne:=yW hb5
  cases gb with
  | true =>
   simp(disch:=omega) only[hne,Ne.symm hne,go_sem]
   exact hQ _ _ _ [.bool false] nofun rfl (by rw[← hn];rfl)
  | false =>
   simp(disch:=omega) only[hne,Ne.symm hne,go_sem]
   exact goJ (hJ () _ (by simpa using hn)) (by simp(disch:=omega) only[wrap64,go_sem])
theorem zmB (v:AV) (l:List Mem) (hl:l.length≤Lim):zi Tryz.prog 59 [v,.sl .no 6 (cMs l)] (.bool (YL [] l)):=by
 refine zi.go ir59 ck59 (Al4 _) fun KP Q hQ=>?_
 simp(disch:=omega) only[ir59,go_sem]
 refine za (znR l hl) ?_
 simp(disch:=omega) only[go_sem]
 exact hQ _ _ _ _ nofun rfl (by simp[zd,ze,AV.strip,AV.strip1])
def yY (d:DirD):List VarD:=match zbk d.nm with
 | none=>[]
 | some p=>[p]
theorem zgD (d:DirD):zi Tryz.prog 96 [.agg (cD d)] (.sl .no 10 (cWs (yY d))):=by
 obtain⟨nm,args⟩:=d
 have h1:=zhb nm
 have e0:yY ⟨nm,args⟩=match zbk nm with|none=>[]|some p=>[p]:=rfl
 generalize yY ⟨nm,args⟩=F at *
 rw[zf3]
 refine zi.go ir96 ck96 (Al4 _) fun KP Q hQ=>?_
 simp(disch:=omega) only[ir96,go_sem]
 cases hp:zbk nm with
 | none =>
  rw[hp] at h1 e0
  refine za h1 ?_
  simp(disch:=omega) only[Option.getD,Option.isSome,zW,zV,z7,go_sem]
  refine zc fun b3 hb3=>?_
  simp(disch:=omega) only[go_sem]
  exact hQ _ _ _ [.sl .nil 10 []] nofun rfl (by rw[e0];rfl)
 | some p =>
  rw[hp] at h1 e0
  obtain⟨wn,⟨w1,w2,w3⟩,wh,⟨wk,wq,ws,wl,wm⟩⟩:=p
  refine za h1 ?_
  simp(disch:=omega) only[Option.getD,Option.isSome,z7,go_sem]
  refine zc fun b3 hb3=>?_
  simp(disch:=omega) only[go_sem]
  exact hQ _ _ _ [.sl .full 10 [cW ⟨wn,⟨w1,w2,w3⟩,wh,.mk wk wq ws wl wm⟩]] nofun rfl (by rw[e0];rfl)
def zug (f:FuncId) (caps:List AV) (p:List VarD→List Mem→Bool):Prop:=Program.callable Tryz.prog f=true∧∀ ps l,bWs ps≤Lim→bMs l≤Lim→zi Tryz.prog f (.sl .no 10 (cWs ps)::.sl .no 6 (cMs l)::caps) (.bool (p ps l))
def zdJ (s:SchD) (p:List VarD→List Mem→Bool) (typ:List UInt8):SelD→Bool
 | .mk k _ nm args dirs _ _=>(!decide (k=0)||p ((yR s typ nm).getD zF).ps args)&&dirs.all fun d=>p (yY d) d.args
theorem zeF (s:SchD) (typ nm:List UInt8):bWs ((yR s typ nm).getD zF).ps≤zN s:=by
 cases h:yR s typ nm with
 | none=>simp[zF,bWs]
 | some f =>
  unfold yR at h
  split at h
  ·cases h;simp[tnF,bWs]
  ·split at h
   ·cases h
   ·rename_i d hd
    split at h
    ·have h1:=zb1 (List.mem_of_find?_eq_some h)
     have h2:=(Yi hd).1
     have h3:=@zhX f
     show bWs f.ps≤_
     omega
    ·cases h
theorem zbW (d:DirD):bWs (yY d)≤100:=by
 unfold yY zbk
 split
 ·simp[bWs]
 ·rename_i p hp
  split at hp
  ·cases hp;decide
  ·cases hp
theorem zpO {d:DirD} {l:List DirD} (h:d∈l):bMs d.args≤bDs l:=by
 obtain⟨a,b,hd⟩:=List.append_of_mem h
 have:=zbX a d b
 rw[← hd] at this
 simp only[bD] at this
 omega
theorem zmA (s:SchD) (f:FuncId) (caps:List AV) (p:List VarD→List Mem→Bool) (hs:zN s≤Lim) (hf:zug f caps p) (typ:List UInt8) (x:SelD) (hx:bS x≤Lim) :
  zi Tryz.prog 95 [.str typ,.agg (cS x),.view (zr s),.view [.clo f [] caps]] (.bool (zdJ s p typ x)):=by
 obtain⟨k,al,nm,args,dirs,on,xs⟩:=x
 have h1:=zeQ s typ nm hs
 have hps:=zeF s typ nm
 simp only[bS] at hx
 have h2:=hf.2 ((yR s typ nm).getD zF).ps args (by omega) (by omega)
 have h3:=fun(d:DirD) (h:d∈dirs)=>hf.2 (yY d) d.args (by have:=zbW d;simp only[Lim];omega) (by have:=zpO h;omega)
 have e0:zdJ s p typ (.mk k al nm args dirs on xs)=((!decide (k=0)||p ((yR s typ nm).getD zF).ps args)&&dirs.all fun d=>p (yY d) d.args):=rfl
 generalize zdJ s p typ (.mk k al nm args dirs on xs)=F at *
 generalize (yR s typ nm).isSome=fs at *
 generalize (yR s typ nm).getD zF=w at *
 obtain⟨fn,fp,⟨f1,f2,f3⟩,fd⟩:=w
 simp only at h2 e0
 generalize p fp args=x1 at *
 have hdl:=zai dirs
 have l1:=YQ dirs
 have hx':=hx
 simp only[Lim] at hx'
 obtain⟨sd,sq,sm⟩:=s
 simp only[zr,zaq,y6] at h1 ⊢
 refine zi.go ir95 ck95 (Al4 _) fun KP Q hQ=>?_
 have three:(k=0∧x1=false)∨((!decide (k=0)||x1)=true∧(k=0→x1=true)):=by cases x1<;>by_cases h:k=0<;>simp[h]
 rcases three with ⟨h0,hx1⟩|⟨h0,hx1⟩
 ·subst h0
  subst hx1
  simp(disch:=omega) only[ir95,go_sem]
  refine za h1 ?_
  simp(disch:=omega) only[go_sem]
  refine zc fun b7 hb7=>?_
  simp(disch:=omega) only[go_sem]
  refine⟨hf.1,za h2 ?_⟩
  simp(disch:=omega) only[go_sem]
  exact hQ _ _ _ [.bool false] nofun rfl (by rw[e0];rfl)
 rw[h0,Bool.true_and] at e0
 by_cases hk:k=0
 case' pos =>
  have hx2:=hx1 hk
  subst hk
  subst hx2
  simp(disch:=omega) only[ir95,go_sem]
  refine za h1 ?_
  simp(disch:=omega) only[go_sem]
  refine zc fun b7 hb7=>?_
  simp(disch:=omega) only[go_sem]
  refine⟨hf.1,za h2 ?_⟩
  simp(disch:=omega) only[l1,go_sem]
 case' neg=>simp(disch:=omega) only[ir95,hk,l1,go_sem]
 all_goals
  refine zf dirs 32 (fun _:Unit=>[]) (fun done rest _ H=>(rest.all fun d=>p (yY d) d.args)=F) () (by simp(disch:=omega) only[go_sem]) e0.symm ?_ ?_
  ·rintro _ H J hn hlt
   simp(disch:=omega) only[l1,hlt,go_sem]
   exact hQ _ _ _ [.bool true] nofun rfl (by rw[← hn];rfl)
  ·rintro done d rest _ H J hd hlt _ hn hJ
   have hg:=zal hd
   have hP:=zgD d
   have hc:=h3 d (by rw[hd];simp)
   rw[List.all_cons] at hn
   generalize p (yY d) d.args=y1 at *
   generalize yY d=ps at *
   obtain⟨dn,da⟩:=d
   simp only at hc
   rw[zf3] at hg hP
   simp(disch:=omega) only[l1,hlt,hg,go_sem]
   refine zc fun b10 hb10=>?_
   simp(disch:=omega) only[go_sem]
   refine za hP ?_
   simp(disch:=omega) only[go_sem]
   refine⟨hf.1,za hc ?_⟩
   cases y1 with
   | false =>
    simp(disch:=omega) only[go_sem]
    exact hQ _ _ _ [.bool false] nofun rfl (by rw[← hn];rfl)
   | true =>
    simp(disch:=omega) only[go_sem]
    exact goJ (hJ () _ (by simpa using hn)) (by simp(disch:=omega) only[wrap64,go_sem])
theorem zd9 (s:SchD) (d:DocD) (f:FuncId) (caps:List AV) (p:List VarD→List Mem→Bool) (hs:zN s≤Lim) (hb:zy d≤Lim) (hf:zug f caps p):zi Tryz.prog 57 [.agg (zr s),.agg (zX d),.clo f [] caps] (.bool (Yc s d (zdJ s p))):=by
 have h1:=zo9 s d 95 [.view (zr s),.view [.clo f [] caps]] (zdJ s p) hs hb ⟨by kernel_rfl,fun typ x hx=>zmA s f caps p hs hf typ x (by omega)⟩
 generalize Yc s d (zdJ s p)=x1 at *
 obtain⟨ops,frags⟩:=d
 obtain⟨sd,sq,sm⟩:=s
 simp only[zr,zX] at h1 ⊢
 refine zi.go ir57 ck57 (Al4 _) fun KP Q hQ=>?_
 simp(disch:=omega) only[ir57,go_sem]
 refine za h1 ?_
 simp(disch:=omega) only[go_sem]
 exact hQ _ _ _ _ nofun rfl (by simp[zd,ze,AV.strip,AV.strip1])
def zcM (s:SchD) (d:DocD) (n:Int):Bool:=if n=15 then Yc s d (zdJ s YH) else if n=16 then Yc s d (zdJ s fun _ l=>YL [] l) else if n=17 then Yc s d (zdJ s zdk) else false
theorem zol (s:SchD) (d:DocD) (n:Int) (hs:zN s≤Lim) (hb:zy d≤Lim):zi Tryz.prog 20 [.agg (zr s),.agg (zX d),.int .i64 n] (.bool (zcM s d n)):=by
 have h1:=zd9 s d 58 [] YH hs hb ⟨by kernel_rfl,fun ps l hp hl=>zmD ps l (by have:=yS ps;omega) (by have:=y9 l;omega)⟩
 have h2:=zd9 s d 59 [] (fun _ l=>YL [] l) hs hb ⟨by kernel_rfl,fun ps l hp hl=>zmB _ l (by have:=y9 l;omega)⟩
 have h3:=zd9 s d 60 [] zdk hs hb ⟨by kernel_rfl,fun ps l hp hl=>zk2 ps l hp (by have:=y9 l;omega)⟩
 unfold zcM
 generalize Yc s d (zdJ s YH)=x1 at *
 generalize Yc s d (zdJ s fun _ l=>YL [] l)=x2 at *
 generalize Yc s d (zdJ s zdk)=x3 at *
 obtain⟨ops,frags⟩:=d
 obtain⟨sd,sq,sm⟩:=s
 simp only[zr,zX] at h1 h2 h3 ⊢
 refine zi.go ir20 ck20 (Al4 _) fun KP Q hQ=>?_
 by_cases n1:n=15
 ·subst n1
  simp(disch:=omega) only[ir20,go_sem]
  refine za h1 ?_
  simp(disch:=omega) only[go_sem]
  exact hQ _ _ _ _ nofun rfl (by simp[zd,ze,AV.strip,AV.strip1])
 by_cases n2:n=16
 ·subst n2
  simp(disch:=omega) only[ir20,go_sem]
  refine za h2 ?_
  simp(disch:=omega) only[go_sem]
  exact hQ _ _ _ _ nofun rfl (by simp[zd,ze,AV.strip,AV.strip1])
 by_cases n3:n=17
 ·subst n3
  simp(disch:=omega) only[ir20,go_sem]
  refine za h3 ?_
  simp(disch:=omega) only[go_sem]
  exact hQ _ _ _ _ nofun rfl (by simp[zd,ze,AV.strip,AV.strip1])
 ·simp(disch:=omega) only[ir20,n1,n2,n3,go_sem]
  exact hQ _ _ _ _ nofun rfl (by simp[zd,ze,AV.strip,AV.strip1,n1,n2,n3])
theorem zmv (y:VarD) (n:List UInt8) (b:Nat) (rest:List AV) (H:zb) (hb:H b=some (.cells (.str n::rest))):zj Tryz.prog 144 [.agg (cW y),.ptr b 0] H (At (.bool (nmW n y)) H):=by
 obtain⟨nm,⟨t1,t2,t3⟩,h,⟨k,q,st,l,m⟩⟩:=y
 refine zj.go ir144 ck144 (Al4 _) fun KP Q hQ=>?_
 simp(disch:=omega) only[ir144,z7,hb,go_sem]
 exact hQ _ _ _ _ _ nofun rfl (Low.refl _) ⟨by simp[zd,ze,AV.strip,AV.strip1,nmW],rfl⟩
def zau:List VarD→List VarD→Bool
 | _,[]=>true
 | a,x::r=>!a.any (nmW x.nm)&&zau (a++[x]) r
theorem znX (o:OpD) (hl:o.vars.length≤Lim):zi Tryz.prog 101 [.agg (cO o)] (.bool (zau [] o.vars)):=by
 obtain⟨k,nm,l,ds,ss⟩:=o
 simp only at hl ⊢
 have hl':=hl
 have h1:=Zs l
 simp only[Lim] at hl
 rw[Y3]
 refine zi.go ir101 ck101 (Al4 _) fun KP Q hQ=>?_
 simp(disch:=omega) only[ir101,h1,go_sem]
 refine zf l 8 (fun _:Unit=>[]) (fun done rest _ H=>zau done rest=zau [] l) () (by simp(disch:=omega) only[go_sem]) rfl ?_ ?_
 ·rintro _ H J hn hlt
  simp(disch:=omega) only[h1,hlt,go_sem]
  exact hQ _ _ _ [.bool true] nofun rfl (by rw[← hn];rfl)
 ·rintro done x rest _ H J hd hlt _ hn hJ
  have hg:=Zm hd
  have htk:(cWs l).take done.length=done.map cW:=by rw[hd];simp[cWs]
  have hle:(done.length:Int)≤l.length:=by omega
  have hdl:done.length≤Lim:=by simp only[Lim];omega
  obtain⟨xn,⟨t1,t2,t3⟩,hh,⟨xk,xq,xs,xl,xm⟩⟩:=x
  simp only[zau] at hn
  rw[z7] at hg
  simp(disch:=omega) only[h1,hlt,hg,go_sem]
  refine zc fun b4 hb4=>?_
  simp(disch:=omega) only[h1,hle,htk,go_sem]
  refine z6 (zgP cW zat done 144 [.ptr b4 0] (nmW xn) _ hdl (by kernel_rfl) fun y _=>zmv y xn b4 _ _ (upd_same ..)) ?_
  rintro _ _ ⟨_,rfl,rfl,rfl⟩
  cases ha:done.any (nmW xn) with
  | true =>
   rw[ha] at hn
   simp(disch:=omega) only[ZL,ha,go_sem]
   exact hQ _ _ _ [.bool false] nofun rfl (by rw[← hn];rfl)
  | false =>
   rw[ha] at hn
   simp(disch:=omega) only[ZL,ha,go_sem]
   exact goJ (hJ () _ (by simpa using hn)) (by simp(disch:=omega) only[wrap64,go_sem])
theorem zos (p:VarD) (n:List UInt8):zi Tryz.prog 147 [.agg (cW p),.view [.str n]] (.bool (nmW n p)):=by
 obtain⟨nm,⟨a,b,c⟩,h,⟨k,q,s,l,m⟩⟩:=p
 refine zi.go ir147 ck147 (Al4 _) fun KP Q hQ=>?_
 simp(disch:=omega) only[ir147,z7,go_sem]
 exact hQ _ _ _ _ nofun rfl (by simp[zd,ze,AV.strip,AV.strip1,nmW])
theorem zlF (o:OpD) (n:List UInt8) (hl:o.vars.length≤Lim):zi Tryz.prog 107 [.agg (cO o),.str n] (.tup [.agg (cW ((z8 o.vars n).getD zW)),.bool (z8 o.vars n).isSome]):=by
 have hx:=zmS cW zat o.vars 147 [.view [.str n]] (nmW n) hl (by kernel_rfl) fun x _=>zos x n
 obtain⟨k,nm,l,ds,ss⟩:=o
 simp only at hl hx ⊢
 have hlb:=hl
 simp only[Lim] at hlb
 rw[Y3]
 refine zi.go ir107 ck107 (Al4 _) fun KP Q hQ=>?_
 have fin:∀ o,z8 l n=o→∀ ρ H vs,zQ ρ H ir107.res=some vs→(zd vs).strip=.tup [.agg (cW (o.getD zW)),.bool o.isSome]→Q .ret ρ H:=fun o e ρ H vs h1 h2=>hQ _ ρ H vs nofun h1 (by rw[h2,e])
 simp(disch:=omega) only[ir107,go_sem]
 refine zc fun b4 hb4=>?_
 simp(disch:=omega) only[go_sem]
 refine za hx ?_
 rcases Y6 (nmW n) l 0 with ⟨a,x,r,h1,h2,h3,h4⟩|⟨h1,h2⟩
 ·rw[h4,Int.zero_add]
  have hg:=Zm h1
  have h6:=Zs l
  have h5:(a.length:Int)<l.length:=by rw[h1,Al5,Al2];omega
  have h7:¬ ((a.length:Int)<0):=by omega
  have e:z8 l n=some x:=h3
  obtain⟨nm,⟨t1,t2,t3⟩,h,⟨k,q,s,l2,m⟩⟩:=x
  rw[z7] at hg
  simp(disch:=omega) only[hg,h6,h5,h7,go_sem]
  exact fin _ e _ _ [.agg (cW ⟨nm,⟨t1,t2,t3⟩,h,.mk k q s l2 m⟩),.bool true] (by simp(disch:=omega) only[ir107,zQ,Zv,z7,go_sem]) rfl
 ·rw[h2]
  have e:z8 l n=none:=h1
  simp(disch:=omega) only[go_sem]
  exact fin _ e _ _ [.agg [.str [],.str [],.int .i64 0,.int .i64 0,.bool false,.int .i64 0,.int .i64 0,.str [],.sl .nil 5 [],.sl .nil 6 []],.bool false] (by simp(disch:=omega) only[ir107,zQ,Zv,go_sem]) rfl
structure SpotD where
 nm:List UInt8
 t:TyD
 has:Bool
def cP (x:SpotD):List AV:=[.str x.nm,.str x.t.nm,.int .i64 x.t.lists,.int .i64 x.t.musts,.bool x.has]
def cPs (l:List SpotD):List (List AV):=l.map cP
theorem yf (l:List SpotD):(cPs l).length=l.length:=by simp[cPs]
theorem zqQ {l a:List SpotD} {x:SpotD} {b:List SpotD} (h:l=a++x::b):(cPs l).getD a.length []=cP x:=yQ h
theorem zcb (a b:List SpotD):cPs a++(cPs b).map (·.map AV.strip1)=cPs (a++b):=by
 have:(cPs b).map (·.map AV.strip1)=cPs b:=by rw[cPs,List.map_map];exact List.map_congr_left fun v _=>rfl
 rw[this];simp[cPs]
theorem Ys {H H1 H2:zb} {o o1 o2:Own} {n n2 sz sz2:Nat} (h:OwnS H o H1 o1 n sz) (h':OwnS H1 .nil H2 o2 n2 sz2):OwnS H o H2 o1 n sz :=
 ⟨ya.ofKept h.own h'.kept (fun _ _ _ _ e=>by cases e),fun b x hb hn=>h'.kept b x (h.kept b x hb hn) (fun d e=>by cases e),h.new⟩
theorem zeZ {H:zb} {o:Own} {n sz b:Nat} {cs:List AV} (ho:ya H o n sz) (h:H b=some (.cells cs)):∀ d,o≠.tip b d:=fun d e=>by
 subst e
 have:H b=some (.tip (d+n) sz):=ho
 rw[h] at this;cases this
def zgE (s:SchD) (t:TyD) (has:Bool) (v:Val) (L:List SpotD):Prop :=
 L.length≤bV v∧(∀ x∈L,x.t.nm.length≤Lim)∧∀ H,Y5 Tryz.prog 232 [.agg (zr s),.agg (cTy t),.bool has,.agg (cV v)] H .nil 5 (cPs L)
open Classical in
noncomputable def spM (s:SchD) (t:TyD) (has:Bool) (v:Val):List SpotD:=if h:∃ L,zgE s t has v L then Classical.choose h else []
theorem zim {s:SchD} {t:TyD} {has:Bool} {v:Val} (h:∃ L,zgE s t has v L):zgE s t has v (spM s t has v):=by
 unfold spM;rw[dif_pos h];exact Classical.choose_spec h
noncomputable def Yd (s:SchD) (ps:List VarD):Mem→List SpotD
 | .mk n x=>match z8 ps n with|none=>[]|some p=>spM s p.t p.has x
noncomputable def spS (s:SchD) (t:TyD) (has:Bool):Val→List SpotD
 | .mk k q st l m=>if k=8 then [⟨st,t,has⟩] else match Yt t with
  | some it=>if k=6 then l.flatMap (spM s it false) else spM s it false (.mk k q st l m)
  | none=>if k=7 then m.flatMap (Yd s ((yM s t.nm).getD zE).ps) else []
theorem zcF {α β:Type} {f:α→List β} {g:α→Nat}:∀ l:List α,(∀ x∈l,(f x).length≤g x)→(l.flatMap f).length≤(l.map g).sum
 | [],_=>by simp
 | x::r,h=>by
  have h1:=h x (Yz ..)
  have h2:=zcF r fun y hy=>h y (zap _ hy)
  rw[List.flatMap_cons,Al5,List.map_cons,List.sum_cons];omega
theorem zmd {α:Type} {l done rest:List α} {x y:α} (hd:l=done++x::rest) (hy:y∈done++[x]):y∈l:=by
 rw[hd];simp at hy ⊢;rcases hy with h|h<;>simp[h]
theorem zfV:∀ l:List Val,bVs l=(l.map bV).sum
 | []=>by simp[bVs]
 | x::r=>by simp only[bVs,List.map_cons,List.sum_cons];rw[zfV r]
theorem zbE:∀ l:List Mem,bMs l=(l.map bM).sum
 | []=>by simp[bMs]
 | x::r=>by simp only[bMs,List.map_cons,List.sum_cons];rw[zbE r]
theorem spE (s:SchD) (hs:zN s≤Lim):∀ v:Val,∀(n:Nat) (t:TyD) (has:Bool),t.lists.toNat≤n→bV v≤Lim→t.nm.length≤Lim→zgE s t has v (spS s t has v):=by
 refine Val.ind fun k q st l m ihl ihm=>?_
 have hll:=zaQ l
 have hml:=y9 m
 have h1:=zaj l
 have h1m:=y0 m
 intro n
 induction n using Nat.strongRecOn with
 | _ n ih =>
 intro t has hn hb ht
 have hb':1+st.length+bVs l+bMs m≤1099511627776:=hb
 have hit:=zrn t ht
 have hsl:zN s≤1099511627776:=hs
 have hf:=zer s t.nm (yc hs)
 have hps:bWs ((yM s t.nm).getD zE).ps≤zN s:=by
  cases hfe:yM s t.nm with
  | none=>simp[zE,bWs]
  | some d=>exact(Yi hfe).2.2.2
 generalize hE:(yM s t.nm).getD zE=E at *
 have hEl:=yS E.ps
 have hpar:=fun n=>zdO E.ps n (by simp only[Lim];omega)
 have hsame:∀ it,Yt t=some it→zgE s it false (.mk k q st l m) (spM s it false (.mk k q st l m)):=fun it h=>by
  obtain⟨e1,e2,e3⟩:=zei h
  exact zim ⟨_,ih it.lists.toNat (by omega) it false (Al4 _) hb (by rw[e1];exact ht)⟩
 have hlist:∀ it,Yt t=some it→∀ x∈l,zgE s it false x (spM s it false x):=fun it h x hx=>by
  obtain⟨e1,e2,e3⟩:=zei h
  have hxb:bV x≤Lim:=by have:=zic hx;simp only[Lim];omega
  exact zim ⟨_,ihl x hx it.lists.toNat it false (Al4 _) hxb (by rw[e1];exact ht)⟩
 have hmem:∀ n x,Mem.mk n x∈m→∀ p,z8 E.ps n=some p→zgE s p.t p.has x (spM s p.t p.has x):=fun n x hx p hp=>by
  have hxb:bV x≤Lim:=by have:=zdX hx;simp only[Lim];omega
  have hpm:p∈E.ps:=List.mem_of_find?_eq_some hp
  have hpt:p.t.nm.length≤Lim:=by have:=Yk hpm;simp only[bW] at this;simp only[Lim];omega
  exact zim ⟨_,ihm n x hx p.t.lists.toNat p.t p.has (Al4 _) hxb hpt⟩
 have hmemL:∀ x∈m,(Yd s E.ps x).length≤bM x∧∀ y∈Yd s E.ps x,y.t.nm.length≤Lim:=fun x hx=>by
  obtain⟨n,v⟩:=x
  simp only[Yd]
  cases hp:z8 E.ps n with
  | none=>simp
  | some p =>
   have:=hmem n v hx p hp
   exact⟨Nat.le_trans this.1 (by simp only[bM];omega),this.2.1⟩
 have hml2:=fun a:List Mem=>zcF (f:=Yd s E.ps) (g:=bM) a
 have e0:spS s t has (.mk k q st l m)=if k=8 then [⟨st,t,has⟩] else match Yt t with
  | some it=>if k=6 then l.flatMap (spM s it false) else spM s it false (.mk k q st l m)
  | none=>if k=7 then m.flatMap (Yd s E.ps) else []:=by rw[← hE];rfl
 have hv:bV (.mk k q st l m)=1+st.length+bVs l+bMs m:=rfl
 refine⟨?_,?_,fun H=>?_⟩
 ·rw[e0,hv]
  split
  ·simp;omega
  ·cases him:Yt t with
   | some it =>
    simp only
    split
    ·have:=zcF (f:=spM s it false) (g:=bV) l fun x hx=>(hlist it him x hx).1
     rw[← zfV] at this;omega
    ·rw[← hv];exact(hsame it him).1
   | none =>
    simp only
    split
    ·have:=hml2 m fun x hx=>(hmemL x hx).1
     rw[← zbE] at this;omega
    ·simp
 ·rw[e0]
  split
  ·intro x hx
   simp only[List.mem_singleton] at hx
   subst hx;exact ht
  ·cases him:Yt t with
   | some it =>
    simp only
    split
    ·intro x hx
     obtain⟨y,hy,hx⟩:=List.mem_flatMap.1 hx
     exact(hlist it him y hy).2.1 x hx
    ·exact(hsame it him).2.1
   | none =>
    simp only
    split
    ·intro x hx
     obtain⟨y,hy,hx⟩:=List.mem_flatMap.1 hx
     exact(hmemL y hy).2 x hx
    ·simp
 generalize spS s t has (.mk k q st l m)=F at *
 obtain⟨sd,sq,sm⟩:=s
 generalize hS:(⟨sd,sq,sm⟩:SchD)=s at *
 have hcs:zr s=[.sl .no 6 (cEs sd),.str sq,.str sm]:=by rw[← hS];rfl
 obtain⟨tn,tl,tm⟩:=t
 simp only[zgE] at hsame hlist hmem
 simp only[hcs,yj] at hsame hlist hmem hf ⊢
 simp only[cTy] at hit ⊢
 refine zj.goO ir232 ck232 (Al4 _) fun KP Q hQ hP=>?_
 have fin:∀ r o,F=r→∀ ρ H1,zQ ρ H1 ir232.res=some [.sl o 5 (cPs r)]→OwnS H .nil H1 o r.length 5→Q .ret ρ H1:=fun r o e ρ H1 h1 h2=>hQ _ ρ H1 H1 _ nofun h1 (Low.refl _) ⟨o,by rw[e];rfl,by rw[e,yf];exact h2⟩
 by_cases k8:k=8
 ·subst k8
  rw[if_pos rfl] at e0
  simp(disch:=omega) only[ir232,go_sem]
  exact fin _ .full e0 _ _ rfl ⟨trivial,fun b x hb _=>hb,fun b d e=>by cases e⟩
 rw[if_neg k8] at e0
 simp(disch:=omega) only[ir232,k8,go_sem]
 refine za hit ?_
 cases him:Yt ⟨tn,tl,tm⟩ with
 | some it =>
  rw[him] at e0
  replace hsame:=hsame it him
  replace hlist:=hlist it him
  obtain⟨in',il,im⟩:=it
  simp only at hsame hlist e0
  simp(disch:=omega) only[Option.getD,Option.isSome,go_sem]
  refine zc fun b10 hb10=>?_
  have hs0:OwnS H .nil (H.upd b10 (.cells [.str in',.int .i64 il,.int .i64 im])) .nil 0 5:=(OwnS.refl (o:=.nil) (n:=0) rfl).upd hb10
  by_cases k6:k=6
  case neg =>
   rw[if_neg k6] at e0
   simp(disch:=omega) only[k6,go_sem]
   refine zG (hsame.2.2 _) fun o2 H2 hs2=>?_
   simp(disch:=omega) only[go_sem]
   exact fin _ o2 e0 _ _ rfl (by rw[yf] at hs2;exact hs0.trans hs2)
  subst k6
  rw[if_pos rfl] at e0
  simp(disch:=omega) only[h1,go_sem]
  refine zf l 44 (fun x:Own×List SpotD=>[(9,.sl x.1 5 (cPs x.2))]) (fun done rest x H'=>H' b10=some (.cells [.str in',.int .i64 il,.int .i64 im])∧x.2=done.flatMap (spM s ⟨in',il,im⟩ false)∧OwnS H .nil H' x.1 x.2.length 5) (.nil,[]) (by simp(disch:=omega) only[cPs,List.map,go_sem]) ⟨upd_same ..,rfl,hs0⟩ ?_ ?_
  ·rintro⟨o1,a⟩ H1 J ⟨hH,hn,hs⟩ hlt
   simp only at hn
   subst hn
   simp(disch:=omega) only[h1,hlt,go_sem]
   exact fin _ o1 e0 _ _ rfl hs
  ·rintro done x rest ⟨o1,a⟩ H1 J hd hlt _ ⟨hH,hn,hs⟩ hJ
   have hg:=zaO hd
   have hx:=hlist x (by rw[hd];simp)
   simp only at hn
   replace hs:OwnS H .nil H1 o1 a.length 5:=hs
   have hal:a.length+(spM s ⟨in',il,im⟩ false x).length≤bVs l:=by
    have:=zcF (f:=spM s ⟨in',il,im⟩ false) (g:=bV) (done++[x]) fun y hy=>(hlist y (zmd hd hy)).1
    rw[List.flatMap_append,Al5,← hn] at this
    simp only[List.flatMap_cons,List.flatMap_nil,List.append_nil] at this
    have e:bVs l=(l.map bV).sum:=zfV l
    rw[e,hd]
    simp only[List.map_append,List.sum_append,List.map_cons,List.map_nil,List.sum_cons,List.sum_nil] at this ⊢
    omega
   have hfl:(done++[x]).flatMap (spM s ⟨in',il,im⟩ false)=a++spM s ⟨in',il,im⟩ false x:=by rw[List.flatMap_append,← hn];simp
   obtain⟨xk,xq,xs,xl,xm⟩:=x
   rw[yj] at hg hx
   simp(disch:=omega) only[h1,hlt,hg,go_sem]
   refine zc fun b13 hb13=>?_
   have hne:b10≠b13:=fun e=>by subst e;rw[hH] at hb13;cases hb13
   have hu:=hs.upd (x:=.cells [.int .i64 xk,.int .i64 xq,.str xs,.sl .no 5 (cVs xl),.sl .no 6 (cMs xm)]) hb13
   simp(disch:=omega) only[hH,hne,Ne.symm hne,go_sem]
   refine zG (hx.2.2 _) fun o2 H2 hs2=>?_
   have hH2:=hs2.kept b10 _ (by simp only[zb.upd,hne,if_false];exact hH) (fun d e=>by cases e)
   have hu2:=Ys hu hs2
   simp(disch:=omega) only[go_sem]
   refine zw (by rw[yf];exact hu2.own) ?_ ?_ fun o' H3 hs3=>?_
   ·simp only[yf];omega
   ·simp only[yf,maxLen];omega
   have hH3:=hs3.kept b10 _ hH2 (zeZ hu2.own hH2)
   simp only[yf] at hs3
   simp(disch:=omega) only[wrap64,zcb,go_sem]
   exact goJ (hJ (o',a++spM s ⟨in',il,im⟩ false (.mk xk xq xs xl xm)) H3 ⟨hH3,hfl.symm,by rw[Al5];exact hu2.trans hs3⟩) (by simp(disch:=omega) only[wrap64,go_sem])
 | none =>
  rw[him] at e0
  simp only at e0
  simp(disch:=omega) only[Option.getD,Option.isSome,zTy,go_sem]
  refine zc fun b10 hb10=>?_
  have hs0:OwnS H .nil (H.upd b10 (.cells [.str [],.int .i64 0,.int .i64 0])) .nil 0 5:=(OwnS.refl (o:=.nil) (n:=0) rfl).upd hb10
  by_cases k7:k=7
  case neg =>
   rw[if_neg k7] at e0
   simp(disch:=omega) only[k7,go_sem]
   exact fin [] .nil e0 _ _ rfl hs0
  subst k7
  rw[if_pos rfl] at e0
  simp(disch:=omega) only[go_sem]
  refine za hf ?_
  obtain⟨dk,dn,fs,fl,ps,pa⟩:=E
  simp only at hpar hmem hmemL hml2 e0
  simp(disch:=omega) only[yg,go_sem]
  refine zc fun b14 hb14=>?_
  have hne0:b14≠b10:=fun e=>by subst e;simp[zb.upd] at hb14
  have hs1:=hs0.upd (x:=.cells [.int .i64 dk,.str dn,.sl .no 1 (cT fs),.sl .no 6 (cLs fl),.sl .no 1 (cT ps),.sl .no 10 (cWs pa)]) hb14
  simp(disch:=omega) only[hne0,Ne.symm hne0,h1m,go_sem]
  refine zf m 75 (fun x:Own×List SpotD=>[(9,.sl x.1 5 (cPs x.2))]) (fun done rest x H'=>H' b14=some (.cells [.int .i64 dk,.str dn,.sl .no 1 (cT fs),.sl .no 6 (cLs fl),.sl .no 1 (cT ps),.sl .no 10 (cWs pa)])∧x.2=done.flatMap (Yd s pa)∧OwnS H .nil H' x.1 x.2.length 5) (.nil,[]) (by simp(disch:=omega) only[cPs,List.map,go_sem]) ⟨upd_same ..,rfl,hs1⟩ ?_ ?_
  ·rintro⟨o1,a⟩ H1 J ⟨hH,hn,hs⟩ hlt
   simp only at hn
   subst hn
   simp(disch:=omega) only[h1m,hlt,go_sem]
   exact fin _ o1 e0 _ _ rfl hs
  ·rintro done x rest ⟨o1,a⟩ H1 J hd hlt _ ⟨hH,hn,hs⟩ hJ
   have hg:=Zu hd
   have hxm:x∈m:=by rw[hd];simp
   simp only at hn
   replace hs:OwnS H .nil H1 o1 a.length 5:=hs
   have hal:a.length+(Yd s pa x).length≤bMs m:=by
    have:=hml2 (done++[x]) fun y hy=>(hmemL y (zmd hd hy)).1
    rw[List.flatMap_append,Al5,← hn] at this
    simp only[List.flatMap_cons,List.flatMap_nil,List.append_nil] at this
    have e:bMs m=(m.map bM).sum:=zbE m
    rw[e,hd]
    simp only[List.map_append,List.sum_append,List.map_cons,List.map_nil,List.sum_cons,List.sum_nil] at this ⊢
    omega
   have hfl:(done++[x]).flatMap (Yd s pa)=a++Yd s pa x:=by rw[List.flatMap_append,← hn];simp
   obtain⟨xn,⟨xk,xq,xs,xl,xml⟩⟩:=x
   have hp:=hpar xn
   have hme:=hmem xn _ hxm
   rw[zu,yj] at hg
   simp only[Yd] at hal hfl
   simp(disch:=omega) only[h1m,hlt,hg,go_sem]
   refine zc fun b17 hb17=>?_
   have hne:b14≠b17:=fun e=>by subst e;rw[hH] at hb17;cases hb17
   have hu:=hs.upd (x:=.cells [.str xn,.int .i64 xk,.int .i64 xq,.str xs,.sl .no 5 (cVs xl),.sl .no 6 (cMs xml)]) hb17
   simp(disch:=omega) only[hH,hne,Ne.symm hne,go_sem]
   refine za hp ?_
   cases hpm:z8 pa xn with
   | none =>
    rw[hpm] at hal hfl
    simp(disch:=omega) only[Option.getD,Option.isSome,zW,zV,z7,go_sem]
    refine zc fun b18 hb18=>?_
    have hu2:=hu.upd (x:=.cells [.str [],.str [],.int .i64 0,.int .i64 0,.bool false,.int .i64 0,.int .i64 0,.str [],.sl .no 5 (cVs []),.sl .no 6 (cMs [])]) hb18
    have hne2:b14≠b18:=fun e=>by subst e;simp[zb.upd,hne,hH] at hb18
    simp(disch:=omega) only[go_sem]
    exact goJ (hJ (o1,a) _ ⟨by simp(disch:=omega) only[hH,hne,Ne.symm hne,hne2,Ne.symm hne2,go_sem],by rw[hfl];simp,hu2⟩) (by simp(disch:=omega) only[wrap64,go_sem])
   | some p =>
    rw[hpm] at hal hfl
    simp only at hal hfl
    replace hme:=hme p hpm
    obtain⟨pn,⟨p1,p2,p3⟩,ph,⟨yk,yq,ys,yl,ym⟩⟩:=p
    simp only at hme hal hfl
    simp(disch:=omega) only[Option.getD,Option.isSome,z7,go_sem]
    refine zc fun b18 hb18=>?_
    have hu2:=hu.upd (x:=.cells [.str pn,.str p1,.int .i64 p2,.int .i64 p3,.bool ph,.int .i64 yk,.int .i64 yq,.str ys,.sl .no 5 (cVs yl),.sl .no 6 (cMs ym)]) hb18
    have hne2:b14≠b18:=fun e=>by subst e;simp[zb.upd,hne,hH] at hb18
    have hne3:b17≠b18:=fun e=>by subst e;simp[zb.upd] at hb18
    simp(disch:=omega) only[hH,hne,Ne.symm hne,hne2,Ne.symm hne2,hne3,Ne.symm hne3,go_sem]
    refine zG (hme.2.2 _) fun o2 H2 hs2=>?_
    have hH2:=hs2.kept b14 _ (by simp only[zb.upd,hne,hne2,if_false];exact hH) (fun d e=>by cases e)
    have hu3:=Ys hu2 hs2
    simp(disch:=omega) only[go_sem]
    refine zw (by rw[yf];exact hu3.own) ?_ ?_ fun o' H3 hs3=>?_
    ·simp only[yf];omega
    ·simp only[yf,maxLen];omega
    have hH3:=hs3.kept b14 _ hH2 (zeZ hu3.own hH2)
    simp only[yf] at hs3
    simp(disch:=omega) only[wrap64,zcb,go_sem]
    exact goJ (hJ (o',a++spM s ⟨p1,p2,p3⟩ ph (.mk xk xq xs xl xml)) H3 ⟨hH3,hfl.symm,by rw[Al5];exact hu3.trans hs3⟩) (by simp(disch:=omega) only[wrap64,go_sem])
theorem spC (s:SchD) (t:TyD) (has:Bool) (v:Val) (hs:zN s≤Lim) (hb:bV v≤Lim) (ht:t.nm.length≤Lim):zgE s t has v (spM s t has v):=zim ⟨_,spE s hs v _ t has (Al4 _) hb ht⟩
theorem zoy {x:Mem}:∀ {l:List Mem},x∈l→bM x≤bMs l
 | y::l,h=>by
  rcases List.mem_cons.1 h with rfl|h
  ·simp only[bMs];omega
  ·have:=zoy h;simp only[bMs];omega
theorem znl (s:SchD) (ps:List VarD) (m:Mem) (hs:zN s≤Lim) (hps:bWs ps≤Lim) (hb:bM m≤Lim):(Yd s ps m).length≤bM m∧∀ y∈Yd s ps m,y.t.nm.length≤Lim:=by
 obtain⟨n,v⟩:=m
 simp only[bM] at hb
 simp only[Yd]
 cases hp:z8 ps n with
 | none=>simp
 | some p =>
  have hpm:p∈ps:=List.mem_of_find?_eq_some hp
  have:=spC s p.t p.has v hs (by omega) (by have:=Yk hpm;simp only[bW] at this;omega)
  exact⟨Nat.le_trans this.1 (by simp only[bM];omega),this.2.1⟩
noncomputable def zg7 (s:SchD) (ps:List VarD) (l:List Mem):List SpotD:=l.flatMap (Yd s ps)
theorem zin (s:SchD) (ps:List VarD) (l:List Mem) (hs:zN s≤Lim) (hps:bWs ps≤Lim) (hb:bMs l≤Lim):(zg7 s ps l).length≤bMs l∧∀ y∈zg7 s ps l,y.t.nm.length≤Lim:=by
 have h:∀ x∈l,_:=fun x hx=>znl s ps x hs hps (by have:=zoy hx;omega)
 refine⟨?_,fun y hy=>?_⟩
 ·have:=zcF (f:=Yd s ps) (g:=bM) l fun x hx=>(h x hx).1
  rw[← zbE] at this;exact this
 ·obtain⟨x,hx,hy⟩:=List.mem_flatMap.1 hy
  exact(h x hx).2 y hy
theorem zlR (a b:List Mem) (x:Mem):bMs (a++x::b)=bMs (a++[x])+bMs b:=by
 simp only[zbE,List.map_append,List.map_cons,List.map_nil,List.sum_append,List.sum_cons,List.sum_nil];omega
theorem zsB (s:SchD) (ps:List VarD) (l:List Mem) (H:zb) (hs:zN s≤Lim) (hps:bWs ps≤Lim) (hb:bMs l≤Lim):Y5 Tryz.prog 206 [.agg (zr s),.sl .no 10 (cWs ps),.sl .no 6 (cMs l)] H .nil 5 (cPs (zg7 s ps l)):=by
 have hml:=y9 l
 have h1m:=y0 l
 have hEl:=yS ps
 have hb':=hb
 simp only[Lim] at hb'
 have hpar:=fun n=>zdO ps n (by omega)
 have hmem:∀ n x,Mem.mk n x∈l→∀ p,z8 ps n=some p→zgE s p.t p.has x (spM s p.t p.has x):=fun n x hx p hp=>by
  have hxb:bV x≤Lim:=by have:=zdX hx;omega
  have hpm:p∈ps:=List.mem_of_find?_eq_some hp
  have hpt:p.t.nm.length≤Lim:=by have:=Yk hpm;simp only[bW] at this;omega
  exact spC s p.t p.has x hs hxb hpt
 have e0:zg7 s ps l=l.flatMap (Yd s ps):=rfl
 have hgl:=fun a (h:bMs a≤Lim)=>(zin s ps a hs hps h).1
 simp only[zg7] at hgl
 generalize zg7 s ps l=F at *
 simp only[zgE] at hmem
 obtain⟨sd,sq,sm⟩:=s
 generalize hS:(⟨sd,sq,sm⟩:SchD)=s at *
 have hcs:zr s=[.sl .no 6 (cEs sd),.str sq,.str sm]:=by rw[← hS];rfl
 simp only[hcs] at hmem ⊢
 refine zj.goO ir206 ck206 (Al4 _) fun KP Q hQ hP=>?_
 have fin:∀ r o,F=r→∀ ρ H1,zQ ρ H1 ir206.res=some [.sl o 5 (cPs r)]→OwnS H .nil H1 o r.length 5→Q .ret ρ H1:=fun r o e ρ H1 h1 h2=>hQ _ ρ H1 H1 _ nofun h1 (Low.refl _) ⟨o,by rw[e];rfl,by rw[e,yf];exact h2⟩
 simp(disch:=omega) only[ir206,h1m,go_sem]
 refine zf l 14 (fun x:Own×List SpotD=>[(7,.sl x.1 5 (cPs x.2))]) (fun done rest x H'=>x.2=done.flatMap (Yd s ps)∧OwnS H .nil H' x.1 x.2.length 5) (.nil,[]) (by simp(disch:=omega) only[cPs,List.map,go_sem]) ⟨rfl,OwnS.refl (o:=.nil) (n:=0) rfl⟩ ?_ ?_
 ·rintro⟨o1,a⟩ H1 J ⟨hn,hs⟩ hlt
  simp only at hn
  subst hn
  simp(disch:=omega) only[h1m,hlt,go_sem]
  exact fin _ o1 e0 _ _ rfl hs
 ·rintro done x rest ⟨o1,a⟩ H1 J hd hlt _ ⟨hn,hs⟩ hJ
  have hg:=Zu hd
  have hxm:x∈l:=by rw[hd];simp
  simp only at hn
  replace hs:OwnS H .nil H1 o1 a.length 5:=hs
  have hfl:(done++[x]).flatMap (Yd s ps)=a++Yd s ps x:=by rw[List.flatMap_append,← hn];simp
  have hal:a.length+(Yd s ps x).length≤bMs l:=by
   have e:=zlR done rest x
   rw[← hd] at e
   have:=hgl (done++[x]) (by omega)
   rw[hfl,Al5] at this
   omega
  obtain⟨xn,⟨xk,xq,xs,xl,xml⟩⟩:=x
  have hp:=hpar xn
  have hme:=hmem xn _ hxm
  rw[zu,yj] at hg
  simp only[Yd] at hal hfl
  simp(disch:=omega) only[h1m,hlt,hg,go_sem]
  refine zc fun b9 hb9=>?_
  have hu:=hs.upd (x:=.cells [.str xn,.int .i64 xk,.int .i64 xq,.str xs,.sl .no 5 (cVs xl),.sl .no 6 (cMs xml)]) hb9
  simp(disch:=omega) only[go_sem]
  refine za hp ?_
  cases hpm:z8 ps xn with
  | none =>
   rw[hpm] at hal hfl
   simp(disch:=omega) only[Option.getD,Option.isSome,zW,zV,z7,go_sem]
   refine zc fun b10 hb10=>?_
   have hu2:=hu.upd (x:=.cells [.str [],.str [],.int .i64 0,.int .i64 0,.bool false,.int .i64 0,.int .i64 0,.str [],.sl .no 5 (cVs []),.sl .no 6 (cMs [])]) hb10
   simp(disch:=omega) only[go_sem]
   exact goJ (hJ (o1,a) _ ⟨by rw[hfl];simp,hu2⟩) (by simp(disch:=omega) only[wrap64,go_sem])
  | some p =>
   rw[hpm] at hal hfl
   simp only at hal hfl
   replace hme:=hme p hpm
   obtain⟨pn,⟨p1,p2,p3⟩,ph,⟨yk,yq,ys,yl,ym⟩⟩:=p
   simp only at hme hal hfl
   simp(disch:=omega) only[Option.getD,Option.isSome,z7,go_sem]
   refine zc fun b10 hb10=>?_
   have hu2:=hu.upd (x:=.cells [.str pn,.str p1,.int .i64 p2,.int .i64 p3,.bool ph,.int .i64 yk,.int .i64 yq,.str ys,.sl .no 5 (cVs yl),.sl .no 6 (cMs ym)]) hb10
   have hne3:b9≠b10:=fun e=>by subst e;simp[zb.upd] at hb10
   simp(disch:=omega) only[hne3,Ne.symm hne3,go_sem]
   refine zG (hme.2.2 _) fun o2 H2 hs2=>?_
   have hu3:=Ys hu2 hs2
   simp(disch:=omega) only[go_sem]
   refine zw (by rw[yf];exact hu3.own) ?_ ?_ fun o' H3 hs3=>?_
   ·simp only[yf];omega
   ·simp only[yf,maxLen];omega
   simp only[yf] at hs3
   simp(disch:=omega) only[wrap64,zcb,go_sem]
   exact goJ (hJ (o',a++spM s ⟨p1,p2,p3⟩ ph (.mk xk xq xs xl xml)) H3 ⟨hfl.symm,by rw[Al5];exact hu3.trans hs3⟩) (by simp(disch:=omega) only[wrap64,go_sem])
noncomputable def zbj (s:SchD) (d:DirD):List SpotD:=zg7 s (yY d) d.args
noncomputable def zhx (s:SchD) (typ:List UInt8) (k:Int) (nm:List UInt8) (args:List Mem):List SpotD:=if k=0 then zg7 s ((yR s typ nm).getD zF).ps args else []
mutual
noncomputable def usS (s:SchD):SelD→List UInt8→List SpotD
 | .mk k al nm args dirs on sels,typ=>zhx s typ k nm args++dirs.flatMap (zbj s)++YS s sels (yZ s typ (.mk k al nm args dirs on sels))
noncomputable def YS (s:SchD):List SelD→List UInt8→List SpotD
 | [],_=>[]
 | x::r,typ=>usS s x typ++YS s r typ
end
theorem zj8 (s:SchD) (typ:List UInt8):∀ a b:List SelD,YS s (a++b) typ=YS s a typ++YS s b typ
 | [],b=>by simp[YS]
 | x::a,b=>by rw[Al6,YS,YS,zj8 s typ a b,zdn]
theorem zjt (s:SchD) (typ:List UInt8) (k:Int) (nm:List UInt8) (args:List Mem) (hs:zN s≤Lim) (hb:bMs args≤Lim):(zhx s typ k nm args).length≤bMs args∧∀ y∈zhx s typ k nm args,y.t.nm.length≤Lim:=by
 unfold zhx
 split
 ·exact zin s _ args hs (by have:=zeF s typ nm;omega) hb
 ·simp
theorem zfQ (s:SchD) (hs:zN s≤Lim):∀ l:List DirD,bDs l≤Lim→(l.flatMap (zbj s)).length≤bDs l∧∀ y∈l.flatMap (zbj s),y.t.nm.length≤Lim
 | [],_=>by simp
 | x::r,h=>by
  have e:bDs (x::r)=bD x+bDs r:=by simp[bDs]
  have e2:bD x=1+x.nm.length+bMs x.args:=rfl
  have h1:=zin s (yY x) x.args hs (by have:=zbW x;simp only[Lim];omega) (by omega)
  have h2:=zfQ s hs r (by omega)
  rw[List.flatMap_cons]
  refine⟨by rw[Al5];simp only[zbj];omega,fun y hy=>?_⟩
  rcases List.mem_append.1 hy with h|h
  ·exact h1.2 y h
  ·exact h2.2 y h
mutual
theorem zs1 (s:SchD) (hs:zN s≤Lim):∀(x:SelD) (typ:List UInt8),bS x≤Lim→(usS s x typ).length≤bS x∧∀ y∈usS s x typ,y.t.nm.length≤Lim
 | .mk k al nm args dirs on sels,typ,hb=>by
  simp only[bS] at hb ⊢
  have h1:=zjt s typ k nm args hs (by omega)
  have h2:=zfQ s hs dirs (by omega)
  have h3:=zdg s hs sels (yZ s typ (.mk k al nm args dirs on sels)) (by omega)
  simp only[usS]
  refine⟨by simp only[Al5];omega,fun y hy=>?_⟩
  rcases List.mem_append.1 hy with h|h
  ·rcases List.mem_append.1 h with h|h
   ·exact h1.2 y h
   ·exact h2.2 y h
  ·exact h3.2 y h
theorem zdg (s:SchD) (hs:zN s≤Lim):∀(l:List SelD) (typ:List UInt8),bSs l≤Lim→(YS s l typ).length≤bSs l∧∀ y∈YS s l typ,y.t.nm.length≤Lim
 | [],typ,_=>by simp[YS]
 | x::r,typ,hb=>by
  simp only[bSs] at hb ⊢
  have h1:=zs1 s hs x typ (by omega)
  have h2:=zdg s hs r typ (by omega)
  simp only[YS]
  refine⟨by rw[Al5];omega,fun y hy=>?_⟩
  rcases List.mem_append.1 hy with h|h
  ·exact h1.2 y h
  ·exact h2.2 y h
end
theorem zr9 (s : SchD) (hs : zN s ≤ Lim) : ∀ c : Nat, ∀ (l : List SelD) (typ : List UInt8) (H : zb), bSs l ≤ c → c ≤ Lim → Y5 Tryz.prog 150 [.agg (zr s), .str typ, .sl .no 7 (cSs l)] H .nil 5 (cPs (YS s l typ)) := by
  intro c
  induction c using Nat.strongRecOn with
  | _ c ih =>
  intro l typ H hb hc
  have l1 := YJ l
  have hll := YA l
  have hc' := hc
  simp only [Lim] at hc'
  have hfield := fun nm => zeQ s typ nm hs
  have hfps := fun nm => zeF s typ nm
  have hwith := fun x => zfP s typ x hs
  have hgiv := fun ps l H h1 h2 => zsB s ps l H hs h1 h2
  have e0 : YS s l typ = YS s l typ := rfl
  have happ := zj8 s typ
  have hok := zdg s hs
  have hfok := fun k nm args => zjt s typ k nm args hs
  have hdok := zfQ s hs
  have hSs : ∀ x, YS s [x] typ = usS s x typ := fun x => by simp [YS]
  have hSx : ∀ k al nm args dirs on sels, usS s (.mk k al nm args dirs on sels) typ = zhx s typ k nm args ++ dirs.flatMap (zbj s) ++ YS s sels (yZ s typ (.mk k al nm args dirs on sels)) := fun k al nm args dirs on sels => by simp only [usS]
  have hsl : zN s ≤ 1099511627776 := hs
  generalize hF : YS s l typ = F at e0 ⊢
  obtain ⟨sd, sq, sm⟩ := s
  generalize hS : (⟨sd, sq, sm⟩ : SchD) = s at *
  have hcs : zr s = [.sl .no 6 (cEs sd), .str sq, .str sm] := by rw [← hS]; rfl
  simp only [hcs] at hfield hwith hgiv ih ⊢
  refine zj.goO ir150 ck150 (Al4 _) fun KP Q hQ hP => ?_
  have fin : ∀ r o, F = r → ∀ ρ H1, zQ ρ H1 ir150.res = some [.sl o 5 (cPs r)] → OwnS H .nil H1 o r.length 5 → Q .ret ρ H1 := fun r o e ρ H1 h1 h2 => hQ _ ρ H1 H1 _ nofun h1 (Low.refl _) ⟨o, by rw [e]; rfl, by rw [e, yf]; exact h2⟩
  simp (disch := omega) only [ir150, l1, go_sem]
  refine zf l 16 (fun x : Own × List SpotD => [(7, .sl x.1 5 (cPs x.2))]) (fun done rest x H' => x.2 = YS s done typ ∧ OwnS H .nil H' x.1 x.2.length 5) (.nil, []) (by simp (disch := omega) only [cPs, List.map, go_sem]) ⟨by simp [YS], OwnS.refl (o := .nil) (n := 0) rfl⟩ ?_ ?_
  · rintro ⟨o1, a⟩ H1 J ⟨hn, hs⟩ hlt
    simp only at hn
    rw [hF] at hn
    subst hn
    simp (disch := omega) only [l1, hlt, go_sem]
    exact fin _ o1 rfl _ _ rfl hs
  · rintro done x rest ⟨o1, a⟩ H1 J hd hlt _ ⟨hn, hs⟩ hJ
    have hg := zab hd
    have hbm := zbf done x rest
    rw [← hd] at hbm
    simp only at hn
    replace hs : OwnS H .nil H1 o1 a.length 5 := hs
    have hal := (hok done typ (by omega)).1
    rw [← hn] at hal
    have hnx : YS s (done ++ [x]) typ = a ++ usS s x typ := by rw [happ, hSs, ← hn]
    obtain ⟨k, al, nm, args, dirs, on, sels⟩ := x
    rw [hSx] at hnx
    simp only [bS] at hbm
    have hx1 := hfield nm
    have hx2 := hwith (.mk k al nm args dirs on sels)
    have hx3 := hfps nm
    have hal2 := (hfok k nm args (by omega)).1
    have hdl := zai dirs
    have l2 := YQ dirs
    have hih := fun typ' H' => ih (bSs sels) (by omega) sels typ' H' (Al4 _) (by omega)
    have hlu := fun typ' => (hok sels typ' (by omega)).1
    rw [y6] at hg hx2
    obtain ⟨G, hG⟩ : ∃ G, G = zhx s typ k nm args := ⟨_, rfl⟩
    rw [← hG] at hnx hal2
    have hG0 : G = if k = 0 then zg7 s ((yR s typ nm).getD zF).ps args else [] := hG
    generalize yZ s typ (.mk k al nm args dirs on sels) = ty2 at *
    replace hlu := hlu ty2
    generalize hU : YS s sels ty2 = U at *
    generalize (yR s typ nm).isSome = fs at *
    generalize (yR s typ nm).getD zF = w at *
    obtain ⟨fn, fp, ⟨f1, f2, f3⟩, fd⟩ := w
    rw [zaq] at hx1
    simp only at hx3 hG0
    simp (disch := omega) only [l1, hlt, hg, go_sem]
    refine zc fun b9 hb9 => ?_
    have c9 : (H1.upd b9 (.cells [.int .i64 k, .str al, .str nm, .sl .no 6 (cMs args), .sl .no 2 (cDs dirs), .str on, .sl .no 7 (cSs sels)])) b9 = some (.cells [.int .i64 k, .str al, .str nm, .sl .no 6 (cMs args), .sl .no 2 (cDs dirs), .str on, .sl .no 7 (cSs sels)]) := upd_same ..
    have hu := hs.upd (x := .cells [.int .i64 k, .str al, .str nm, .sl .no 6 (cMs args), .sl .no 2 (cDs dirs), .str on, .sl .no 7 (cSs sels)]) hb9
    by_cases hk : k = 0
    case' pos =>
      rw [if_pos hk] at hG0
      have hk' := eq_true hk
      simp (disch := omega) only [hk', go_sem]
      refine za hx1 ?_
      simp (disch := omega) only [go_sem]
      refine zc fun b10 hb10 => ?_
      have hne : b9 ≠ b10 := fun e => by subst e; simp [zb.upd] at hb10
      have hu1 := hu.upd (x := .cells [.str fn, .sl .no 10 (cWs fp), .str f1, .int .i64 f2, .int .i64 f3, .sl .no 2 (cDs fd)]) hb10
      simp (disch := omega) only [hne, Ne.symm hne, go_sem]
      refine zG (hgiv fp args _ (by omega) (by omega)) fun o2 H2 hs2 => ?_
      rw [← hG0] at hs2 ⊢
      have c9 : H2 b9 = some (.cells [.int .i64 k, .str al, .str nm, .sl .no 6 (cMs args), .sl .no 2 (cDs dirs), .str on, .sl .no 7 (cSs sels)]) := hs2.kept b9 _ (by simp [zb.upd, hne]) (fun d e => by cases e)
      have hu2 := Ys hu1 hs2
      simp (disch := omega) only [go_sem]
      refine zw (by rw [yf]; exact hu2.own) ?_ ?_ fun o1 H3 hs3 => ?_
      · simp only [yf]; omega
      · simp only [yf, maxLen]; omega
      simp only [yf] at hs3
      have c9 := hs3.kept b9 _ c9 (zeZ hu2.own c9)
      have hu : OwnS H .nil H3 o1 (a ++ G).length 5 := by rw [Al5]; exact hu2.trans hs3
      simp (disch := omega) only [c9, zcb, l2, go_sem]
    case' neg =>
      rw [if_neg hk] at hG0
      rw [show a.length = (a ++ G).length from by rw [hG0, List.append_nil]] at hu
      simp (disch := omega) only [hk, l2, go_sem]
      rw [show cPs a = cPs (a ++ G) by rw [hG0, List.append_nil]]
    all_goals
      refine zf dirs 42 (fun x : Own × List SpotD => [(7, .sl x.1 5 (cPs x.2))]) (fun done rest x H' => H' b9 = some (.cells [.int .i64 k, .str al, .str nm, .sl .no 6 (cMs args), .sl .no 2 (cDs dirs), .str on, .sl .no 7 (cSs sels)]) ∧ x.2 = a ++ G ++ done.flatMap (zbj s) ∧ OwnS H .nil H' x.1 x.2.length 5) (o1, a ++ G) (by simp (disch := omega) only [go_sem]) ⟨c9, by simp, hu⟩ ?_ ?_
      · rintro ⟨o2, a2⟩ H4 J2 ⟨c9, hn2, hs4⟩ hlt2
        simp only at hn2
        have hal4 := (hdok dirs (by omega)).1
        replace hs4 : OwnS H .nil H4 o2 a2.length 5 := hs4
        have ha2 : a2.length = a.length + G.length + (dirs.flatMap (zbj s)).length := by rw [hn2, Al5, Al5]
        simp (disch := omega) only [l2, hlt2, c9, go_sem]
        refine za hx2 ?_
        simp (disch := omega) only [c9, go_sem]
        refine zG (hih ty2 H4) fun o5 H5 hs5 => ?_
        rw [hU] at hs5 ⊢
        have hu5 := Ys hs4 hs5
        have c9' := hs5.kept b9 _ c9 (fun d e => by cases e)
        simp (disch := omega) only [c9, c9', go_sem]
        refine zw (by rw [yf]; exact hu5.own) ?_ ?_ fun o6 H6 hs6 => ?_
        · simp only [yf]; omega
        · simp only [yf, maxLen]; omega
        simp only [yf] at hs6
        simp (disch := omega) only [wrap64, zcb, go_sem]
        exact goJ (hJ (o6, a2 ++ U) H6 ⟨by simp only; rw [hnx, hn2]; simp [zdn], by rw [Al5]; exact hu5.trans hs6⟩) (by simp (disch := omega) only [wrap64, go_sem])
      · rintro done2 x2 rest2 ⟨o2, a2⟩ H4 J2 hd2 hlt2 _ ⟨c9, hn2, hs4⟩ hJ2
        have hg2 := zal hd2
        have hbd := zbX done2 x2 rest2
        rw [← hd2] at hbd
        simp only at hn2
        replace hs4 : OwnS H .nil H4 o2 a2.length 5 := hs4
        have hal4 := (hdok (done2 ++ [x2]) (by have : bDs (done2 ++ [x2]) = bDs done2 + bD x2 := by simp [bDs]
                                               omega)).1
        have eb : bDs (done2 ++ [x2]) = bDs done2 + bD x2 := by simp [bDs]
        rw [List.flatMap_append, Al5] at hal4
        have e2 : [x2].flatMap (zbj s) = zbj s x2 := by simp
        rw [e2] at hal4
        have ha2 : a2.length = a.length + G.length + (done2.flatMap (zbj s)).length := by rw [hn2, Al5, Al5]
        have hn3 : a ++ G ++ (done2 ++ [x2]).flatMap (zbj s) = a2 ++ zbj s x2 := by rw [List.flatMap_append, e2, hn2]; simp [zdn]
        have hp2 := zgD x2
        have hpl := zbW x2
        have eD : zbj s x2 = zg7 s (yY x2) x2.args := rfl
        obtain ⟨dn, da⟩ := x2
        simp only [bD] at hbd eb
        simp only at eD
        have hgv := fun H => hgiv (yY ⟨dn, da⟩) da H (by simp only [Lim]; omega) (by omega)
        rw [← eD] at hgv
        generalize yY ⟨dn, da⟩ = ps at *
        generalize zbj s ⟨dn, da⟩ = D at *
        rw [zf3] at hg2 hp2
        simp (disch := omega) only [l2, hlt2, hg2, go_sem]
        refine zc fun b13 hb13 => ?_
        have hne : b9 ≠ b13 := fun e => by subst e; rw [c9] at hb13; cases hb13
        have hu1 := hs4.upd (x := .cells [.str dn, .sl .no 6 (cMs da)]) hb13
        simp (disch := omega) only [hne, Ne.symm hne, go_sem]
        refine za hp2 ?_
        simp (disch := omega) only [hne, Ne.symm hne, go_sem]
        refine zG (hgv _) fun o5 H5 hs5 => ?_
        have hu5 := Ys hu1 hs5
        have c9' := hs5.kept b9 _ (by simp only [zb.upd, hne, if_false]; exact c9) (fun d e => by cases e)
        have c13 := hs5.kept b13 _ (upd_same ..) (fun d e => by cases e)
        simp (disch := omega) only [c9, c9', c13, hne, Ne.symm hne, go_sem]
        refine zw (by rw [yf]; exact hu5.own) ?_ ?_ fun o6 H6 hs6 => ?_
        · simp only [yf]; omega
        · simp only [yf, maxLen]; omega
        simp only [yf] at hs6
        have c9'' := hs6.kept b9 _ c9' (zeZ hu5.own c9')
        simp (disch := omega) only [wrap64, zcb, go_sem]
        exact goJ (hJ2 (o6, a2 ++ D) H6 ⟨c9'', hn3.symm, by rw [Al5]; exact hu5.trans hs6⟩) (by simp (disch := omega) only [wrap64, go_sem])
theorem zkE (t:TyD):(zam t).nm=t.nm:=by unfold zam;split<;>rfl
def zuB:Val→Int
 | .mk k _ _ _ _=>k
def ze0 (v:VarD) (t:TyD) (has:Bool):Bool:=if !isM t||isM v.t then zaG v.t t else (has||(v.has&&!decide (zuB v.d=0)))&&zaG v.t (zam t)
theorem zr3 (v:VarD) (t:TyD) (has:Bool) (hv:v.t.nm.length≤Lim) (ht:t.nm.length≤Lim):zi Tryz.prog 112 [.agg (cW v),.agg (cTy t),.bool has] (.bool (ze0 v t has)):=by
 have h1:=isC t ht
 have h2:=isC v.t hv
 have h3:=zkj v.t t hv ht
 have h4:=zqO t ht
 have h5:=zkj v.t (zam t) hv (by rw[zkE];exact ht)
 obtain⟨nm,⟨v1,v2,v3⟩,vh,⟨k,q,st,l,m⟩⟩:=v
 have e0:ze0 ⟨nm,⟨v1,v2,v3⟩,vh,.mk k q st l m⟩ t has=if !isM t||isM ⟨v1,v2,v3⟩ then zaG ⟨v1,v2,v3⟩ t else (has||(vh&&!decide (k=0)))&&zaG ⟨v1,v2,v3⟩ (zam t):=rfl
 generalize ze0 ⟨nm,⟨v1,v2,v3⟩,vh,.mk k q st l m⟩ t has=F at *
 simp only at h2 h3 h5
 generalize isM t=x1 at *
 generalize isM ⟨v1,v2,v3⟩=x2 at *
 generalize zaG ⟨v1,v2,v3⟩ t=x3 at *
 generalize zaG ⟨v1,v2,v3⟩ (zam t)=x5 at *
 generalize zam t=t' at *
 obtain⟨t1,t2,t3⟩:=t
 obtain⟨u1,u2,u3⟩:=t'
 simp only[cTy] at h1 h2 h3 h4 h5 ⊢
 rw[z7]
 refine zi.go ir112 ck112 (Al4 _) fun KP Q hQ=>?_
 simp(disch:=omega) only[ir112,go_sem]
 refine za h1 ?_
 cases x1 with
 | false =>
  simp(disch:=omega) only[go_sem]
  refine za h3 ?_
  simp(disch:=omega) only[go_sem]
  exact hQ _ _ _ _ nofun rfl (by simp[zd,ze,AV.strip,AV.strip1,e0])
 | true =>
 simp(disch:=omega) only[go_sem]
 refine za h2 ?_
 cases x2 with
 | true =>
  simp(disch:=omega) only[go_sem]
  refine za h3 ?_
  simp(disch:=omega) only[go_sem]
  exact hQ _ _ _ _ nofun rfl (by simp[zd,ze,AV.strip,AV.strip1,e0])
 | false =>
 simp only[Bool.not_true,Bool.or_self,Al7,if_false] at e0
 cases has with
 | true =>
  simp(disch:=omega) only[go_sem]
  refine za h4 ?_
  simp(disch:=omega) only[go_sem]
  refine za h5 ?_
  simp(disch:=omega) only[go_sem]
  exact hQ _ _ _ _ nofun rfl (by simp[zd,ze,AV.strip,AV.strip1,e0])
 | false =>
 cases vh with
 | false =>
  simp(disch:=omega) only[go_sem]
  exact hQ _ _ _ _ nofun rfl (by simp[zd,ze,AV.strip,AV.strip1,e0])
 | true =>
 by_cases hk:k=0
 ·have hk':=eq_true hk
  simp(disch:=omega) only[hk',go_sem]
  exact hQ _ _ _ _ nofun rfl (by simp[zd,ze,AV.strip,AV.strip1,e0,hk])
 ·simp(disch:=omega) only[hk,go_sem]
  refine za h4 ?_
  simp(disch:=omega) only[go_sem]
  refine za h5 ?_
  simp(disch:=omega) only[go_sem]
  exact hQ _ _ _ _ nofun rfl (by simp[zd,ze,AV.strip,AV.strip1,e0,hk])
theorem zhK (d:DocD) (sels:List SelD):(ZN d sels).length≤d.frags.length:=by
 have h:∀(R:List (List UInt8)) (fs:List FragD) (a:List (List UInt8)),(fs.foldl (Zq R) a).length≤a.length+fs.length:=by
  intro R fs
  induction fs with
  | nil=>simp
  | cons f fs ih =>
   intro a
   have:=ih (Zq R a f)
   have h2:(Zq R a f).length≤a.length+1:=by unfold Zq;split<;>simp
   simp only[List.foldl_cons,Al2];omega
 have:=h (Zj d sels) d.frags []
 simpa[ZN] using this
noncomputable def zgZ (s:SchD) (d:DocD) (n:List UInt8):List SpotD:=YS s ((yD d n).getD zFr).sels ((yD d n).getD zFr).on
noncomputable def zgW (s:SchD) (d:DocD) (o:OpD):List SpotD:=YS s o.sels (Yx s o)++(ZN d o.sels).flatMap (zgZ s d)
theorem zoW (d:DocD) (n:List UInt8):bSs ((yD d n).getD zFr).sels≤bFs d.frags:=by
 cases h:yD d n with
 | none=>simp[zFr,bSs]
 | some f=>exact Nat.le_trans (zag f) (zbw (List.mem_of_find?_eq_some h))
theorem zh2 (s:SchD) (d:DocD) (hs:zN s≤Lim) (hb:zy d≤Lim):∀ l:List (List UInt8),(l.flatMap (zgZ s d)).length≤l.length*zy d∧∀ y∈l.flatMap (zgZ s d),y.t.nm.length≤Lim
 | []=>by simp
 | n::r=>by
  have h1:=zoW d n
  have h0:bFs d.frags≤zy d:=by simp only[zy];omega
  have h2:=zdg s hs ((yD d n).getD zFr).sels ((yD d n).getD zFr).on (by omega)
  have h3:=zh2 s d hs hb r
  rw[List.flatMap_cons,Al2,Nat.add_mul,Nat.one_mul]
  refine⟨by rw[Al5];simp only[zgZ] at h3 ⊢;omega,fun y hy=>?_⟩
  rcases List.mem_append.1 hy with h|h
  ·exact h2.2 y h
  ·exact h3.2 y h
theorem zqk (s:SchD) (d:DocD) (o:OpD) (hs:zN s≤Lim) (hb:zy d≤Lim) (ho:bSs o.sels≤zy d):(zgW s d o).length≤zy d+zy d*zy d∧∀ y∈zgW s d o,y.t.nm.length≤Lim:=by
 have h1:=zdg s hs o.sels (Yx s o) (by omega)
 have h2:=zh2 s d hs hb (ZN d o.sels)
 have h3:=zhK d o.sels
 have h4:=yO d.frags
 have h0:bFs d.frags≤zy d:=by simp only[zy];omega
 have h5:(ZN d o.sels).length*zy d≤zy d*zy d:=Nat.mul_le_mul_right _ (by omega)
 refine⟨by rw[zgW,Al5];omega,fun y hy=>?_⟩
 rcases List.mem_append.1 hy with h|h
 ·exact h1.2 y h
 ·exact h2.2 y h
theorem ztA (s:SchD) (d:DocD) (o:OpD) (H:zb) (hs:zN s≤Lim) (hb:Zc d≤Lim) (hb2:zy d*zy d+zy d≤1099511627776) (ho:bSs o.sels≤zy d):Y5 Tryz.prog 111 [.agg (zr s),.agg (zX d),.agg (cO o)] H .nil 5 (cPs (zgW s d o)):=by
 have hb3:=hb
 simp only[Zc,Lim] at hb3
 have hbd:zy d≤Lim:=by simp only[Lim];omega
 have h0:bFs d.frags≤zy d:=by simp only[zy];omega
 have hfl:=yO d.frags
 have hroot:=zoq s o
 have hsp:=fun l typ H (h:bSs l≤zy d)=>zr9 s hs (zy d) l typ H h hbd
 have hrch:=fun H=>zoo d o.sels H hb ho
 have hrl:=zhK d o.sels
 have hfr:=fun n=>zjb d n (by simp only[Lim];omega)
 have hfs:=fun n=>zoW d n
 have hokA:=zh2 s d hs hbd
 have hok1:=(zdg s hs o.sels (Yx s o) (by omega)).1
 have e0:zgW s d o=YS s o.sels (Yx s o)++(ZN d o.sels).flatMap (zgZ s d):=rfl
 have eS:∀ n,zgZ s d n=YS s ((yD d n).getD zFr).sels ((yD d n).getD zFr).on:=fun _=>rfl
 have hmulA:(ZN d o.sels).length*zy d≤zy d*zy d:=Nat.mul_le_mul_right _ (by omega)
 generalize zgW s d o=F at *
 generalize Yx s o=rt at *
 generalize ZN d o.sels=R at *
 obtain⟨k,nm,vs,ds,sels⟩:=o
 simp only at hok1 e0 ho hrch
 generalize hU0:YS s sels rt=U0 at *
 generalize hB:zy d=B at *
 have hcd:zX d=[.sl .no 5 (cOs d.ops),.sl .no 4 (cFs d.frags)]:=rfl
 obtain⟨sd,sq,sm⟩:=s
 generalize hS:(⟨sd,sq,sm⟩:SchD)=s at *
 have hcs:zr s=[.sl .no 6 (cEs sd),.str sq,.str sm]:=by rw[← hS];rfl
 simp only[hcs,hcd,Y3] at hroot hsp hrch hfr ⊢
 have l1:=zM R
 refine zj.goO ir111 ck111 (Al4 _) fun KP Q hQ hP=>?_
 have fin:∀ r o,F=r→∀ ρ H1,zQ ρ H1 ir111.res=some [.sl o 5 (cPs r)]→OwnS H .nil H1 o r.length 5→Q .ret ρ H1:=fun r o e ρ H1 h1 h2=>hQ _ ρ H1 H1 _ nofun h1 (Low.refl _) ⟨o,by rw[e];rfl,by rw[e,yf];exact h2⟩
 simp(disch:=omega) only[ir111,go_sem]
 refine za hroot ?_
 simp(disch:=omega) only[go_sem]
 refine zG (hsp sels rt _ ho) fun o1 H1 hs1=>?_
 rw[hU0] at hs1 ⊢
 rw[yf] at hs1
 simp(disch:=omega) only[go_sem]
 refine zG (hrch _) fun oR H2 hs2=>?_
 have hu:=Ys hs1 hs2
 simp(disch:=omega) only[l1,go_sem]
 refine zf R 24 (fun x:Own×List SpotD=>[(7,.sl x.1 5 (cPs x.2))]) (fun done rest x H'=>x.2=U0++done.flatMap (zgZ s d)∧OwnS H .nil H' x.1 x.2.length 5) (o1,U0) (by simp(disch:=omega) only[go_sem]) ⟨by simp,hu⟩ ?_ ?_
 ·rintro⟨o3,a⟩ H3 J ⟨hn,hs3⟩ hlt
  simp only at hn
  subst hn
  simp(disch:=omega) only[l1,hlt,go_sem]
  exact fin _ o3 e0 _ _ rfl hs3
 ·rintro done x rest ⟨o3,a⟩ H3 J hd hlt _ ⟨hn,hs3⟩ hJ
  have hg:=Z0 hd
  have hfx:=hfr x
  have hfsx:=hfs x
  have eSx:=eS x
  simp only at hn
  replace hs3:OwnS H .nil H3 o3 a.length 5:=hs3
  have hal:=(hokA done).1
  have hdl:done.length*B≤R.length*B:=Nat.mul_le_mul_right _ (by omega)
  have hal1:=(hokA [x]).1
  simp only[List.flatMap_cons,List.flatMap_nil,List.append_nil,Al2,Al3,Nat.zero_add,Nat.one_mul] at hal1
  have hnx:U0++(done++[x]).flatMap (zgZ s d)=a++zgZ s d x:=by rw[List.flatMap_append,hn];simp[zdn]
  have hale:a.length=U0.length+(done.flatMap (zgZ s d)).length:=by rw[hn,Al5]
  rw[eSx] at hal1 hnx
  generalize (yD d x).isSome=fs at *
  generalize (yD d x).getD zFr=f at *
  obtain⟨fn,fo,fd,fss⟩:=f
  rw[Ya] at hfx
  simp only at hfsx hal1 hnx
  have hsx:=fun H=>hsp fss fo H (by omega)
  generalize YS s fss fo=U at *
  simp(disch:=omega) only[l1,hlt,hg,go_sem]
  refine za hfx ?_
  simp(disch:=omega) only[go_sem]
  refine zc fun b10 hb10=>?_
  have hu1:=hs3.upd (x:=.cells [.str fn,.str fo,.sl .no 2 (cDs fd),.sl .no 7 (cSs fss)]) hb10
  simp(disch:=omega) only[go_sem]
  refine zG (hsx _) fun o4 H4 hs4=>?_
  have hu4:=Ys hu1 hs4
  simp(disch:=omega) only[go_sem]
  refine zw (by rw[yf];exact hu4.own) ?_ ?_ fun o5 H5 hs5=>?_
  ·simp only[yf];omega
  ·simp only[yf,maxLen];omega
  simp only[yf] at hs5
  simp(disch:=omega) only[wrap64,zcb,go_sem]
  exact goJ (hJ (o5,a++U) H5 ⟨hnx.symm,by rw[Al5];exact hu4.trans hs5⟩) (by simp(disch:=omega) only[wrap64,go_sem])
noncomputable def zg1 (s:SchD) (ps:List VarD) (l:List Mem):Bool:=l.all fun m=>match m with|.mk n v=>match z8 ps n with|none=>true|some p=>ZH s p.t v
theorem zuj (s:SchD) (ps:List VarD) (l:List Mem) (hs:zN s≤Lim) (hp:bWs ps≤Lim) (hb:bMs l≤Lim):zi Tryz.prog 110 [.sl .no 10 (cWs ps),.sl .no 6 (cMs l),.view (zr s)] (.bool (zg1 s ps l)):=by
 have hml:=y9 l
 have h1m:=y0 l
 have hEl:=yS ps
 have hb':=hb
 simp only[Lim] at hb'
 have hpar:=fun n=>zdO ps n (by omega)
 have hmem:∀ n x,Mem.mk n x∈l→∀ p,z8 ps n=some p→zi Tryz.prog 109 [.agg (zr s),.agg (cTy p.t),.agg (cV x)] (.bool (ZH s p.t x)):=fun n x hx p hp=>by
  have hxb:bV x≤Lim:=by have:=zdX hx;omega
  have hpm:p∈ps:=List.mem_of_find?_eq_some hp
  have hpt:p.t.nm.length≤Lim:=by have:=Yk hpm;simp only[bW] at this;omega
  exact zeE s p.t x hs hxb hpt
 have hst:∀ n v r,zg1 s ps (.mk n v::r)=((match z8 ps n with|none=>true|some p=>ZH s p.t v)&&zg1 s ps r):=fun n v r=>by simp only[zg1,List.all_cons]
 have h00:zg1 s ps []=true:=rfl
 generalize hR:zg1 s ps=R at *
 obtain⟨sd,sq,sm⟩:=s
 generalize hS:(⟨sd,sq,sm⟩:SchD)=s at *
 have hcs:zr s=[.sl .no 6 (cEs sd),.str sq,.str sm]:=by rw[← hS];rfl
 simp only[hcs] at hmem ⊢
 refine zi.go ir110 ck110 (Al4 _) fun KP Q hQ=>?_
 simp(disch:=omega) only[ir110,h1m,go_sem]
 refine zf l 12 (fun _:Unit=>[]) (fun done rest _ H=>R rest=R l) () (by simp(disch:=omega) only[go_sem]) rfl ?_ ?_
 ·rintro _ H J hn hlt
  rw[h00] at hn
  simp(disch:=omega) only[h1m,hlt,go_sem]
  exact hQ _ _ _ _ nofun rfl (by simp[zd,ze,AV.strip,AV.strip1,← hn])
 ·rintro done x rest _ H J hd hlt _ hn hJ
  have hg:=Zu hd
  have hxm:x∈l:=by rw[hd];simp
  obtain⟨xn,⟨xk,xq,xs,xl,xml⟩⟩:=x
  have hp:=hpar xn
  have hme:=hmem xn _ hxm
  rw[hst] at hn
  rw[zu,yj] at hg
  simp(disch:=omega) only[h1m,hlt,hg,go_sem]
  refine zc fun b7 hb7=>?_
  simp(disch:=omega) only[go_sem]
  refine za hp ?_
  cases hpm:z8 ps xn with
  | none =>
   rw[hpm] at hn
   simp(disch:=omega) only[Option.getD,Option.isSome,zW,zV,z7,go_sem]
   refine zc fun b8 hb8=>?_
   simp(disch:=omega) only[go_sem]
   exact goJ (hJ () _ (by simpa using hn)) (by simp(disch:=omega) only[wrap64,go_sem])
  | some p =>
   rw[hpm] at hn
   replace hme:=hme p hpm
   obtain⟨pn,⟨p1,p2,p3⟩,ph,⟨yk,yq,ys,yl,ym⟩⟩:=p
   simp only[cTy,yj] at hme hn
   generalize ZH s ⟨p1,p2,p3⟩ (.mk xk xq xs xl xml)=x1 at *
   simp(disch:=omega) only[Option.getD,Option.isSome,z7,go_sem]
   refine zc fun b8 hb8=>?_
   have hne3:b7≠b8:=fun e=>by subst e;simp[zb.upd] at hb8
   simp(disch:=omega) only[hne3,Ne.symm hne3,go_sem]
   refine za hme ?_
   cases x1 with
   | false =>
    simp(disch:=omega) only[go_sem]
    exact hQ _ _ _ _ nofun rfl (by simp[zd,ze,AV.strip,AV.strip1,← hn])
   | true =>
    simp(disch:=omega) only[go_sem]
    exact goJ (hJ () _ (by simpa using hn)) (by simp(disch:=omega) only[wrap64,go_sem])
noncomputable def zkZ (s:SchD) (l:List VarD):Bool:=l.all fun v=>!v.has||ZH s v.t v.d
noncomputable def zee (s:SchD) (d:DocD):Bool:=(d.ops.all fun o=>zkZ s o.vars)&&Yc s d (zdJ s (zg1 s))
theorem znG (s:SchD) (d:DocD) (hs:zN s≤Lim) (hb:zy d≤Lim):zi Tryz.prog 63 [.agg (zr s),.agg (zX d)] (.bool (zee s d)):=by
 have hw:=zd9 s d 110 [.view (zr s)] (zg1 s) hs hb ⟨by kernel_rfl,fun ps l hp hl=>zuj s ps l hs hp hl⟩
 have hb':=hb
 simp only[Lim,zy] at hb'
 have hol:=Zt d.ops
 have l1:=Z4 d.ops
 have hlit:∀ o∈d.ops,∀ v∈o.vars,zi Tryz.prog 109 [.agg (zr s),.agg (cTy v.t),.agg (cV v.d)] (.bool (ZH s v.t v.d)):=fun o ho v hv=>by
  obtain⟨a,b,hd⟩:=List.append_of_mem ho
  have:=Y1 a o b
  rw[← hd] at this
  have h2:=Yk hv
  simp only[bO] at this
  simp only[bW] at h2
  exact zeE s v.t v.d hs (by simp only[Lim];omega) (by simp only[Lim];omega)
 have hvl:∀ o∈d.ops,o.vars.length≤1099511627776:=fun o ho=>by
  obtain⟨a,b,hd⟩:=List.append_of_mem ho
  have:=Y1 a o b
  rw[← hd] at this
  have h2:=yS o.vars
  simp only[bO] at this
  omega
 have e0:zee s d=((d.ops.all fun o=>zkZ s o.vars)&&Yc s d (zdJ s (zg1 s))):=rfl
 have hV:∀ v r,zkZ s (v::r)=((!v.has||ZH s v.t v.d)&&zkZ s r):=fun v r=>by simp only[zkZ,List.all_cons]
 have hV0:zkZ s []=true:=rfl
 generalize zee s d=F at *
 generalize Yc s d (zdJ s (zg1 s))=x1 at *
 generalize zkZ s=R at *
 obtain⟨ops,frags⟩:=d
 obtain⟨sd,sq,sm⟩:=s
 generalize hS:(⟨sd,sq,sm⟩:SchD)=s at *
 have hcs:zr s=[.sl .no 6 (cEs sd),.str sq,.str sm]:=by rw[← hS];rfl
 have hcd:zX ⟨ops,frags⟩=[.sl .no 5 (cOs ops),.sl .no 4 (cFs frags)]:=rfl
 simp only[hcs,hcd] at hw hlit l1 hvl e0 hol hb' ⊢
 refine zi.go ir63 ck63 (Al4 _) fun KP Q hQ=>?_
 simp(disch:=omega) only[ir63,l1,go_sem]
 refine zf ops 12 (fun _:Unit=>[]) (fun done rest _ H=>(rest.all fun o=>R o.vars)=ops.all fun o=>R o.vars) () (by simp(disch:=omega) only[go_sem]) rfl ?_ ?_
 ·rintro _ H J hn hlt
  rw[← hn] at e0
  simp(disch:=omega) only[l1,hlt,go_sem]
  refine za hw ?_
  simp(disch:=omega) only[go_sem]
  exact hQ _ _ _ _ nofun rfl (by simp[zd,ze,AV.strip,AV.strip1,e0])
 ·rintro done x rest _ H J hd hlt _ hn hJ
  have hg:=Ym hd
  have hxm:x∈ops:=by rw[hd];simp
  have hlx:=hlit x hxm
  have hvx:=hvl x hxm
  rw[List.all_cons] at hn
  obtain⟨k,nm,vs,ds,ss⟩:=x
  simp only at hlx hn hvx
  have l2:=Zs vs
  rw[Y3] at hg
  simp(disch:=omega) only[l1,hlt,hg,go_sem]
  refine zc fun b6 hb6=>?_
  simp(disch:=omega) only[l2,go_sem]
  refine zf vs 19 (fun _:Unit=>[]) (fun done rest _ H=>R rest=R vs) () (by simp(disch:=omega) only[go_sem]) rfl ?_ ?_
  ·rintro _ H2 J2 hn2 hlt2
   rw[hV0] at hn2
   rw[← hn2,Bool.true_and] at hn
   simp(disch:=omega) only[l2,hlt2,go_sem]
   exact goJ (hJ () _ hn) (by simp(disch:=omega) only[wrap64,go_sem])
  ·rintro done2 x2 rest2 _ H2 J2 hd2 hlt2 _ hn2 hJ2
   have hg2:=Zm hd2
   have hx2:=hlx x2 (by rw[hd2];simp)
   rw[hV] at hn2
   obtain⟨vn,⟨v1,v2,v3⟩,vh,⟨yk,yq,ys,yl,ym⟩⟩:=x2
   simp only[cTy,yj] at hx2 hn2
   generalize ZH s ⟨v1,v2,v3⟩ (.mk yk yq ys yl ym)=x3 at *
   rw[z7] at hg2
   simp(disch:=omega) only[l2,hlt2,hg2,go_sem]
   refine zc fun b8 hb8=>?_
   cases vh with
   | false =>
    simp(disch:=omega) only[go_sem]
    exact goJ (hJ2 () _ (by simpa using hn2)) (by simp(disch:=omega) only[wrap64,go_sem])
   | true =>
    simp(disch:=omega) only[go_sem]
    refine za hx2 ?_
    cases x3 with
    | true =>
     simp(disch:=omega) only[go_sem]
     exact goJ (hJ2 () _ (by simpa using hn2)) (by simp(disch:=omega) only[wrap64,go_sem])
    | false =>
     have hf:R vs=false:=by rw[← hn2];rfl
     rw[hf,Bool.false_and] at hn
     rw[← hn] at e0
     simp(disch:=omega) only[go_sem]
     exact hQ _ _ _ _ nofun rfl (by simp[zd,ze,AV.strip,AV.strip1,e0])
def zmY (vs:List VarD) (x:SpotD):Bool:=match z8 vs x.nm with|none=>false|some v=>ze0 v x.t x.has
noncomputable def zqX (s:SchD) (d:DocD) (o:OpD):Bool:=(zgW s d o).all (zmY o.vars)
noncomputable def zpp (s:SchD) (d:DocD):Bool:=d.ops.all (zqX s d)
theorem zuy (s:SchD) (d:DocD) (hs:zN s≤Lim) (hb:Zc d≤Lim) (hb2:zy d*zy d+zy d≤1099511627776):zi Tryz.prog 64 [.agg (zr s),.agg (zX d)] (.bool (zpp s d)):=by
 have hb3:=hb
 simp only[Zc,Lim] at hb3
 have hbd:zy d≤Lim:=by simp only[Lim];omega
 have hb0:bOs d.ops≤zy d:=by simp only[zy];omega
 have hol:=Zt d.ops
 have l1:=Z4 d.ops
 have hop:∀ o∈d.ops,bO o≤zy d:=fun o ho=>by
  obtain⟨a,b,hd⟩:=List.append_of_mem ho
  have:=Y1 a o b
  rw[← hd] at this
  omega
 have hsp:=fun(o:OpD) (ho:o∈d.ops) (H:zb)=>ztA s d o H hs hb hb2 (by have:=hop o ho;simp only[bO] at this;omega)
 have hok:=fun(o:OpD) (ho:o∈d.ops)=>zqk s d o hs hbd (by have:=hop o ho;simp only[bO] at this;omega)
 have hdef:=fun(o:OpD) (ho:o∈d.ops) n=>zlF o n (by have:=hop o ho;have:=yS o.vars;simp only[bO] at *;omega)
 have hall:∀ o∈d.ops,∀ x∈zgW s d o,∀ v,z8 o.vars x.nm=some v→zi Tryz.prog 112 [.agg (cW v),.agg (cTy x.t),.bool x.has] (.bool (ze0 v x.t x.has)):=fun o ho x hx v hv=>by
  have hvm:v∈o.vars:=List.mem_of_find?_eq_some hv
  have h2:=Yk hvm
  have h3:=hop o ho
  simp only[bO] at h3
  simp only[bW] at h2
  exact zr3 v x.t x.has (by omega) ((hok o ho).2 x hx)
 have e0:zpp s d=d.ops.all (zqX s d):=rfl
 have eO:∀ o,zqX s d o=(zgW s d o).all (zmY o.vars):=fun _=>rfl
 generalize zpp s d=F at *
 generalize zqX s d=A at *
 generalize zgW s d=U at *
 generalize hB:zy d=B at *
 have hcd:zX d=[.sl .no 5 (cOs d.ops),.sl .no 4 (cFs d.frags)]:=rfl
 obtain⟨sd,sq,sm⟩:=s
 generalize hS:(⟨sd,sq,sm⟩:SchD)=s at *
 have hcs:zr s=[.sl .no 6 (cEs sd),.str sq,.str sm]:=by rw[← hS];rfl
 simp only[hcs,hcd] at hsp ⊢
 refine zi.go ir64 ck64 (Al4 _) fun KP Q hQ=>?_
 simp(disch:=omega) only[ir64,l1,go_sem]
 refine zf d.ops 15 (fun _:Unit=>[(5,.bool true)]) (fun done rest _ H=>rest.all A=d.ops.all A) () (by simp(disch:=omega) only[go_sem]) rfl ?_ ?_
 ·rintro _ H J hn hlt
  rw[← hn] at e0
  simp(disch:=omega) only[l1,hlt,go_sem]
  exact hQ _ _ _ _ nofun rfl (by simp[zd,ze,AV.strip,AV.strip1,e0])
 ·rintro done x rest _ H J hd hlt _ hn hJ
  have hg:=Ym hd
  have hxm:x∈d.ops:=by rw[hd];simp
  have hsx:=hsp x hxm
  have hokx:=(hok x hxm).1
  have hdx:=hdef x hxm
  have hax:=hall x hxm
  have eOx:=eO x
  rw[List.all_cons] at hn
  generalize U x=L at *
  have l2:=yf L
  obtain⟨k,nm,vs,ds,ss⟩:=x
  simp only at hax eOx hdx
  generalize A ⟨k,nm,vs,ds,ss⟩=a at *
  rw[Y3] at hg hdx hsx
  simp(disch:=omega) only[l1,hlt,hg,go_sem]
  refine zc fun b7 hb7=>?_
  simp(disch:=omega) only[go_sem]
  refine zG (hsx _) fun o2 H2 hs2=>?_
  have c7:H2 b7=some (.cells [.int .i64 k,.str nm,.sl .no 10 (cWs vs),.sl .no 2 (cDs ds),.sl .no 7 (cSs ss)]):=hs2.kept b7 _ (upd_same ..) (fun d e=>by cases e)
  simp(disch:=omega) only[l2,go_sem]
  refine zf L 24 (fun _:Unit=>[(5,.bool true)]) (fun done rest _ H=>rest.all (zmY vs)=L.all (zmY vs)∧H b7=some (.cells [.int .i64 k,.str nm,.sl .no 10 (cWs vs),.sl .no 2 (cDs ds),.sl .no 7 (cSs ss)])) () (by simp(disch:=omega) only[go_sem]) ⟨rfl,c7⟩ ?_ ?_
  ·rintro _ H3 J2 ⟨hn2,c7⟩ hlt2
   have ha:a=true:=by rw[eOx,← hn2];rfl
   rw[ha,Bool.true_and] at hn
   simp(disch:=omega) only[l2,hlt2,go_sem]
   exact goJ (hJ () _ hn) (by simp(disch:=omega) only[wrap64,go_sem])
  ·rintro done2 x2 rest2 _ H3 J2 hd2 hlt2 _ ⟨hn2,c7⟩ hJ2
   have hg2:=zqQ hd2
   have hax2:=hax x2 (by rw[hd2];simp)
   rw[List.all_cons] at hn2
   have e2:zmY vs x2=match z8 vs x2.nm with|none=>false|some v=>ze0 v x2.t x2.has:=rfl
   generalize zmY vs x2=y at *
   obtain⟨pn,⟨p1,p2,p3⟩,ph⟩:=x2
   simp only[cP] at hg2
   simp only[cTy] at hax2 e2
   have hdn:=hdx pn
   simp(disch:=omega) only[l2,hlt2,hg2,go_sem]
   refine zc fun b9 hb9=>?_
   have hne:b7≠b9:=fun e=>by subst e;rw[c7] at hb9;cases hb9
   simp(disch:=omega) only[c7,hne,Ne.symm hne,go_sem]
   refine za hdn ?_
   cases hpm:z8 vs pn with
   | none =>
    rw[hpm] at e2
    simp only at e2
    rw[e2,Bool.false_and] at hn2
    rw[← hn2] at eOx
    rw[eOx,Bool.false_and] at hn
    rw[← hn] at e0
    simp(disch:=omega) only[Option.getD,Option.isSome,zW,zV,z7,go_sem]
    refine zc fun b10 hb10=>?_
    simp(disch:=omega) only[go_sem]
    exact hQ _ _ _ _ nofun rfl (by simp[zd,ze,AV.strip,AV.strip1,e0])
   | some v =>
    rw[hpm] at e2
    replace hax2:=hax2 v hpm
    simp only at e2
    rw[← e2] at hax2
    obtain⟨vn,⟨v1,v2,v3⟩,vh,⟨yk,yq,ys,yl,ym⟩⟩:=v
    rw[z7] at hax2
    simp(disch:=omega) only[Option.getD,Option.isSome,z7,go_sem]
    refine zc fun b10 hb10=>?_
    have hne2:b7≠b10:=fun e=>by subst e;simp[zb.upd,hne,c7] at hb10
    have hne3:b9≠b10:=fun e=>by subst e;simp[zb.upd] at hb10
    simp(disch:=omega) only[c7,hne,Ne.symm hne,hne2,Ne.symm hne2,hne3,Ne.symm hne3,go_sem]
    refine za hax2 ?_
    cases y with
    | true =>
     simp(disch:=omega) only[go_sem]
     exact goJ (hJ2 () _ ⟨by simpa using hn2,by simp(disch:=omega) only[c7,hne,Ne.symm hne,hne2,Ne.symm hne2,go_sem]⟩) (by simp(disch:=omega) only[wrap64,go_sem])
    | false =>
     rw[Bool.false_and] at hn2
     rw[← hn2] at eOx
     rw[eOx,Bool.false_and] at hn
     rw[← hn] at e0
     simp(disch:=omega) only[go_sem]
     exact hQ _ _ _ _ nofun rfl (by simp[zd,ze,AV.strip,AV.strip1,e0])
noncomputable def zdY (s:SchD) (d:DocD) (n:Int):Bool:=if n=22 then zee s d else if n=23 then zpp s d else false
theorem zpR (s:SchD) (d:DocD) (n:Int) (hs:zN s≤Lim) (hb:Zc d≤Lim) (hb2:zy d*zy d+zy d≤1099511627776):zi Tryz.prog 22 [.agg (zr s),.agg (zX d),.int .i64 n] (.bool (zdY s d n)):=by
 have hb3:=hb
 simp only[Zc,Lim] at hb3
 have r1:=znG s d hs (by simp only[Lim];omega)
 have r2:=zuy s d hs hb hb2
 unfold zdY
 generalize zee s d=x1 at *
 generalize zpp s d=x2 at *
 have hcd:zX d=[.sl .no 5 (cOs d.ops),.sl .no 4 (cFs d.frags)]:=rfl
 obtain⟨sd,sq,sm⟩:=s
 simp only[zr,hcd] at r1 r2 ⊢
 refine zi.go ir22 ck22 (Al4 _) fun KP Q hQ=>?_
 by_cases h1:n=22
 ·subst h1
  simp(disch:=omega) only[ir22,go_sem]
  refine za r1 ?_
  simp(disch:=omega) only[go_sem]
  exact hQ _ _ _ _ nofun rfl (by simp[zd,ze,AV.strip,AV.strip1])
 by_cases h2:n=23
 ·subst h2
  simp(disch:=omega) only[ir22,go_sem]
  refine za r2 ?_
  simp(disch:=omega) only[go_sem]
  exact hQ _ _ _ _ nofun rfl (by simp[zd,ze,AV.strip,AV.strip1])
 simp(disch:=omega) only[ir22,h1,h2,go_sem]
 exact hQ _ _ _ _ nofun rfl (by simp[zd,ze,AV.strip,AV.strip1,h1,h2])
end Go.Proofs.YtbcocdloklbkjaaGreatDoor
