import Derived.Shelf.Strings.IndexAnyAll
import Derived.Shelf.Small.Utf8
import Derived.Laws.RangeAny
import Derived.Laws.Runes
import Derived.WalkMore
import Derived.Shelf.RegionOpenPlain
import Derived.BigQuiet
import Derived.Test.YtaielcdfcgpbiaaGreatDoorRows
import Derived.Test.YtaielcdfcgpbiaaGreatDoorM1
import Derived.Test.YtaielcdfcgpbiaaGreatDoorM2
import Derived.Test.YtaielcdfcgpbiaaGreatDoorM3
import Derived.Test.YtaielcdfcgpbiaaGreatDoorM4
import Derived.Test.YtaielcdfcgpbiaaGreatDoorM5
import Derived.Test.YtaielcdfcgpbiaaGreatDoorM6
import Derived.Test.YtaielcdfcgpbiaaGreatDoorM7
set_option maxRecDepth 100000
set_option linter.all false
namespace Go.Proofs.YtaielcdfcgpbiaaGreatDoor
open Go.Ab
theorem zaX (s : List UInt8) : Pure Tryz.prog 249 [.str s] (.agg (cK ⟨2, s⟩)) := by
  refine Pure.go ir249 ck249 (Al4 _) fun KP Q hQ => ?_
  simp (disch := omega) only [ir249, go_sem]
  first
  | exact hQ _ _ _ [.agg [.int .i64 2, .str s]] nofun (by simp (disch := omega) only [ir249, resvs, resv, go_sem]) rfl
  | (refine goA_intro fun b hb => ?_
     simp (disch := omega) only [go_sem]
     exact hQ _ _ _ [.agg [.int .i64 2, .str s]] nofun (by simp (disch := omega) only [ir249, resvs, resv, go_sem]) rfl)
theorem YI (s : List UInt8) : Pure Tryz.prog 251 [.str s] (.agg (cK ⟨1, s⟩)) := by
  refine Pure.go ir251 ck251 (Al4 _) fun KP Q hQ => ?_
  simp (disch := omega) only [ir251, go_sem]
  first
  | exact hQ _ _ _ [.agg [.int .i64 1, .str s]] nofun (by simp (disch := omega) only [ir251, resvs, resv, go_sem]) rfl
  | (refine goA_intro fun b hb => ?_
     simp (disch := omega) only [go_sem]
     exact hQ _ _ _ [.agg [.int .i64 1, .str s]] nofun (by simp (disch := omega) only [ir251, resvs, resv, go_sem]) rfl)
theorem zdm:∀ v,wfV v→4*bV v≤Lim→Pure Tryz.prog 226 [.agg (cV v)] (.sl .no 2 (cKs (zH v))):=by
 refine Val.ind fun k n s l m ihl ihm hw hb=>?_
 have hb':4*(1+s.length+bVs l+bMs m)≤Lim:=hb
 obtain⟨hn,hwl,hwm⟩:=hw
 have hll:=yd l
 have hml:=zK m
 have h1:=zU l
 have h2:=zL m
 simp only[Lim] at hb'
 have hsl:s.length≤Lim:=by simp only[Lim];omega
 refine Pure.go ir226 ck226 (Al4 _) fun KP Q hQ=>?_
 by_cases k0:k=0
 ·subst k0
  simp(disch:=omega) only[ir226,zk,go_sem]
  refine goK_pure (zaX _) ?_
  simp(disch:=omega) only[cK,go_sem]
  exact hQ _ _ _ _ nofun rfl (by simp[tupOf,envOf,AV.strip,AV.strip1,zH,cKs,cK])
 by_cases k1:k=1
 ·subst k1
  by_cases n1:n=1
  ·simp(disch:=omega) only[ir226,zk,n1,go_sem]
   refine goK_pure (zaX _) ?_
   simp(disch:=omega) only[cK,go_sem]
   exact hQ _ _ _ _ nofun rfl (by simp[tupOf,envOf,AV.strip,AV.strip1,zH,cKs,cK,n1,boolT])
  ·simp(disch:=omega) only[ir226,zk,n1,go_sem]
   refine goK_pure (zaX _) ?_
   simp(disch:=omega) only[cK,go_sem]
   exact hQ _ _ _ _ nofun rfl (by simp[tupOf,envOf,AV.strip,AV.strip1,zH,cKs,cK,n1,boolT])
 by_cases k2:k=2
 ·subst k2
  simp(disch:=omega) only[ir226,zk,go_sem]
  refine goK_pure (zdK n hn.1 hn.2) ?_
  simp(disch:=omega) only[go_sem]
  exact hQ _ _ _ _ nofun rfl (by simp[tupOf,envOf,AV.strip,AV.strip1,zH,cKs,cK])
 by_cases k3:k=3
 ·subst k3
  simp(disch:=omega) only[ir226,zk,go_sem]
  refine goK_pure (zad s hsl) ?_
  simp(disch:=omega) only[go_sem]
  exact hQ _ _ _ _ nofun rfl (by simp[tupOf,envOf,AV.strip,AV.strip1,zH,cKs,cK])
 by_cases k4:k=4
 ·subst k4
  simp(disch:=omega) only[ir226,zk,go_sem]
  exact hQ _ _ _ _ nofun rfl (by simp[tupOf,envOf,AV.strip,AV.strip1,zH,cKs,cK])
 by_cases k5:k=5
 ·subst k5
  simp(disch:=omega) only[ir226,zk,go_sem]
  refine goK_pure (zaX _) ?_
  simp(disch:=omega) only[cK,go_sem]
  exact hQ _ _ _ _ nofun rfl (by simp[tupOf,envOf,AV.strip,AV.strip1,zH,cKs,cK])
 by_cases k8:k=8
 ·subst k8
  simp(disch:=omega) only[ir226,zk,go_sem]
  refine goK_pure (YI _) ?_
  simp(disch:=omega) only[go_sem]
  refine goK_pure (zaX _) ?_
  simp(disch:=omega) only[cK,go_sem]
  exact hQ _ _ _ _ nofun rfl (by simp[tupOf,envOf,AV.strip,AV.strip1,zH,cKs,cK])
 have hl4:=Yn l
 have hm4:=Yg m
 by_cases k6:k=6
 ·subst k6
  simp(disch:=omega) only[ir226,zk,h1,go_sem]
  refine goK_pure (YI _) ?_
  simp(disch:=omega) only[cK,go_sem]
  refine goL_range l 4 (fun x:Own×List Tok=>[(3,.sl x.1 2 (cKs x.2))]) (fun done rest x H=>x.2++yQ rest=⟨1,[91]⟩::yQ l∧OwnS Heap.emp .full H x.1 x.2.length 2) (.full,[⟨1,[91]⟩]) (by simp(disch:=omega) only[cKs,cK,go_sem]) ⟨rfl,OwnS.refl trivial⟩ ?_ ?_
  ·rintro⟨o,a⟩ H J ⟨ha,hs⟩ hlt
   simp only[yQ,List.append_nil] at ha
   have hal:a.length≤1+4*bVs l:=by rw[ha];simp only[Al2];omega
   have hcl:=zu a
   simp(disch:=omega) only[h1,hlt,go_sem]
   refine goK_pure (YI _) ?_
   simp(disch:=omega) only[cK,go_sem]
   refine goP_ownS (by rw[hcl];exact hs.own) (by simp only[hcl,Al2,Al3];omega) (by simp only[hcl,Al2,Al3,maxLen];omega) fun o' H' hs'=>?_
   simp(disch:=omega) only[go_sem]
   have e:cKs a++[[.int .i64 1,.str [93]]]=cKs (zH (.mk 6 n s l m)):=by
    rw[ha];simp[zH,cKs,cK]
   exact hQ _ _ _ _ nofun rfl (by simp[tupOf,envOf,AV.strip,AV.strip1,e])
  ·rintro done x rest ⟨o,a⟩ H J hd hlt _ ⟨ha,hs⟩ hJ
   have hg:=zZ hd
   have hbm:=yL done x rest
   rw[← hd] at hbm
   simp only[yQ] at ha
   have hx:=ZW x
   have hal:a.length≤1+4*bVs l:=by
    have:=congrArg List.length ha
    simp only[Al5,Al2] at this
    omega
   have hcl:=zu a
   have hcx:=zu (zH x)
   have hmem:x∈l:=by rw[hd];simp
   simp(disch:=omega) only[zf,zc,za,ze,zd,zb,zi,h1,hlt,hg,go_sem]
   refine goK_pure (ihl x hmem (zai hwl x hmem) (by simp only[Lim];omega)) ?_
   simp(disch:=omega) only[go_sem]
   refine goP_ownS (by rw[hcl];exact hs.own) (by simp only[hcl,hcx];omega) (by simp only[hcl,hcx,maxLen];omega) fun o' H' hs'=>?_
   simp(disch:=omega) only[wrap64,yv,go_sem]
   exact goJ (hJ (o',a++zH x) H' ⟨by rw[← ha];simp,hs.trans (by simpa[hcl,hcx] using hs')⟩) (by simp(disch:=omega) only[Ye,go_sem])
 ·have et:zH (.mk k n s l m)=⟨1,[123]⟩::(zN m++[⟨1,[125]⟩]):=by simp[zH,k0,k1,k2,k3,k4,k5,k8,k6]
  simp(disch:=omega) only[ir226,zk,h2,k0,k1,k2,k3,k4,k5,k8,k6,go_sem]
  refine goK_pure (YI _) ?_
  simp(disch:=omega) only[cK,go_sem]
  refine goL_range m 6 (fun x:Own×List Tok=>[(5,.sl x.1 2 (cKs x.2))]) (fun done rest x H=>x.2++zN rest=⟨1,[123]⟩::zN m∧OwnS Heap.emp .full H x.1 x.2.length 2) (.full,[⟨1,[123]⟩]) (by simp(disch:=omega) only[cKs,cK,go_sem]) ⟨rfl,OwnS.refl trivial⟩ ?_ ?_
  ·rintro⟨o,a⟩ H J ⟨ha,hs⟩ hlt
   simp only[zN,List.append_nil] at ha
   have hal:a.length≤1+4*bMs m:=by rw[ha];simp only[Al2];omega
   have hcl:=zu a
   simp(disch:=omega) only[h2,hlt,go_sem]
   refine goK_pure (YI _) ?_
   simp(disch:=omega) only[cK,go_sem]
   refine goP_ownS (by rw[hcl];exact hs.own) (by simp only[hcl,Al2,Al3];omega) (by simp only[hcl,Al2,Al3,maxLen];omega) fun o' H' hs'=>?_
   simp(disch:=omega) only[go_sem]
   have e:cKs a++[[.int .i64 1,.str [125]]]=cKs (zH (.mk k n s l m)):=by
    rw[et,ha];simp[cKs,cK]
   exact hQ _ _ _ _ nofun rfl (by simp[tupOf,envOf,AV.strip,AV.strip1,e])
  ·rintro done x rest ⟨o,a⟩ H J hd hlt _ ⟨ha,hs⟩ hJ
   have hg:=zP hd
   have hbm:=zW done x rest
   rw[← hd] at hbm
   have hmem:x∈m:=by rw[hd];simp
   have hx:=zcA x
   simp only[zN] at ha
   have hal:a.length+(YE x).length≤1+4*bMs m:=by
    have:=congrArg List.length ha
    simp only[Al5,Al2] at this
    omega
   obtain⟨t,v⟩:=x
   simp only[YE,bM,Al2] at ha hbm hal hx
   have hcl:=zu a
   have hcx:=zu (zH v)
   simp(disch:=omega) only[zf,zc,za,ze,zd,zb,zi,h2,hlt,hg,go_sem]
   refine goK_pure (zaX _) ?_
   simp(disch:=omega) only[zf,zc,za,ze,zd,zb,zi,go_sem]
   refine goK_pure (YI _) ?_
   simp(disch:=omega) only[zf,zc,za,ze,zd,zb,zi,cK,go_sem]
   refine goP_ownS (by rw[hcl];exact hs.own) (by simp only[hcl,Al2,Al3];omega) (by simp only[hcl,Al2,Al3,maxLen];omega) fun o2 H2 hs2=>?_
   have hs2':OwnS Heap.emp .full H2 o2 (a.length+2) 2:=hs.trans (by simpa[hcl] using hs2)
   simp(disch:=omega) only[zf,zc,za,ze,zd,zb,zi,h2,hlt,hg,go_sem]
   refine goK_pure (ihm t v hmem (ZN hwm t v hmem) (by simp only[Lim];omega)) ?_
   simp(disch:=omega) only[go_sem]
   have hl2:(cKs a++[[AV.int .i64 2,.str t],[.int .i64 1,.str [58]]]).length=a.length+2:=by simp[hcl]
   refine goP_ownS (by rw[hl2];exact hs2'.own) (by rw[hl2,hcx];omega) (by rw[hl2,hcx];simp only[maxLen];omega) fun o3 H3 hs3=>?_
   rw[hl2,hcx] at hs3
   simp(disch:=omega) only[wrap64,yv,go_sem]
   have ea:cKs (a++[⟨2,t⟩,⟨1,[58]⟩]++zH v)=cKs a++[[AV.int .i64 2,.str t],[.int .i64 1,.str [58]]]++cKs (zH v):=by simp[cKs,cK]
   have el:(a++[(⟨2,t⟩:Tok),⟨1,[58]⟩]++zH v).length=a.length+2+(zH v).length:=by simp;omega
   exact goJ (hJ (o3,a++[⟨2,t⟩,⟨1,[58]⟩]++zH v) H3 ⟨by rw[← ha];simp,hs2'.trans (by rw[el];exact hs3)⟩) (by simp(disch:=omega) only[ea,go_sem])
theorem zby (v:Val) (hv:bV v≤Lim) (dp:Int) (h0:0≤dp) (h1:dp≤64) (fixed:Bool):Pure Tryz.prog 231 [.agg (cV v),.int .i64 dp,.bool fixed] (.bool (zB dp fixed v)):=by
 refine Pure.go ir231 ck231 (Al4 _) fun KP Q hQ=>?_
 have hdv:=Z2 v
 have hv':=hv
 simp only[Lim] at hv'
 have d1:IntKind.wrap .i64 (dp+zJ v)=dp+zJ v:=wrap64 (by omega) (by omega)
 have hcv:=zA (zy v [])
 simp(disch:=omega) only[zf,zc,za,ze,zd,zb,zi,ir231,go_sem]
 refine goK_pure (zes v hv) ?_
 cases hp:yt v with
 | false =>
  simp(disch:=omega) only[go_sem]
  exact hQ _ _ _ _ nofun rfl (by simp[tupOf,envOf,AV.strip,AV.strip1,zB,hp])
 | true =>
  simp(disch:=omega) only[zf,zc,za,ze,zd,zb,zi,go_sem]
  refine goK_pure (zeb v hv) ?_
  by_cases hd:dp+zJ v≤16
  case neg =>
   simp(disch:=omega) only[zf,zc,za,ze,zd,zb,zi,d1,hd,go_sem]
   exact hQ _ _ _ _ nofun rfl (by simp[tupOf,envOf,AV.strip,AV.strip1,zB,hp,hd])
  cases fixed with
  | false =>
   simp(disch:=omega) only[zf,zc,za,ze,zd,zb,zi,d1,hd,go_sem]
   exact hQ _ _ _ _ nofun rfl (by simp[tupOf,envOf,AV.strip,AV.strip1,zB,hp,hd])
  | true =>
   simp(disch:=omega) only[zf,zc,za,ze,zd,zb,zi,d1,hd,go_sem]
   refine goK_pure (zfs v hv) ?_
   by_cases hz:(zy v []).length=0
   ·have hz':(((zy v []).length:Int)=0)=True:=eq_true (by omega)
    simp(disch:=omega) only[hcv,hz',go_sem]
    exact hQ _ _ _ _ nofun rfl (by simp[tupOf,envOf,AV.strip,AV.strip1,zB,hp,hd,hz])
   ·have hz':¬ (((zy v []).length:Int)=0):=by omega
    simp(disch:=omega) only[hcv,hz',go_sem]
    exact hQ _ _ _ _ nofun rfl (by simp[tupOf,envOf,AV.strip,AV.strip1,zB,hp,hd,hz])
theorem zdj (m:List Mem) (hm:bMs m≤Lim) (dp:Int) (h0:0≤dp) (h1:dp≤64) (fixed:Bool):Pure Tryz.prog 230 [.sl .no 6 (cMs m),.int .i64 dp,.bool fixed] (.bool (yk dp fixed m)):=by
 refine Pure.go ir230 ck230 (Al4 _) fun KP Q hQ=>?_
 have hcl:=zL m
 have hml:=zK m
 have hm':=hm
 simp only[Lim] at hm'
 simp(disch:=omega) only[ir230,go_sem]
 refine goL_range m 7 (fun _:Unit=>[]) (fun done rest _ H=>yk dp fixed m=yk dp fixed rest) () (by simp(disch:=omega) only[go_sem]) rfl ?_ ?_
 ·rintro _ H J hx hlt
  have e:yk dp fixed m=true:=hx
  simp(disch:=omega) only[hcl,hlt,go_sem]
  exact hQ _ _ _ _ nofun rfl (by simp[tupOf,envOf,AV.strip,AV.strip1,e])
 ·rintro done x rest _ H J hd hlt hlt2 hx hJ
  have hg:=zP hd
  have hbm:=zW done x rest
  rw[← hd] at hbm
  obtain⟨s,v⟩:=x
  simp only[bM] at hbm
  have hst:yk dp fixed m=(zj s&&zB dp fixed v&&yk dp fixed rest):=by rw[hx];simp[yk,zbj]
  simp(disch:=omega) only[zf,zc,za,ze,zd,zb,zi,hcl,hlt,hg,go_sem]
  refine goK_pure (Zp s (by simp only[Lim];omega)) ?_
  cases hn:zj s with
  | false =>
   simp(disch:=omega) only[go_sem]
   exact hQ _ _ _ _ nofun rfl (by simp[tupOf,envOf,AV.strip,AV.strip1,hst,hn])
  | true =>
   simp(disch:=omega) only[zf,zc,za,ze,zd,zb,zi,hcl,hlt,hg,go_sem]
   refine goK_pure (zby v (by simp only[Lim];omega) dp h0 h1 fixed) ?_
   cases hr:zB dp fixed v with
   | false =>
    simp(disch:=omega) only[go_sem]
    exact hQ _ _ _ _ nofun rfl (by simp[tupOf,envOf,AV.strip,AV.strip1,hst,hn,hr])
   | true =>
    simp(disch:=omega) only[wrap64,go_sem]
    exact goJ (hJ () _ (by rw[hst,hn,hr];rfl)) (by simp(disch:=omega) only[go_sem])
theorem zdF (m:List DirD) (hm:bDs m≤Lim) (dp:Int) (h0:0≤dp) (h1:dp≤64) (fixed:Bool):Pure Tryz.prog 192 [.sl .no 2 (cDs m),.int .i64 dp,.bool fixed] (.bool (z1 dp fixed m)):=by
 refine Pure.go ir192 ck192 (Al4 _) fun KP Q hQ=>?_
 have hcl:=Zf m
 have hml:=ZY m
 have hm':=hm
 simp only[Lim] at hm'
 simp(disch:=omega) only[ir192,go_sem]
 refine goL_range m 7 (fun _:Unit=>[]) (fun done rest _ H=>z1 dp fixed m=z1 dp fixed rest) () (by simp(disch:=omega) only[go_sem]) rfl ?_ ?_
 ·rintro _ H J hx hlt
  have e:z1 dp fixed m=true:=hx
  simp(disch:=omega) only[hcl,hlt,go_sem]
  exact hQ _ _ _ _ nofun rfl (by simp[tupOf,envOf,AV.strip,AV.strip1,e])
 ·rintro done x rest _ H J hd hlt hlt2 hx hJ
  have hg:=Zv hd
  have hbm:=Z7 done x rest
  rw[← hd] at hbm
  obtain⟨s,args⟩:=x
  simp only[bD] at hbm
  have ex:cD ⟨s,args⟩=[.str s,.sl .no 6 (cMs args)]:=rfl
  rw[ex] at hg
  have hst:z1 dp fixed m=(zj s&&yk dp fixed args&&z1 dp fixed rest):=by rw[hx];simp[z1,Y9]
  simp(disch:=omega) only[hcl,hlt,hg,go_sem]
  refine goK_pure (Zp s (by simp only[Lim];omega)) ?_
  cases hn:zj s with
  | false =>
   simp(disch:=omega) only[go_sem]
   exact hQ _ _ _ _ nofun rfl (by simp[tupOf,envOf,AV.strip,AV.strip1,hst,hn])
  | true =>
   simp(disch:=omega) only[hcl,hlt,hg,go_sem]
   refine goK_pure (zdj args (by simp only[Lim];omega) dp h0 h1 fixed) ?_
   cases hr:yk dp fixed args with
   | false =>
    simp(disch:=omega) only[go_sem]
    exact hQ _ _ _ _ nofun rfl (by simp[tupOf,envOf,AV.strip,AV.strip1,hst,hn,hr])
   | true =>
    simp(disch:=omega) only[wrap64,go_sem]
    exact goJ (hJ () _ (by rw[hst,hn,hr];rfl)) (by simp(disch:=omega) only[go_sem])
theorem zdC (has:Bool) (v:Val) (hv:bV v≤Lim):Pure Tryz.prog 193 [.bool has,.agg (cV v)] (.bool (Z0 has v)):=by
 refine Pure.go ir193 ck193 (Al4 _) fun KP Q hQ=>?_
 cases has with
 | true =>
  simp(disch:=omega) only[zf,zc,za,ze,zd,zb,zi,ir193,go_sem]
  refine goK_pure (zby v hv 0 (by decide) (by decide) true) ?_
  simp(disch:=omega) only[go_sem]
  exact hQ _ _ _ _ nofun rfl (by simp[tupOf,envOf,AV.strip,AV.strip1,Z0])
 | false =>
  simp(disch:=omega) only[zf,zc,za,ze,zd,zb,zi,ir193,go_sem]
  refine goK_pure (Pure.low (r:=.bool (eqd v zV)) (by
   have:=zdw v hv zV
   simpa[AV.strip,Yq,zcR,AV.strip1] using this)) ?_
  simp(disch:=omega) only[go_sem]
  exact hQ _ _ _ _ nofun rfl (by simp[tupOf,envOf,AV.strip,AV.strip1,Z0])
theorem zeT {n:Nat} (h:n<18446744073709551616):IntKind.wrap .u64 (n:Int)=n:=by
 have e:IntKind.wrap .u64 (n:Int)=(n:Int) % 18446744073709551616:=rfl
 rw[e];omega
theorem zbX (t:TyD) (hs:t.nm.length≤Lim):Pure Tryz.prog 191 [.agg (cTy t)] (.bool (zt t)):=by
 refine Pure.go ir191 ck191 (Al4 _) fun KP Q hQ=>?_
 obtain⟨nm,ls,ms⟩:=t
 simp only at hs
 simp(disch:=omega) only[ir191,cTy,steps,st2,pev,rev,oev,optr,ibin,sbin,ishf,bound,mmAll,mm2,mk,mkArgs,AV.cells,AV.boxable,AV.one,AV.strip1,fillA,fillS,Nat.reduceEqDiff,reduceCtorEq,↓reduceIte,Nat.reduceAdd,Int.reduceNeg,Nat.reduceLeDiff,Int.reduceToNat,Int.reduceEq,Int.reduceLT,Int.reduceLE,Int.reduceAdd,Io,Im,If,Il,Jt,Jf,AC.rg,Jm,Jl,Ja,Fm,Fl,Fa,Imv,Imb,Iai,Iei,Igi,Isi,Ipf,Ipt,Ilb,Iia,Ilt,Iap,Ink,Iln,Ils,Iad,Iex,Ibx,Ing]
 refine goK_pure (Zp nm hs) ?_
 cases h1:zj nm with
 | false =>
  simp(disch:=omega) only[steps,st2,pev,rev,oev,optr,ibin,sbin,ishf,bound,mmAll,mm2,mk,mkArgs,AV.cells,AV.boxable,AV.one,AV.strip1,fillA,fillS,Nat.reduceEqDiff,reduceCtorEq,↓reduceIte,Nat.reduceAdd,Int.reduceNeg,Nat.reduceLeDiff,Int.reduceToNat,Int.reduceEq,Int.reduceLT,Int.reduceLE,Int.reduceAdd]
  exact hQ _ _ _ _ nofun rfl (by simp[tupOf,envOf,AV.strip,AV.strip1,zt,h1])
 | true =>
  by_cases h2:0≤ls
  case neg =>
   simp(disch:=omega) only[h2,steps,st2,pev,rev,oev,optr,ibin,sbin,ishf,bound,mmAll,mm2,mk,mkArgs,AV.cells,AV.boxable,AV.one,AV.strip1,fillA,fillS,Nat.reduceEqDiff,reduceCtorEq,↓reduceIte,Nat.reduceAdd,Int.reduceNeg,Nat.reduceLeDiff,Int.reduceToNat,Int.reduceEq,Int.reduceLT,Int.reduceLE,Int.reduceAdd]
   exact hQ _ _ _ _ nofun rfl (by simp[tupOf,envOf,AV.strip,AV.strip1,zt,h1,h2])
  by_cases h3:ls≤4
  case neg =>
   simp(disch:=omega) only[h2,h3,steps,st2,pev,rev,oev,optr,ibin,sbin,ishf,bound,mmAll,mm2,mk,mkArgs,AV.cells,AV.boxable,AV.one,AV.strip1,fillA,fillS,Nat.reduceEqDiff,reduceCtorEq,↓reduceIte,Nat.reduceAdd,Int.reduceNeg,Nat.reduceLeDiff,Int.reduceToNat,Int.reduceEq,Int.reduceLT,Int.reduceLE,Int.reduceAdd]
   exact hQ _ _ _ _ nofun rfl (by simp[tupOf,envOf,AV.strip,AV.strip1,zt,h1,h2,h3])
  by_cases h4:0≤ms
  case neg =>
   simp(disch:=omega) only[h2,h3,h4,steps,st2,pev,rev,oev,optr,ibin,sbin,ishf,bound,mmAll,mm2,mk,mkArgs,AV.cells,AV.boxable,AV.one,AV.strip1,fillA,fillS,Nat.reduceEqDiff,reduceCtorEq,↓reduceIte,Nat.reduceAdd,Int.reduceNeg,Nat.reduceLeDiff,Int.reduceToNat,Int.reduceEq,Int.reduceLT,Int.reduceLE,Int.reduceAdd]
   exact hQ _ _ _ _ nofun rfl (by simp[tupOf,envOf,AV.strip,AV.strip1,zt,h1,h2,h3,h4])
  obtain⟨n,rfl⟩:∃ n:Nat,ls=(n:Int):=⟨ls.toNat,by omega⟩
  have w1:=zeT (n:=n) (by omega)
  have e0:min n IntKind.i64.bits=n:=by show min n 64=n;omega
  have hp:(2:Int) ^ n≤2 ^ 4:=by exact_mod_cast Nat.pow_le_pow_right (by decide) (by omega:n≤4)
  have hp0:(0:Int)≤2 ^ n:=by exact_mod_cast Nat.zero_le _
  have e2:IntKind.wrap .i64 (2*2 ^ min n IntKind.i64.bits)=2 ^ (n+1):=by rw[e0,wrap64 (by omega) (by omega),Int.pow_succ,Int.mul_comm]
  have hn0:¬ ((n:Int)<0):=by omega
  simp(disch:=omega) only[h2,h3,h4,w1,e2,hn0,steps,st2,pev,rev,oev,optr,ibin,sbin,ishf,bound,mmAll,mm2,mk,mkArgs,AV.cells,AV.boxable,AV.one,AV.strip1,fillA,fillS,Nat.reduceEqDiff,reduceCtorEq,↓reduceIte,Nat.reduceAdd,Int.reduceNeg,Nat.reduceLeDiff,Int.reduceToNat,Int.reduceEq,Int.reduceLT,Int.reduceLE,Int.reduceAdd]
  exact hQ _ _ _ _ nofun rfl (by simp[tupOf,envOf,AV.strip,AV.strip1,zt,h1,h2,h3,h4])
structure VAt (H:Heap) (w:Nat) (o:Own) (l:List Tok):Prop where
 cell:H w=some (.cells [.sl o 2 (cKs l)])
 own:Owned H o l.length 2
structure VR (H0:Heap) (o0:Own) (w:Nat) (l0 tk:List Tok) (H:Heap) (o:Own):Prop where
 here:VAt H w o (l0++tk)
 st:WStep H0 o0 w H o
def VC (f:FuncId) (args:List AV) (tk:List Tok):Prop :=
 ∀(H:Heap) (w:Nat) (o:Own) (l:List Tok),VAt H w o l→l.length+tk.length≤Lim →
  ACalls Tryz.prog f (.ptr w 0::args) H (zdW fun v H'=>v=.tup []∧∃ o',VR H o w l tk H' o')
theorem VR.refl {H:Heap} {o:Own} {w:Nat} {l:List Tok} (h:VAt H w o l):VR H o w l [] H o:=⟨by rw[List.append_nil];exact h,.refl _ _ _⟩
theorem VAt.alloc {H:Heap} {w b:Nat} {o:Own} {l:List Tok} {x:AObj} (h:VAt H w o l) (hb:H b=none):VAt (H.upd b x) w o l :=
 ⟨by rw[upd_ne (fun e=>by subst e;rw[h.cell] at hb;cases hb)];exact h.cell,h.own.upd hb⟩
theorem VR.alloc {H0 H:Heap} {o0 o:Own} {w b:Nat} {l0 tk:List Tok} {x:AObj} (h:VR H0 o0 w l0 tk H o) (hb:H b=none):VR H0 o0 w l0 tk (H.upd b x) o:=⟨h.here.alloc hb,h.st.alloc hb⟩
theorem VR.cast {H0 H:Heap} {o0 o:Own} {w:Nat} {l0 tk tk':List Tok} (h:VR H0 o0 w l0 tk H o) (e:tk=tk'):VR H0 o0 w l0 tk' H o:=e▸h
theorem VAt.app {H H1:Heap} {w:Nat} {o o1:Own} {l ts:List Tok} {n:Nat} (h:VAt H w o l) (hs:OwnS H o H1 o1 n 2) (hn:n=(l++ts).length) :
  H1 w=some (.cells [.sl o 2 (cKs l)])∧VR H o w l ts (H1.upd w (.cells [.sl o1 2 (cKs (l++ts))])) o1:=by
 subst hn
 have hc:=ZM h.own h.cell hs.kept
 exact⟨hc,⟨upd_same ..,Yo hs.own hc⟩,fun c y hcw hn hy=>by rw[upd_ne hcw];exact hs.kept c y hy hn,hs.new⟩
section
variable {KP:AV→Heap→Prop} {Q:AExit→Env→Heap→Prop} {st:List Fr} {ρ:Env} {H:Heap} {all items:List AItem} {d:Option Nat} {R:List Chk}
theorem zm {f:FuncId} {args:List AV} {tk':List Tok} (hc:VC f args tk') {H0:Heap} {o0 o:Own} {w:Nat} {l0 tk:List Tok} (h:VR H0 o0 w l0 tk H o) (hb:l0.length+(tk.length+tk'.length)≤Lim)
  (k:∀ o' H',VR H0 o0 w l0 (tk++tk') H' o'→WStep H o w H' o'→goR Tryz.prog KP Q all items st R (ρ.set d (.tup [])) H'):goK Tryz.prog KP Q all items st d R ρ f (.ptr w 0::args) H:=by
 refine goK_ret (hc H w o _ h.here (by simp only[Al5];omega)) fun v H' ⟨hv,o',h2⟩=>?_
 subst hv
 exact k o' H' ⟨by rw[← zay];exact h2.here,h.st.trans h.here.cell h2.st⟩ h2.st
end
theorem pR (s:List UInt8):VC 67 [.str s] [pk s]:=by
 intro H w o l h hb
 refine ACalls.go ir67 ck67 (Al4 _) fun KP Q hQ=>?_
 have hkl:=zu l
 have hc:=h.cell
 simp only[Lim,Al2,Al3] at hb
 simp(disch:=omega) only[ir67,hc,go_sem]
 refine goP_ownS (by rw[hkl];exact h.own) (by simp only[hkl,Al2,Al3];omega) (by simp only[hkl,Al2,Al3,maxLen];omega) fun o2 H2 hs2=>?_
 obtain⟨g1,g2⟩:=h.app (ts:=[pk s]) hs2 (by simp[hkl])
 have ek:cKs l++[[AV.int .i64 1,AV.str s]]=cKs (l++[pk s]):=yU l (pk s)
 simp(disch:=omega) only[g1,ek,go_sem]
 exact hQ _ _ _ _ [] nofun rfl (Low.refl _) ⟨rfl,o2,g2⟩
theorem wR (s:List UInt8):VC 66 [.str s] [wk s]:=by
 intro H w o l h hb
 refine ACalls.go ir66 ck66 (Al4 _) fun KP Q hQ=>?_
 have hkl:=zu l
 have hc:=h.cell
 simp only[Lim,Al2,Al3] at hb
 simp(disch:=omega) only[ir66,hc,go_sem]
 refine goP_ownS (by rw[hkl];exact h.own) (by simp only[hkl,Al2,Al3];omega) (by simp only[hkl,Al2,Al3,maxLen];omega) fun o2 H2 hs2=>?_
 obtain⟨g1,g2⟩:=h.app (ts:=[wk s]) hs2 (by simp[hkl])
 have ek:cKs l++[[AV.int .i64 2,AV.str s]]=cKs (l++[wk s]):=yU l (wk s)
 simp(disch:=omega) only[g1,ek,go_sem]
 exact hQ _ _ _ _ [] nofun rfl (Low.refl _) ⟨rfl,o2,g2⟩
theorem zcQ (v:Val) (hw:wfV v) (hv:4*bV v≤Lim):VC 187 [.agg (cV v)] (zH v):=by
 intro H w o l h hb
 refine ACalls.go ir187 ck187 (Al4 _) fun KP Q hQ=>?_
 have hkl:=zu l
 have hkt:=zu (zH v)
 have hc:=h.cell
 simp only[Lim] at hb
 simp(disch:=omega) only[zf,zc,za,ze,zd,zb,zi,ir187,hc,go_sem]
 refine goK_pure (zdm v hw hv) ?_
 simp(disch:=omega) only[zf,zc,za,ze,zd,zb,zi,hc,go_sem]
 refine goP_ownS (by rw[hkl];exact h.own) (by rw[hkl,hkt];omega) (by rw[hkl,hkt];simp only[maxLen];omega) fun o2 H2 hs2=>?_
 obtain⟨g1,g2⟩:=h.app (ts:=zH v) hs2 (by simp[hkl,hkt])
 rw[Ye] at g2
 simp(disch:=omega) only[g1,yv,go_sem]
 exact hQ _ _ _ _ [] nofun rfl (Low.refl _) ⟨rfl,o2,g2⟩
theorem zbm (t:TyD) (hr:zt t=true):VC 139 [.agg (cTy t)] (tTy t):=by
 intro H w o l h hb
 refine ACalls.go ir139 ck139 (Al4 _) fun KP Q hQ=>?_
 obtain⟨nm,ls,ms⟩:=t
 have et:cTy ⟨nm,ls,ms⟩=[.str nm,.int .i64 ls,.int .i64 ms]:=rfl
 simp only[zt,Al0,zp] at hr
 obtain⟨hnm,r1,r2,r3,r4⟩:=hr
 obtain⟨n,rfl⟩:∃ n:Nat,ls=(n:Int):=⟨ls.toNat,by omega⟩
 have en:(n:Int).toNat=n:=by omega
 rw[en] at r4
 have hn4:n≤4:=by omega
 have hms:ms<64:=by
  have:(2:Int) ^ (n+1)≤2 ^ 5:=by exact_mod_cast Nat.pow_le_pow_right (by decide) (by omega:n+1≤5)
  omega
 have hT:tTy ⟨nm,n,ms⟩=List.replicate n (pk [91])++[wk nm]++yy n ms (n+1):=by simp only[tTy,en,Z4];simp
 have w0:=VR.refl h
 rw[hT] at hb
 simp only[Al5,List.length_replicate,Al2,Al3,Lim] at hb
 simp(disch:=omega) only[ir139,et,steps,st2,pev,rev,oev,optr,ibin,sbin,ishf,bound,mmAll,mm2,mk,mkArgs,AV.cells,AV.boxable,AV.one,AV.strip1,fillA,fillS,Nat.reduceEqDiff,reduceCtorEq,↓reduceIte,Nat.reduceAdd,Int.reduceNeg,Nat.reduceLeDiff,Int.reduceToNat,Int.reduceEq,Int.reduceLT,Int.reduceLE,Int.reduceAdd,Io,Im,If,Il,Jt,Jf,AC.rg,Jm,Jl,Ja,Fm,Fl,Fa,Imv,Imb,Iai,Iei,Igi,Isi,Ipf,Ipt,Ilb,Iia,Ilt,Iap,Ink,Iln,Ils,Iad,Iex,Ibx,Ing]
 refine goL_st (fun x:Nat×Own=>[(4,.int .i64 x.1)]) (fun x H'=>x.1≤n∧VR H o w l (List.replicate x.1 (pk [91])) H' x.2) (fun x=>n-x.1) (0,o) (by simp(disch:=omega) only[steps,st2,pev,rev,oev,optr,ibin,sbin,ishf,bound,mmAll,mm2,mk,mkArgs,AV.cells,AV.boxable,AV.one,AV.strip1,fillA,fillS,Nat.reduceEqDiff,reduceCtorEq,↓reduceIte,Nat.reduceAdd,Int.reduceNeg,Nat.reduceLeDiff,Int.reduceToNat,Int.reduceEq,Int.reduceLT,Int.reduceLE,Int.reduceAdd]) ⟨by simp,w0⟩ ?_
 rintro⟨i,o3⟩ H3 J ⟨hi,w3⟩ hJ
 simp only at hi w3
 by_cases hlt:i<n
 ·have hlt':((i:Int)<n)=True:=eq_true (by omega)
  simp(disch:=omega) only[hlt',steps,st2,pev,rev,oev,optr,ibin,sbin,ishf,bound,mmAll,mm2,mk,mkArgs,AV.cells,AV.boxable,AV.one,AV.strip1,fillA,fillS,Nat.reduceEqDiff,reduceCtorEq,↓reduceIte,Nat.reduceAdd,Int.reduceNeg,Nat.reduceLeDiff,Int.reduceToNat,Int.reduceEq,Int.reduceLT,Int.reduceLE,Int.reduceAdd]
  refine zm (pR [91]) w3 (by simp[Lim];omega) fun o4 H4 w4 _=>?_
  simp(disch:=omega) only[wrap64,steps,st2,pev,rev,oev,optr,ibin,sbin,ishf,bound,mmAll,mm2,mk,mkArgs,AV.cells,AV.boxable,AV.one,AV.strip1,fillA,fillS,Nat.reduceEqDiff,reduceCtorEq,↓reduceIte,Nat.reduceAdd,Int.reduceNeg,Nat.reduceLeDiff,Int.reduceToNat,Int.reduceEq,Int.reduceLT,Int.reduceLE,Int.reduceAdd]
  exact goJ (hJ (i+1,o4) H4 (by simp only;omega) ⟨by simp only;omega,w4.cast (by rw[List.replicate_succ'])⟩) (by simp(disch:=omega) only[Int.natCast_add,steps,st2,pev,rev,oev,optr,ibin,sbin,ishf,bound,mmAll,mm2,mk,mkArgs,AV.cells,AV.boxable,AV.one,AV.strip1,fillA,fillS,Nat.reduceEqDiff,reduceCtorEq,↓reduceIte,Nat.reduceAdd,Int.reduceNeg,Nat.reduceLeDiff,Int.reduceToNat,Int.reduceEq,Int.reduceLT,Int.reduceLE,Int.reduceAdd])
 ·have hlt':¬ ((i:Int)<n):=by omega
  obtain rfl:i=n:=by omega
  simp(disch:=omega) only[hlt',steps,st2,pev,rev,oev,optr,ibin,sbin,ishf,bound,mmAll,mm2,mk,mkArgs,AV.cells,AV.boxable,AV.one,AV.strip1,fillA,fillS,Nat.reduceEqDiff,reduceCtorEq,↓reduceIte,Nat.reduceAdd,Int.reduceNeg,Nat.reduceLeDiff,Int.reduceToNat,Int.reduceEq,Int.reduceLT,Int.reduceLE,Int.reduceAdd]
  refine zm (wR nm) w3 (by simp[Lim];omega) fun o4 H4 w4 _=>?_
  simp(disch:=omega) only[steps,st2,pev,rev,oev,optr,ibin,sbin,ishf,bound,mmAll,mm2,mk,mkArgs,AV.cells,AV.boxable,AV.one,AV.strip1,fillA,fillS,Nat.reduceEqDiff,reduceCtorEq,↓reduceIte,Nat.reduceAdd,Int.reduceNeg,Nat.reduceLeDiff,Int.reduceToNat,Int.reduceEq,Int.reduceLT,Int.reduceLE,Int.reduceAdd]
  refine goL_st (fun x:Nat×Own×List Tok=>[(5,.int .i64 ((x.1:Int)-1))]) (fun x H'=>x.1≤i+1∧x.2.2++yy i ms x.1=tTy ⟨nm,i,ms⟩∧VR H o w l x.2.2 H' x.2.1) (fun x=>x.1)
   (i+1,o4,List.replicate i (pk [91])++[wk nm]) (by simp(disch:=omega) only[Int.natCast_add,Int.add_sub_cancel,steps,st2,pev,rev,oev,optr,ibin,sbin,ishf,bound,mmAll,mm2,mk,mkArgs,AV.cells,AV.boxable,AV.one,AV.strip1,fillA,fillS,Nat.reduceEqDiff,reduceCtorEq,↓reduceIte,Nat.reduceAdd,Int.reduceNeg,Nat.reduceLeDiff,Int.reduceToNat,Int.reduceEq,Int.reduceLT,Int.reduceLE,Int.reduceAdd]) ⟨by simp,hT.symm,w4⟩ ?_
  rintro⟨k,o5,tk⟩ H5 J5 ⟨hk,htk,w5⟩ hJ5
  simp only at hk htk w5
  have hbk:l.length+tk.length+2≤1099511627776+2:=by
   have:=congrArg List.length htk
   rw[hT] at this
   simp only[Al5,List.length_replicate,Al2,Al3] at this
   omega
  cases k with
  | zero =>
   have hz:¬ ((0:Int)≤-1):=by omega
   simp only[yy,List.append_nil] at htk
   simp(disch:=omega) only[hz,Int.reduceSub,steps,st2,pev,rev,oev,optr,ibin,sbin,ishf,bound,mmAll,mm2,mk,mkArgs,AV.cells,AV.boxable,AV.one,AV.strip1,fillA,fillS,Nat.reduceEqDiff,reduceCtorEq,↓reduceIte,Nat.reduceAdd,Int.reduceNeg,Nat.reduceLeDiff,Int.reduceToNat,Int.reduceEq,Int.reduceLT,Int.reduceLE,Int.reduceAdd]
   exact hQ _ _ H5 H5 [] nofun rfl (Low.refl _) ⟨rfl,o5,w5.cast htk⟩
  | succ j =>
   have e0:((j+1:Nat):Int)-1=(j:Int):=by omega
   have hz:((0:Int)≤j)=True:=eq_true (by omega)
   have hbit:=zdL ms j (by omega)
   have hq0:0≤ms / 2 ^ j:=Int.ediv_nonneg r3 (by exact_mod_cast Nat.zero_le _)
   have hq1:ms / 2 ^ j<64:=by
    have:ms / 2 ^ j≤ms:=Int.ediv_le_self _ r3
    omega
   have ha:=and1 hq0 hq1
   have hj0:¬ ((j:Int)<0):=by omega
   have hwu:=zeT (n:=j) (by omega)
   have hle:tk.length+(yy i ms (j+1)).length+l.length≤1099511627776:=by
    have:=congrArg List.length htk
    rw[hT] at this
    simp only[Al5,List.length_replicate,Al2,Al3] at this
    omega
   simp only[yy,zcr] at htk hle
   by_cases hji:j<i
   ·have hji':((j:Int)<i)=True:=eq_true (by omega)
    rw[if_pos hji] at htk hle
    by_cases hbt:ms / 2 ^ j % 2=1
    ·have hbb:ZP ms j=true:=by simp[ZP,hbt]
     rw[hbb] at htk hle
     simp only[if_true,Al5,Al2,Al3] at hle
     simp(disch:=omega) only[e0,hz,hji',steps,st2,pev,rev,oev,optr,ibin,sbin,ishf,bound,mmAll,mm2,mk,mkArgs,AV.cells,AV.boxable,AV.one,AV.strip1,fillA,fillS,Nat.reduceEqDiff,reduceCtorEq,↓reduceIte,Nat.reduceAdd,Int.reduceNeg,Nat.reduceLeDiff,Int.reduceToNat,Int.reduceEq,Int.reduceLT,Int.reduceLE,Int.reduceAdd]
     refine zm (pR [93]) w5 (by simp only[Lim,Al5,Al2,Al3];omega) fun o6 H6 w6 _=>?_
     simp(disch:=omega) only[hwu,hbit,hj0,ha,hbt,steps,st2,pev,rev,oev,optr,ibin,sbin,ishf,bound,mmAll,mm2,mk,mkArgs,AV.cells,AV.boxable,AV.one,AV.strip1,fillA,fillS,Nat.reduceEqDiff,reduceCtorEq,↓reduceIte,Nat.reduceAdd,Int.reduceNeg,Nat.reduceLeDiff,Int.reduceToNat,Int.reduceEq,Int.reduceLT,Int.reduceLE,Int.reduceAdd]
     refine zm (pR [33]) w6 (by simp only[Lim,Al5,Al2,Al3];omega) fun o7 H7 w7 _=>?_
     simp(disch:=omega) only[wrap64,steps,st2,pev,rev,oev,optr,ibin,sbin,ishf,bound,mmAll,mm2,mk,mkArgs,AV.cells,AV.boxable,AV.one,AV.strip1,fillA,fillS,Nat.reduceEqDiff,reduceCtorEq,↓reduceIte,Nat.reduceAdd,Int.reduceNeg,Nat.reduceLeDiff,Int.reduceToNat,Int.reduceEq,Int.reduceLT,Int.reduceLE,Int.reduceAdd]
     exact goJ (hJ5 (j,o7,tk++[pk [93]]++[pk [33]]) H7 (Nat.lt_succ_self j) ⟨by simp only;omega,by rw[← htk];simp,w7⟩) (by simp(disch:=omega) only[steps,st2,pev,rev,oev,optr,ibin,sbin,ishf,bound,mmAll,mm2,mk,mkArgs,AV.cells,AV.boxable,AV.one,AV.strip1,fillA,fillS,Nat.reduceEqDiff,reduceCtorEq,↓reduceIte,Nat.reduceAdd,Int.reduceNeg,Nat.reduceLeDiff,Int.reduceToNat,Int.reduceEq,Int.reduceLT,Int.reduceLE,Int.reduceAdd])
    ·have hbb:ZP ms j=false:=by simp[ZP,hbt]
     rw[hbb] at htk hle
     simp only[Al5,Al2,Al3] at hle
     simp(disch:=omega) only[e0,hz,hji',steps,st2,pev,rev,oev,optr,ibin,sbin,ishf,bound,mmAll,mm2,mk,mkArgs,AV.cells,AV.boxable,AV.one,AV.strip1,fillA,fillS,Nat.reduceEqDiff,reduceCtorEq,↓reduceIte,Nat.reduceAdd,Int.reduceNeg,Nat.reduceLeDiff,Int.reduceToNat,Int.reduceEq,Int.reduceLT,Int.reduceLE,Int.reduceAdd]
     refine zm (pR [93]) w5 (by simp only[Lim,Al5,Al2,Al3];omega) fun o6 H6 w6 _=>?_
     simp(disch:=omega) only[hwu,hbit,hj0,ha,hbt,wrap64,steps,st2,pev,rev,oev,optr,ibin,sbin,ishf,bound,mmAll,mm2,mk,mkArgs,AV.cells,AV.boxable,AV.one,AV.strip1,fillA,fillS,Nat.reduceEqDiff,reduceCtorEq,↓reduceIte,Nat.reduceAdd,Int.reduceNeg,Nat.reduceLeDiff,Int.reduceToNat,Int.reduceEq,Int.reduceLT,Int.reduceLE,Int.reduceAdd]
     exact goJ (hJ5 (j,o6,tk++[pk [93]]) H6 (Nat.lt_succ_self j) ⟨by simp only;omega,by rw[← htk];simp,w6⟩) (by simp(disch:=omega) only[steps,st2,pev,rev,oev,optr,ibin,sbin,ishf,bound,mmAll,mm2,mk,mkArgs,AV.cells,AV.boxable,AV.one,AV.strip1,fillA,fillS,Nat.reduceEqDiff,reduceCtorEq,↓reduceIte,Nat.reduceAdd,Int.reduceNeg,Nat.reduceLeDiff,Int.reduceToNat,Int.reduceEq,Int.reduceLT,Int.reduceLE,Int.reduceAdd])
   ·have hji':¬ ((j:Int)<i):=by omega
    rw[if_neg hji] at htk hle
    by_cases hbt:ms / 2 ^ j % 2=1
    ·have hbb:ZP ms j=true:=by simp[ZP,hbt]
     rw[hbb] at htk hle
     simp only[if_true,Al5,Al2,Al3] at hle
     simp(disch:=omega) only[e0,hz,hji',hwu,hbit,hj0,ha,hbt,steps,st2,pev,rev,oev,optr,ibin,sbin,ishf,bound,mmAll,mm2,mk,mkArgs,AV.cells,AV.boxable,AV.one,AV.strip1,fillA,fillS,Nat.reduceEqDiff,reduceCtorEq,↓reduceIte,Nat.reduceAdd,Int.reduceNeg,Nat.reduceLeDiff,Int.reduceToNat,Int.reduceEq,Int.reduceLT,Int.reduceLE,Int.reduceAdd]
     refine zm (pR [33]) w5 (by simp only[Lim,Al5,Al2,Al3];omega) fun o7 H7 w7 _=>?_
     simp(disch:=omega) only[wrap64,steps,st2,pev,rev,oev,optr,ibin,sbin,ishf,bound,mmAll,mm2,mk,mkArgs,AV.cells,AV.boxable,AV.one,AV.strip1,fillA,fillS,Nat.reduceEqDiff,reduceCtorEq,↓reduceIte,Nat.reduceAdd,Int.reduceNeg,Nat.reduceLeDiff,Int.reduceToNat,Int.reduceEq,Int.reduceLT,Int.reduceLE,Int.reduceAdd]
     exact goJ (hJ5 (j,o7,tk++[pk [33]]) H7 (Nat.lt_succ_self j) ⟨by simp only;omega,by rw[← htk];simp,w7⟩) (by simp(disch:=omega) only[steps,st2,pev,rev,oev,optr,ibin,sbin,ishf,bound,mmAll,mm2,mk,mkArgs,AV.cells,AV.boxable,AV.one,AV.strip1,fillA,fillS,Nat.reduceEqDiff,reduceCtorEq,↓reduceIte,Nat.reduceAdd,Int.reduceNeg,Nat.reduceLeDiff,Int.reduceToNat,Int.reduceEq,Int.reduceLT,Int.reduceLE,Int.reduceAdd])
    ·have hbb:ZP ms j=false:=by simp[ZP,hbt]
     rw[hbb] at htk
     simp(disch:=omega) only[e0,hz,hji',hwu,hbit,hj0,ha,hbt,wrap64,steps,st2,pev,rev,oev,optr,ibin,sbin,ishf,bound,mmAll,mm2,mk,mkArgs,AV.cells,AV.boxable,AV.one,AV.strip1,fillA,fillS,Nat.reduceEqDiff,reduceCtorEq,↓reduceIte,Nat.reduceAdd,Int.reduceNeg,Nat.reduceLeDiff,Int.reduceToNat,Int.reduceEq,Int.reduceLT,Int.reduceLE,Int.reduceAdd]
     exact goJ (hJ5 (j,o5,tk) H5 (Nat.lt_succ_self j) ⟨by simp only;omega,by rw[← htk];simp,w5⟩) (by simp(disch:=omega) only[steps,st2,pev,rev,oev,optr,ibin,sbin,ishf,bound,mmAll,mm2,mk,mkArgs,AV.cells,AV.boxable,AV.one,AV.strip1,fillA,fillS,Nat.reduceEqDiff,reduceCtorEq,↓reduceIte,Nat.reduceAdd,Int.reduceNeg,Nat.reduceLeDiff,Int.reduceToNat,Int.reduceEq,Int.reduceLT,Int.reduceLE,Int.reduceAdd])
theorem zfB (m:List Mem) (hw:YY m) (hm:8*bMs m≤Lim):VC 188 [.sl .no 6 (cMs m)] (Yw m):=by
 intro H w o l h hb
 have hml:=zK m
 have hcl:=zL m
 have hm':=hm
 simp only[Lim] at hm'
 refine ACalls.go ir188 ck188 (Al4 _) fun KP Q hQ=>?_
 have w0:=VR.refl h
 by_cases hz:m.length=0
 ·have hz':((m.length:Int)=0)=True:=eq_true (by omega)
  simp(disch:=omega) only[ir188,hcl,hz',go_sem]
  have em:=y5.1 hz
  subst em
  exact hQ _ _ H H [] nofun rfl (Low.refl _) ⟨rfl,o,w0⟩
 ·have hz':¬ ((m.length:Int)=0):=by omega
  have eT:Yw m=pk [40]::(zN m++[pk [41]]):=by unfold Yw;rw[if_neg hz]
  rw[eT] at hb
  simp only[Al2,Al5,Al3,Lim] at hb
  simp(disch:=omega) only[ir188,hcl,hz',go_sem]
  refine zm (pR [40]) w0 (by simp only[Lim,Al2,Al3];omega) fun o2 H2 w2 _=>?_
  simp(disch:=omega) only[hcl,go_sem]
  refine goL_range m 4 (fun x:Own=>[]) (fun done rest x H'=>VR H o w l (pk [40]::zN done) H' x) o2 (by simp(disch:=omega) only[go_sem]) w2 ?_ ?_
  ·rintro o3 H3 J w3 hlt
   simp(disch:=omega) only[hcl,hlt,go_sem]
   refine zm (pR [41]) w3 (by simp only[Lim,Al2,Al3];omega) fun o4 H4 w4 _=>?_
   simp(disch:=omega) only[go_sem]
   exact hQ _ _ H4 H4 [] nofun rfl (Low.refl _) ⟨rfl,o4,w4.cast (by rw[eT];simp)⟩
  ·rintro done x rest o3 H3 J hd hlt hlt2 w3 hJ
   have hg:=zP hd
   have hbm:=zW done x rest
   rw[← hd] at hbm
   have hmem:x∈m:=by rw[hd];simp
   have hlen:(zN m).length=(zN done).length+(YE x).length+(zN rest).length:=by rw[hd,ZU];simp[zN];omega
   obtain⟨s,v⟩:=x
   have hwv:=ZN hw s v hmem
   simp only[bM] at hbm
   have e2:(YE (.mk s v)).length=2+(zH v).length:=by simp[YE];omega
   rw[e2] at hlen
   simp(disch:=omega) only[zf,zc,za,ze,zd,zb,zi,hcl,hlt,hg,go_sem]
   refine zm (wR s) w3 (by simp only[Lim,Al2,Al3];omega) fun o5 H5 w5 _=>?_
   simp(disch:=omega) only[zf,zc,za,ze,zd,zb,zi,hcl,hlt,hg,go_sem]
   refine zm (pR [58]) w5 (by simp only[Lim,Al2,Al3,Al5];omega) fun o6 H6 w6 _=>?_
   simp(disch:=omega) only[zf,zc,za,ze,zd,zb,zi,hcl,hlt,hg,go_sem]
   refine zm (zcQ v hwv (by simp only[Lim];omega)) w6 (by simp only[Lim,Al2,Al3,Al5];omega) fun o7 H7 w7 _=>?_
   simp(disch:=omega) only[wrap64,go_sem]
   exact goJ (hJ o7 H7 (w7.cast (by rw[ZU];simp[zN,YE,wk,pk]))) (by simp(disch:=omega) only[go_sem])
theorem zbG (a:List DirD) (x:DirD) (b:List DirD):(tDs (a++x::b)).length=(tDs a).length+(tD x).length+(tDs b).length:=by simp[tDs];omega
theorem za4 (m:List DirD) (hw:zdr m) (hm:8*bDs m≤Lim):VC 140 [.sl .no 2 (cDs m)] (tDs m):=by
 intro H w o l h hb
 have hml:=ZY m
 have hcl:=Zf m
 have hm':=hm
 simp only[Lim] at hm' hb
 refine ACalls.go ir140 ck140 (Al4 _) fun KP Q hQ=>?_
 have w0:=VR.refl h
 simp(disch:=omega) only[ir140,hcl,go_sem]
 refine goL_range m 4 (fun x:Own=>[]) (fun done rest x H'=>VR H o w l (tDs done) H' x) o (by simp(disch:=omega) only[go_sem]) w0 ?_ ?_
 ·rintro o3 H3 J w3 hlt
  simp(disch:=omega) only[hcl,hlt,go_sem]
  exact hQ _ _ H3 H3 [] nofun rfl (Low.refl _) ⟨rfl,o3,w3⟩
 ·rintro done x rest o3 H3 J hd hlt hlt2 w3 hJ
  have hg:=Zv hd
  have hbm:=Z7 done x rest
  rw[← hd] at hbm
  have hmem:x∈m:=by rw[hd];simp
  have hlen:(tDs m).length=(tDs done).length+(tD x).length+(tDs rest).length:=by rw[hd,zbG]
  have hwx:=hw x hmem
  obtain⟨s,args⟩:=x
  simp only[bD] at hbm
  have e2:(tD ⟨s,args⟩).length=2+(Yw args).length:=by simp[tD];omega
  rw[e2] at hlen
  have ex:cD ⟨s,args⟩=[.str s,.sl .no 6 (cMs args)]:=rfl
  rw[ex] at hg
  simp(disch:=omega) only[hcl,hlt,hg,go_sem]
  refine zm (pR [64]) w3 (by simp only[Lim,Al2,Al3];omega) fun o5 H5 w5 _=>?_
  simp(disch:=omega) only[hcl,hlt,hg,go_sem]
  refine zm (wR s) w5 (by simp only[Lim,Al2,Al3,Al5];omega) fun o6 H6 w6 _=>?_
  simp(disch:=omega) only[hcl,hlt,hg,go_sem]
  refine zm (zfB args hwx (by simp only[Lim];omega)) w6 (by simp only[Lim,Al2,Al3,Al5];omega) fun o7 H7 w7 _=>?_
  simp(disch:=omega) only[wrap64,go_sem]
  exact goJ (hJ o7 H7 (w7.cast (by rw[zbI];simp[tD]))) (by simp(disch:=omega) only[go_sem])
theorem ZJ {α:Type} (f:α→List Tok) (a:List α) (x:α) (b:List α):((a++x::b).flatMap f).length=(a.flatMap f).length+(f x).length+(b.flatMap f).length:=by simp;omega
theorem zeN {H:Heap} {b:Nat}:VAt (H.upd b (.cells [.sl .nil 2 []])) b .nil []:=⟨upd_same ..,rfl⟩
theorem zft (L:List Tok) (hb:32*wT L≤Lim):Pure Tryz.prog 69 [.sl .no 2 (cKs L)] (.tup [.str (if (zG L).2&&decide ((zG L).1.length≤8192) then (zG L).1 else []),.bool ((zG L).2&&decide ((zG L).1.length≤8192))]):=by
 refine Pure.go ir69 ck69 (Al4 _) fun KP Q hQ=>?_
 simp(disch:=omega) only[ir69,go_sem]
 refine goK_pure (zen L hb) ?_
 cases h2:(zG L).2 with
 | false =>
  simp(disch:=omega) only[go_sem]
  exact hQ _ _ _ _ nofun rfl (by simp[tupOf,envOf,AV.strip,AV.strip1,h2])
 | true =>
  by_cases hl:(zG L).1.length≤8192
  ·have hl':¬ ((8192:Int)<((zG L).1.length:Int)):=by omega
   simp(disch:=omega) only[hl',go_sem]
   exact hQ _ _ _ _ nofun rfl (by simp[tupOf,envOf,AV.strip,AV.strip1,h2,hl])
  ·have hl':((8192:Int)<((zG L).1.length:Int))=True:=eq_true (by omega)
   simp(disch:=omega) only[hl',go_sem]
   exact hQ _ _ _ _ nofun rfl (by simp[tupOf,envOf,AV.strip,AV.strip1,h2,hl])
structure FldD where
 nm:List UInt8
 ps:List VarD
 t:TyD
 dirs:List DirD
structure DefD where
 k:Int
 nm:List UInt8
 faces:List (List UInt8)
 flds:List FldD
 parts:List (List UInt8)
 ps:List VarD
structure SchD where
 defs:List DefD
 q:List UInt8
 m:List UInt8
def cL (x:FldD):List AV:=[.str x.nm,.sl .no 10 (cWs x.ps),.str x.t.nm,.int .i64 x.t.lists,.int .i64 x.t.musts,.sl .no 2 (cDs x.dirs)]
def cLs (l:List FldD):List (List AV):=l.map cL
def cE (x:DefD):List AV:=[.int .i64 x.k,.str x.nm,.sl .no 1 (cT x.faces),.sl .no 6 (cLs x.flds),.sl .no 1 (cT x.parts),.sl .no 10 (cWs x.ps)]
def cEs (l:List DefD):List (List AV):=l.map cE
def y8 (s:SchD):List AV:=[.sl .no 6 (cEs s.defs),.str s.q,.str s.m]
theorem yB (l:List FldD):(cLs l).length=l.length:=by simp[cLs]
theorem ZB (l:List DefD):(cEs l).length=l.length:=by simp[cEs]
theorem Zw {l a:List FldD} {x:FldD} {b:List FldD} (h:l=a++x::b):(cLs l).getD a.length []=cL x:=getD_mid' h
theorem Zk {l a:List DefD} {x:DefD} {b:List DefD} (h:l=a++x::b):(cEs l).getD a.length []=cE x:=getD_mid' h
theorem YW (nm:List UInt8) (ps:List VarD) (tn:List UInt8) (tl tm:Int) (dirs:List DirD):cL ⟨nm,ps,⟨tn,tl,tm⟩,dirs⟩=[.str nm,.sl .no 10 (cWs ps),.str tn,.int .i64 tl,.int .i64 tm,.sl .no 2 (cDs dirs)]:=rfl
theorem ZE (k:Int) (nm:List UInt8) (faces:List (List UInt8)) (flds:List FldD) (parts:List (List UInt8)) (ps:List VarD):cE ⟨k,nm,faces,flds,parts,ps⟩=[.int .i64 k,.str nm,.sl .no 1 (cT faces),.sl .no 6 (cLs flds),.sl .no 1 (cT parts),.sl .no 10 (cWs ps)]:=rfl
def bT (l:List (List UInt8)):Nat:=(l.map fun s=>1+s.length).sum
def bL (x:FldD):Nat:=1+x.nm.length+bWs x.ps+x.t.nm.length+bDs x.dirs
def bLs (l:List FldD):Nat:=(l.map bL).sum
def bE (x:DefD):Nat:=1+x.nm.length+bT x.faces+bLs x.flds+bT x.parts+bWs x.ps
def bEs (l:List DefD):Nat:=(l.map bE).sum
def yV (s:SchD):Nat:=bEs s.defs+s.q.length+s.m.length
theorem yp (l:List (List UInt8)):l.length≤bT l:=Z6 (fun x=>by omega) l
theorem yN (l:List FldD):l.length≤bLs l:=Z6 (fun x=>by simp only[bL];omega) l
theorem ZV (l:List DefD):l.length≤bEs l:=Z6 (fun x=>by simp only[bE];omega) l
theorem Yy (a:List (List UInt8)) (x:List UInt8) (b:List (List UInt8)):bT (a++x::b)=bT a+(1+x.length)+bT b:=Yl ..
theorem Zu (a:List FldD) (x:FldD) (b:List FldD):bLs (a++x::b)=bLs a+bL x+bLs b:=Yl ..
theorem Zh (a:List DefD) (x:DefD) (b:List DefD):bEs (a++x::b)=bEs a+bE x+bEs b:=Yl ..
def wfL (x:FldD):Prop:=(∀ y∈x.ps,wfW y)∧inR x.t.lists∧inR x.t.musts∧zdr x.dirs
def wfE (x:DefD):Prop:=(∀ y∈x.flds,wfL y)∧∀ y∈x.ps,wfW y
def YS (s:SchD):Prop:=∀ x∈s.defs,wfE x
def tPa (x:VarD):List Tok:=wk x.nm::pk [58]::(tTy x.t++tDf x.has x.d)
def tPb (l:List VarD):List Tok:=if l.length=0 then [] else pk [40]::(l.flatMap tPa++[pk [41]])
def tL (x:FldD):List Tok:=wk x.nm::(tPb x.ps++pk [58]::(tTy x.t++tDs x.dirs))
def tNs (m:List UInt8):List (List UInt8)→List Tok
 | []=>[]
 | s::r=>wk s::r.flatMap fun s=>[pk m,wk s]
def tE (x:DefD):List Tok :=
 if x.k=1∨x.k=2 then wk (if x.k=1 then [116,121,112,101] else [105,110,116,101,114,102,97,99,101])::wk x.nm::((if x.faces.length=0 then [] else wk [105,109,112,108,101,109,101,110,116,115]::tNs [38] x.faces)++(pk [123]::(x.flds.flatMap tL++[pk [125]])))
 else if x.k=3 then wk [117,110,105,111,110]::wk x.nm::pk [61]::tNs [124] x.parts
 else if x.k=4 then wk [101,110,117,109]::wk x.nm::pk [123]::(x.parts.map wk++[pk [125]])
 else wk [105,110,112,117,116]::wk x.nm::pk [123]::(x.ps.flatMap tPa++[pk [125]])
def tRt (q m:List UInt8):List Tok:=wk [115,99,104,101,109,97]::pk [123]::wk [113,117,101,114,121]::pk [58]::wk q::((if m=[] then [] else [wk [109,117,116,97,116,105,111,110],pk [58],wk m])++[pk [125]])
def y1 (s:SchD):List Tok:=tRt s.q s.m++s.defs.flatMap tE
noncomputable def zR (x:FldD):Bool:=zj x.nm&&(x.ps.all zM&&(zt x.t&&z1 0 true x.dirs))
def yf (s:List UInt8):Bool:=decide (s≠[116,114,117,101])&&(decide (s≠[102,97,108,115,101])&&decide (s≠[110,117,108,108]))
noncomputable def zr (x:DefD):Bool :=
 zj x.nm&&(if x.k=1∨x.k=2 then x.faces.all zj&&(x.flds.all zR&&(decide (x.flds.length≠0)&&(decide (x.parts.length=0)&&decide (x.ps.length=0))))
 else if x.k=3 then x.parts.all zj&&(decide (x.parts.length≠0)&&(decide (x.faces.length=0)&&(decide (x.flds.length=0)&&decide (x.ps.length=0))))
 else if x.k=4 then (x.parts.all zj&&x.parts.all yf)&&(decide (x.parts.length≠0)&&(decide (x.faces.length=0)&&(decide (x.flds.length=0)&&decide (x.ps.length=0))))
 else if x.k=5 then x.ps.all zM&&(decide (x.ps.length≠0)&&(decide (x.faces.length=0)&&(decide (x.flds.length=0)&&decide (x.parts.length=0))))
 else false)
noncomputable def zS (s:SchD):Bool:=s.defs.all zr&&(zj s.q&&(decide (s.m=[])||zj s.m))
theorem zc0 {x:VarD} (h:zM x=true):zt x.t=true:=by
 simp only[zM,Al0] at h;exact h.2.1
theorem Ym (m:List VarD) (hw:∀ y∈m,wfW y) (hr:m.all zM=true) (hm:8*bWs m≤Lim):VC 138 [.sl .no 10 (cWs m)] (m.flatMap tPa):=by
 intro H w o l h hb
 have hml:=yD m
 have hcl:=yl m
 have hm':=hm
 simp only[Lim] at hm'
 refine ACalls.go ir138 ck138 (Al4 _) fun KP Q hQ=>?_
 have w0:=VR.refl h
 simp(disch:=omega) only[ir138,hcl,go_sem]
 refine goL_range m 4 (fun x:Own=>[]) (fun done rest x H'=>VR H o w l (done.flatMap tPa) H' x) o (by simp(disch:=omega) only[go_sem]) w0 ?_ ?_
 ·rintro o3 H3 J w3 hlt
  simp(disch:=omega) only[hcl,hlt,go_sem]
  exact hQ _ _ H3 H3 [] nofun rfl (Low.refl _) ⟨rfl,o3,w3⟩
 ·rintro done x rest o5 H5 J5 hd hlt hlt2 w5 hJ5
  have hg:=Yk hd
  have hbm:=Yv done x rest
  rw[← hd] at hbm
  have hmx:x∈m:=by rw[hd];simp
  have hwvd:wfV x.d:=(hw x hmx).2.2
  have hty:=zc0 (yx.1 hr x hmx)
  have hfl:(m.flatMap tPa).length=(done.flatMap tPa).length+(tPa x).length+(rest.flatMap tPa).length:=by rw[hd,ZJ]
  obtain⟨vn,⟨tn,tl,tm⟩,vh,vd⟩:=x
  have hvp:=ZD vd
  have hbx:bW ⟨vn,⟨tn,tl,tm⟩,vh,vd⟩=vn.length+tn.length+bV vd:=rfl
  rw[zaJ] at hg
  simp only at hg hty hwvd
  simp only[tPa,Al2,Al5] at hfl
  simp(disch:=omega) only[zf,zc,za,ze,zd,zb,zi,hcl,hlt,hg,go_sem]
  refine zm (wR vn) w5 (by simp only[Al2,Al3];omega) fun o6 H6 w6 s6=>?_
  simp(disch:=omega) only[zf,zc,za,ze,zd,zb,zi,hcl,hlt,hg,go_sem]
  refine zm (pR [58]) w6 (by simp only[Al2,Al3,Al5];omega) fun o7 H7 w7 s7=>?_
  simp(disch:=omega) only[zf,zc,za,ze,zd,zb,zi,hcl,hlt,hg,go_sem]
  refine zm (show VC _ [.agg [.str tn,.int .i64 tl,.int .i64 tm]] (tTy ⟨tn,tl,tm⟩) from zbm ⟨tn,tl,tm⟩ hty) w7 (by simp only[Al2,Al3,Al5];omega) fun o8 H8 w8 s8=>?_
  cases vh with
  | false =>
   have hhas:True:=trivial
   simp(disch:=omega) only[zf,zc,za,ze,zd,zb,zi,hcl,hlt,hg,wrap64,go_sem]
   exact goJ (hJ5 o8 H8 (w8.cast (by simp[tPa,tDf]))) (by simp(disch:=omega) only[go_sem])
  | true =>
   have hhas:True:=trivial
   simp only[tDf,if_true,Al2] at hfl
   simp(disch:=omega) only[zf,zc,za,ze,zd,zb,zi,hcl,hlt,hg,go_sem]
   refine zm (pR [61]) w8 (by simp only[Al2,Al3,Al5];omega) fun o9 H9 w9 s9=>?_
   simp(disch:=omega) only[zf,zc,za,ze,zd,zb,zi,hcl,hlt,hg,go_sem]
   refine zm (zcQ vd hwvd (by simp only[Lim];omega)) w9 (by simp only[Al2,Al3,Al5];omega) fun oA HA wA sA=>?_
   simp(disch:=omega) only[wrap64,go_sem]
   exact goJ (hJ5 oA HA (wA.cast (by simp[tPa,tDf]))) (by simp(disch:=omega) only[go_sem])
section
variable {KP:AV→Heap→Prop} {Q:AExit→Env→Heap→Prop} {st:List Fr} {ρ:Env} {H:Heap} {all items:List AItem} {d:Option Nat} {R:List Chk}
end
theorem zC (l:List (List UInt8)) (x:List UInt8):bT (l++[x])=bT l+(1+x.length):=by simp[bT]
theorem Yu (l:List FldD) (x:FldD):bLs (l++[x])=bLs l+bL x:=by simp[bLs]
theorem zbP (m:List UInt8) (l:List (List UInt8)) (x:List UInt8):tNs m (l++[x])=tNs m l++if l.length=0 then [wk x] else [pk m,wk x]:=by
 cases l with
 | nil=>rfl
 | cons a r=>simp[tNs]
def nsT (m:List UInt8) (a:List (List UInt8)):List Tok:=if m=[] then a.map wk else tNs m a
theorem zd1 (m:List UInt8) (a:List (List UInt8)) (x:List UInt8):nsT m (a++[x])=nsT m a++(if a.length=0∨m=[] then [wk x] else [pk m,wk x]):=by
 unfold nsT
 by_cases hm:m=[]
 ·simp[hm]
 ·simp only[hm,if_false,or_false];exact zbP m a x
theorem zeL (m:List UInt8) (a:List (List UInt8)):(tNs m a).length=2*a.length-1:=by
 cases a with
 | nil=>rfl
 | cons x r =>
  have h:∀ r:List (List UInt8),(r.flatMap fun s=>[pk m,wk s]).length=2*r.length:=fun r=>by
   induction r with
   | nil=>rfl
   | cons y t ih=>simp only[List.flatMap_cons,Al5,ih,Al2,Al3];omega
  simp only[tNs,Al2,h];omega
theorem zcD (m:List UInt8) (a:List (List UInt8)):(nsT m a).length=if m=[] then a.length else 2*a.length-1:=by
 unfold nsT
 split
 ·simp
 ·exact zeL m a
theorem zab (m:List UInt8) (a:List (List UInt8)) (ha:2*bT a≤Lim):VC 137 [.sl .no 1 (cT a),.str m] (nsT m a):=by
 intro H w o l h hb
 have hml:=yp a
 have hcl:=zA a
 rw[zcD] at hb
 have hm':=ha
 simp only[Lim] at hm'
 refine ACalls.go ir137 ck137 (Al4 _) fun KP Q hQ=>?_
 have w0:=VR.refl h
 have e0:nsT m []=[]:=by unfold nsT;split<;>rfl
 simp(disch:=omega) only[ir137,hcl,go_sem]
 refine goL_range a 6 (fun x:Own=>[]) (fun done rest x H'=>VR H o w l (nsT m done) H' x) o (by simp(disch:=omega) only[go_sem]) (w0.cast e0.symm) ?_ ?_
 ·rintro o3 H3 J w3 hlt
  simp(disch:=omega) only[hcl,hlt,go_sem]
  exact hQ _ _ H3 H3 [] nofun rfl (Low.refl _) ⟨rfl,o3,w3⟩
 ·rintro done x rest o5 H5 J5 hd hlt hlt2 w5 hJ5
  have hg:=Zt hd
  have hsn:=zd1 m done x
  have hdl:=zcD m done
  have hal:done.length+1≤a.length:=by rw[hd];simp
  by_cases h0:done.length=0
  ·have h0':¬ ((0:Int)<(done.length:Int)):=by omega
   rw[if_pos (.inl h0)] at hsn
   simp(disch:=omega) only[hcl,hlt,hg,h0',go_sem]
   refine zm (wR x) w5 (by simp only[Al2,Al3];rw[hdl];split at hb<;>simp_all<;>omega) fun o8 H8 w8 s8=>?_
   simp(disch:=omega) only[wrap64,go_sem]
   exact goJ (hJ5 o8 H8 (w8.cast hsn.symm)) (by simp(disch:=omega) only[go_sem])
  ·have h0':((0:Int)<(done.length:Int))=True:=eq_true (by omega)
   by_cases hm:m=[]
   ·rw[if_pos (.inr hm)] at hsn
    rw[if_pos hm] at hb hdl
    have hm1:=eq_true hm
    simp(disch:=omega) only[hcl,hlt,hg,h0',hm1,go_sem]
    refine zm (wR x) w5 (by simp only[Al2,Al3];omega) fun o8 H8 w8 s8=>?_
    simp(disch:=omega) only[wrap64,go_sem]
    exact goJ (hJ5 o8 H8 (w8.cast hsn.symm)) (by simp(disch:=omega) only[go_sem])
   ·rw[if_neg (fun h=>h.elim h0 hm)] at hsn
    rw[if_neg hm] at hb hdl
    simp(disch:=omega) only[hcl,hlt,hg,h0',hm,go_sem]
    refine zm (pR m) w5 (by simp only[Al2,Al3];omega) fun o6 H6 w6 s6=>?_
    simp(disch:=omega) only[hcl,hlt,hg,go_sem]
    refine zm (wR x) w6 (by simp only[Al2,Al3,Al5];omega) fun o8 H8 w8 s8=>?_
    simp(disch:=omega) only[wrap64,go_sem]
    exact goJ (hJ5 o8 H8 (w8.cast (by rw[hsn];simp))) (by simp(disch:=omega) only[go_sem])
theorem zek:zj [116,121,112,101]=true:=by decide
theorem zeB:zj [105,110,116,101,114,102,97,99,101]=true:=by decide
theorem zaf:zj [117,110,105,111,110]=true:=by decide
theorem za5:zj [101,110,117,109]=true:=by decide
theorem zak:zj [105,110,112,117,116]=true:=by decide
theorem ZZ:zj [105,109,112,108,101,109,101,110,116,115]=true:=by decide
theorem zaY:zj [115,99,104,101,109,97]=true:=by decide
theorem zbF:zj [113,117,101,114,121]=true:=by decide
theorem zdi:zj [109,117,116,97,116,105,111,110]=true:=by decide
noncomputable def yE (x:DefD):Bool:=zj x.nm&&(x.faces.all zj&&(x.flds.all zR&&(decide (x.flds.length≠0)&&(decide (x.parts.length=0)&&decide (x.ps.length=0)))))
def za9 (w:List UInt8) (x:DefD):List Tok:=wk w::wk x.nm::((if x.faces.length=0 then [] else wk [105,109,112,108,101,109,101,110,116,115]::tNs [38] x.faces)++(pk [123]::(x.flds.flatMap tL++[pk [125]])))
noncomputable def yO (x:DefD):Bool:=decide (x.parts.length≠0)&&(decide (x.faces.length=0)&&(decide (x.flds.length=0)&&decide (x.ps.length=0)))
noncomputable def yA (x:DefD):Bool:=zj x.nm&&(if x.k=3 then x.parts.all zj&&yO x else (x.parts.all zj&&x.parts.all yf)&&yO x)
def zbh (x:DefD):List Tok:=if x.k=3 then wk [117,110,105,111,110]::wk x.nm::pk [61]::tNs [124] x.parts else wk [101,110,117,109]::wk x.nm::pk [123]::(x.parts.map wk++[pk [125]])
theorem za7 {α:Type} (p q:α→Bool) (l:List α):(l.all fun x=>q x&&p x)=(l.all p&&l.all q):=by
 induction l with
 | nil=>rfl
 | cons a r ih=>simp only[List.all_cons,ih];cases p a<;>cases q a<;>simp
theorem Z1 (l:List DefD) (x:DefD):bEs (l++[x])=bEs l+bE x:=by simp[bEs]
def Ys (s:SchD):List UInt8×Bool:=if (zG (y1 s)).2&&decide ((zG (y1 s)).1.length≤8192) then ((zG (y1 s)).1,true) else ([],false)
section
variable {H:Heap} {r:Nat} {L p t:TS} {dp:Nat}
end
open Go.Lib
section
variable {KP:AV→Heap→Prop} {Q:AExit→Env→Heap→Prop} {st:List Fr} {ρ:Env} {H:Heap} {all items:List AItem} {d:Option Nat} {R:List Chk}
end
section
variable {KP:AV→Heap→Prop} {Q:AExit→Env→Heap→Prop} {st:List Fr} {ρ:Env} {H:Heap} {all items:List AItem} {d:Option Nat} {R:List Chk}
end
end Go.Proofs.YtaielcdfcgpbiaaGreatDoor
set_option maxRecDepth 1000000
namespace Go.Proofs.YtaielcdfcgpbiaaGreatDoor
open Go.Shelf Go.RowKit Go.Lib
section
variable {P:Program} {ρ:Ren}
def eol:ByteArray:=⟨#[13,10]⟩
theorem zbr (w:World) (k:Nat) (s:ByteArray) (pos:Nat) (ty:TypeId) (hk:w.heap[k]?=some (.stringIter s pos)) (h:pos<s.size) :
  (Instr.next (.pointer (some ⟨k,0,none⟩)) true ty).run P w =
   .ok (.tuple #[.bool true,.int .i64 pos,.int .i32 (Utf8.decode s pos).1]) { w with heap:=w.heap.setIfInBounds k (.stringIter s (pos+(Utf8.decode s pos).2)) }:=by
 simp only[Instr.next,getObj,setObj,Sem.run_bind,Sem.run,hk,Result.andThen,h,if_true]
 simp[goInt]
theorem zaF (w:World) (k:Nat) (s:ByteArray) (pos:Nat) (ty:TypeId) (hk:w.heap[k]?=some (.stringIter s pos)) (h:¬ pos<s.size) :
  (Instr.next (.pointer (some ⟨k,0,none⟩)) true ty).run P w=.ok (.tuple #[.bool false]) w:=by
 simp[Instr.next,getObj,Sem.run,hk,h]
set_option maxHeartbeats 4000000 in
theorem zbg (L:Lays.n152 P ρ) (w:World) :
  Calls P (ρ.f 152) #[.string eol,.int .i32 65533] w fun e w'=>e=.returned (.int .i64 (-1))∧Below w.heap.size w w':=by
 have t3:=L.t3;have a3:=L.a3;have z3:=L.z3;have v3:=L.v3
 have t4:=L.t4;have a4:=L.a4;have z4:=L.z4;have v4:=L.v4
 have t5:=L.t5;have a5:=L.a5;have z5:=L.z5;have v5:=L.v5
 have t9:=L.t9;have a9:=L.a9;have z9:=L.z9;have v9:=L.v9
 have t21:=L.t21;have a21:=L.a21;have z21:=L.z21;have v21:=L.v21
 have hsz:eol.size=2:=rfl
 go_enter L.f152,Body.n152_ntmps ρ
 go_wp2
 go_loopg [5,6] 2 (fun g _ _ wx=>∃ i:Nat,i+g=2∧wx=w.iter eol i)
 case atStart=>exact⟨0,by omega,rfl⟩
 case round =>
  obtain⟨i,hig,rfl⟩:=hrel
  cases gk with
  | zero =>
   obtain rfl:i=2:=by omega
   have hnx:=fun ty=>run_next_end (P:=P) w eol 2 ty (by decide)
   go_wp2
   go_ret
   exact⟨rfl,(Below.refl _ _).alloc (Al4 _) _⟩
  | succ g =>
   obtain⟨x,hx⟩:∃ x:UInt8,eol[i]'(by rw[hsz];omega)=x:=⟨_,rfl⟩
   have hxl:x.toNat=13∨x.toNat=10:=by
    rcases(by omega:i=0∨i=1) with rfl|rfl
    ·left;rw[← hx];rfl
    ·right;rw[← hx];rfl
   have hnx:=fun ty=>run_next_ascii (P:=P) w eol i ty (by rw[hsz];omega) (by rw[hx];omega)
   rw[hx] at hnx
   have hne:¬ ((x.toNat:Int)=65533):=by omega
   clear hx hxl
   go_wp2
   go_roundg g
   case measure=>omega
   case rel=>exact⟨i+1,by omega,rfl⟩
set_option maxHeartbeats 8000000 in
theorem zaI (L:Lays.n152 P ρ) (r:Int) (h0:128≤r) (h1:r≠65533) (w:World) :
  Calls P (ρ.f 152) #[.string eol,.int .i32 r] w fun e w'=>e=.returned (.int .i64 (-1))∧Below w.heap.size w w':=by
 have t3:=L.t3;have a3:=L.a3;have z3:=L.z3;have v3:=L.v3
 have t4:=L.t4;have a4:=L.a4;have z4:=L.z4;have v4:=L.v4
 have t5:=L.t5;have a5:=L.a5;have z5:=L.z5;have v5:=L.v5
 have t9:=L.t9;have a9:=L.a9;have z9:=L.z9;have v9:=L.v9
 have t21:=L.t21;have a21:=L.a21;have z21:=L.z21;have v21:=L.v21
 have hsz:eol.size=2:=rfl
 have mixed:=L.mixed
 have u21:=run_underlying L.t21;have u9:=run_underlying L.t9
 have e137:∀ args w,(callFunc (ρ.f 137) args).run P w=.ok (.enter (ρ.f 137) args) w:=enters_of L.f137 (by kernel_rfl) rfl
 have e119:∀ args w,(callFunc (ρ.f 119) args).run P w=.ok (.enter (ρ.f 119) args) w:=enters_of L.f119 (by kernel_rfl) rfl
 have hr1:¬ (r<128):=by omega
 cases hv:Lib.validRune r with
 | false =>
  go_enter L.f152,Body.n152_ntmps ρ
  go_wp2_with (go_at_fn (ρ.f 119);refine(Any.utf8_ValidRune { L with } _ _).mono ?_;rintro e w' ⟨rfl,hw⟩;rw[hw,hv])
  go_ret
  exact⟨rfl,Below.refl _ _⟩
 | true =>
  have hv':Utf8.valid r=true:=by
   unfold Lib.validRune at hv
   unfold Utf8.valid
   simp only[zat,Al0,zp] at hv ⊢
   omega
  obtain⟨f1,f2,f3⟩:=encode_facts r hv' h0
  clear hv'
  obtain⟨rs,hrs⟩:∃ rs,Utf8.encode r=rs:=⟨_,rfl⟩
  rw[hrs] at f1 f2 f3
  have hconv:∀ w,(convert (ρ.t 21) (ρ.t 9) (.int .i32 r)).run P w=.ok (.string rs) w:=fun w=>by
   rw[run_convert_int_string w _ _ _ _ (by rw[t21];rfl) t9,hrs]
  have hlast:IntKind.i64.wrap ((rs.size:Int)-1)=(rs.size:Int)-1:=wrap_small _ (by omega) (by omega)
  clear hrs
  by_cases h2:rs.size=2
  ·obtain⟨b0,b1,rfl⟩:∃ b0 b1,rs=⟨#[b0,b1]⟩:=by
    obtain⟨⟨l⟩⟩:=rs
    match l,h2 with
    | [x,y],_=>exact⟨x,y,rfl⟩
   have hb:128≤b1.toNat:=f3 (by show 1<2;decide)
   have hz:(⟨#[b0,b1]⟩:ByteArray).size=2:=rfl
   have hne:¬ ((10:Int)=(b1.toNat:Int)):=by omega
   clear f1 f2 f3 h2
   rw[hz] at hlast
   go_enter L.f152,Body.n152_ntmps ρ
   go_wp2_with (go_at_fn (ρ.f 119);refine(Any.utf8_ValidRune { L with } _ _).mono ?_;rintro e w' ⟨rfl,hw⟩;rw[hw,hv])
   go_step3
   go_wp2
   go_loopg [9,10] 0 (fun g s9 s10 wx=>s9=.int .i64 1∧s10=.int .i64 0∧wx=w)
   case atStart=>exact⟨rfl,rfl,rfl⟩
   case round =>
    obtain⟨rfl,rfl,rfl⟩:=hrel
    go_wp2
    go_step3
    have hx:eol[1]'(by decide)=10:=rfl
    have hy:(⟨#[b0,b1]⟩:ByteArray)[1]'(by show 1<2;decide)=b1:=rfl
    go_wp2
    go_quiet_o (fail)
    go_wp2
    have hsl:∀ w,(Instr.slice (ρ.t 9) (.string eol) (some (.int .i64 2)) none none).run P w=.ok (.string ⟨#[]⟩) w:=fun w=>by
     rw[run_slice_string_from_if w _ eol .i64 2 t9]
     rfl
    generalize hW:World.drewN _ _=W
    have HW:Aside (∃ n,W=wr.drewN n):=⟨_,hW.symm⟩
    clear hW
    have hw2:IntKind.i64.wrap 2=2:=by decide
    go_quiet_o (first|(go_at_fn (ρ.f 137);refine Calls.quiet_of_same (Any.strings_IndexByte { L with } _ _ _)))
    go_wp2
    rw[Exit.noGoto_ret]
    go_wp2
    (try rw[Exit.noGoto_ret])
    (try go_wp2)
    go_ret
    obtain⟨n,rfl⟩:=HW.out
    exact⟨rfl,⟨rfl,rfl,rfl,Al4 _,fun _ _=>rfl⟩⟩
  ·have hlt:¬ ((rs.size:Int)-1<2):=by omega
   go_enter L.f152,Body.n152_ntmps ρ
   go_wp2_with (go_at_fn (ρ.f 119);refine(Any.utf8_ValidRune { L with } _ _).mono ?_;rintro e w' ⟨rfl,hw⟩;rw[hw,hv])
   go_step3
   go_wp2
   go_loopg [9,10] 0 (fun g s9 s10 wx=>s9=.int .i64 ((rs.size:Int)-1)∧s10=.int .i64 0∧wx=w)
   case atStart=>exact⟨rfl,rfl,rfl⟩
   case round =>
    obtain⟨rfl,rfl,rfl⟩:=hrel
    go_wp2
    rw[Exit.noGoto_ret];go_wp2
    go_ret
    exact⟨rfl,Below.refl _ _⟩
theorem zbs (s:ByteArray) (i:Nat) (h:i<s.size):s.data.toList[i]?=some (s.get! i):=by
 rw[Lib.data_getElem? s i h]
 simp[ByteArray.get!,getElem!_pos,h]
 rfl
theorem Yz (s:ByteArray) (pos:Nat) (h:pos<s.size) (ha:128≤(s.get! pos).toNat) :
  128≤(Utf8.decode s pos).1∧1≤(Utf8.decode s pos).2∧pos+(Utf8.decode s pos).2≤s.size∧∀ j,j<(Utf8.decode s pos).2→128≤(s.get! (pos+j)).toNat:=by
 have hn:¬ (s.get! (pos+0)).toNat<128:=by simpa using ha
 have h1:∀(c:Nat),128≤c→128≤(c,1).1∧1≤(c,1).2∧pos+(c,1).2≤s.size∧∀ j,j<(c,1).2→128≤(s.get! (pos+j)).toNat:=fun c hc =>
  ⟨hc,Al4 _,by show pos+1≤s.size;omega,fun j hj=>by
   have hj:j<1:=hj
   obtain rfl:j=0:=by omega
   simpa using ha⟩
 have hb:∀ k,(s.get! (pos+k)).toNat / 64=2→128≤(s.get! (pos+k)).toNat:=fun k hk=>by omega
 simp only[Utf8.decode,hn,if_false,Utf8.runeError]
 split
 ·rename_i hc
  simp only[Al0,beq_iff_eq,zp] at hc
  split
  ·rename_i h2
   refine⟨h2,by show 1≤2;omega,by show pos+2≤s.size;omega,fun j hj=>?_⟩
   have hj:j<2:=hj
   rcases(by omega:j=0∨j=1) with rfl|rfl
   ·simpa using ha
   ·exact hb 1 hc.2.2
  ·exact h1 _ (by decide)
 split
 ·rename_i hc
  simp only[Al0,beq_iff_eq,zp] at hc
  split
  ·rename_i h2
   simp only[Al0,zp] at h2
   refine⟨by have:=h2.1;show 128≤_;simp only;omega,by show 1≤3;omega,by show pos+3≤s.size;omega,fun j hj=>?_⟩
   have hj:j<3:=hj
   rcases(by omega:j=0∨j=1∨j=2) with rfl|rfl|rfl
   ·simpa using ha
   ·exact hb 1 hc.1.2.2
   ·exact hb 2 hc.2.2
  ·exact h1 _ (by decide)
 split
 ·rename_i hc
  simp only[Al0,beq_iff_eq,zp] at hc
  split
  ·rename_i h2
   simp only[Al0,zp] at h2
   refine⟨by have:=h2.1;show 128≤_;simp only;omega,by show 1≤4;omega,by show pos+4≤s.size;omega,fun j hj=>?_⟩
   have hj:j<4:=hj
   rcases(by omega:j=0∨j=1∨j=2∨j=3) with rfl|rfl|rfl|rfl
   ·simpa using ha
   ·exact hb 1 hc.1.1.2.2
   ·exact hb 2 hc.1.2.2
   ·exact hb 3 hc.2.2
  ·exact h1 _ (by decide)
 ·exact h1 _ (by decide)
theorem zeE {s:ByteArray} {i k:Nat} (h:NoAny s.data.toList eol.data.toList i) (hk:i+k≤s.size) (hb:∀ j,j<k→128≤(s.get! (i+j)).toNat):NoAny s.data.toList eol.data.toList (i+k):=fun j b hj hjb=>by
 by_cases hlt:j<i
 ·exact h j b hlt hjb
 ·have h1:=hb (j-i) (by omega)
  rw[show i+(j-i)=j by omega] at h1
  rw[zbs s j (by omega)] at hjb
  cases hjb
  show ([13,10]:List UInt8).contains _=false
  simp only[List.contains_cons,List.contains_nil,Bool.or_false,Bool.or_eq_false_iff,beq_eq_false_iff_ne]
  refine⟨fun e=>?_,fun e=>?_⟩<;>(rw[e] at h1;simp at h1)
set_option maxHeartbeats 8000000 in
theorem Yf (L:Lays.n153 P ρ) (s:ByteArray) (w:World) (h8:s.size≤8) :
  Calls P (ρ.f 153) #[.string s,.string eol] w fun e w'=>e=.returned (.int .i64 (Lib.indexAny s.data.toList eol.data.toList))∧Below w.heap.size w w':=by
 have hemp:eol.toList.isEmpty=false:=by rw[Lib.toList_data];rfl
 have hn0:(eol.size:Int)=2:=rfl
 have hn1:((eol.size:Int)==1)=false:=rfl
 have h8z:decide ((8:Int)<(s.size:Int))=false:=decide_eq_false (by omega)
 have t3:=L.t3;have a3:=L.a3;have z3:=L.z3;have v3:=L.v3
 have t4:=L.t4;have a4:=L.a4;have z4:=L.z4;have v4:=L.v4
 have t5:=L.t5;have a5:=L.a5;have z5:=L.z5;have v5:=L.v5
 have t9:=L.t9;have a9:=L.a9;have z9:=L.z9;have v9:=L.v9
 have t21:=L.t21;have a21:=L.a21;have z21:=L.z21;have v21:=L.v21
 have e152:∀ args w,(callFunc (ρ.f 152) args).run P w=.ok (.enter (ρ.f 152) args) w:=enters_of L.f152 (by kernel_rfl) rfl
 have e226:∀ args w,(callFunc (ρ.f 226) args).run P w=.ok (.enter (ρ.f 226) args) w:=enters_of L.f226 (by kernel_rfl) rfl
 go_enter L.f153,Body.n153_ntmps ρ
 go_wp2_with (go_at_fn (ρ.f 226);refine(Any.strings_shouldUseASCIISet { L with } _ _).mono ?_;rintro e w' ⟨rfl,hw⟩;rw[hw,h8z])
 go_loopg [9,10] s.size (fun g _ _ wx=>∃ i:Nat,i+g=s.size∧(wx.heap[w.heap.size]?=some (.stringIter s i)∧Below w.heap.size w wx)∧Lib.NoAny s.data.toList eol.data.toList i)
 case atStart=>exact⟨0,by omega,⟨World.iter_heap w s 0,(Below.refl _ _).alloc (Al4 _) _⟩,Lib.NoAny.zero _ _⟩
 case round =>
  obtain⟨i,hig,hst,hno⟩:=hrel
  obtain⟨hit,hbe⟩:=hst
  have HN:Aside (Lib.NoAny s.data.toList eol.data.toList i∧Below w.heap.size w wr):=⟨hno,hbe⟩
  clear hno hbe
  cases gk with
  | zero =>
   obtain rfl:i=s.size:=by omega
   have hnx:=fun ty=>zaF (P:=P) wr w.heap.size s s.size ty hit (by omega)
   go_wp2
   go_ret
   exact⟨by rw[Lib.indexAny_none (by rw[← Lib.size_eq];exact HN.out.1)];rfl,HN.out.2⟩
  | succ g =>
   have hi:i<s.size:=by omega
   have hnx:=fun ty=>zbr (P:=P) wr w.heap.size s i ty hit hi
   have hwlt:w.heap.size<wr.heap.size:=(yX.1 hit).1
   have hst2:∀ k,({ wr with heap:=wr.heap.setIfInBounds w.heap.size (.stringIter s k) }:World).heap[w.heap.size]?=some (.stringIter s k):=fun k=>by
    show (wr.heap.setIfInBounds w.heap.size (.stringIter s k))[w.heap.size]?=_
    simp[hwlt]
   have hbl2:∀ k,Below w.heap.size w ({ wr with heap:=wr.heap.setIfInBounds w.heap.size (.stringIter s k) }:World):=fun k=>by
    have hb:=HN.out.2
    refine⟨hb.os,hb.tape,hb.output,by simpa using hb.size,fun n hn=>?_⟩
    show (wr.heap.setIfInBounds w.heap.size (.stringIter s k))[n]?=_
    rw[Array.getElem?_setIfInBounds_ne (by omega)]
    exact hb.block n hn
   have HB:Aside ((∀ k,({ wr with heap:=wr.heap.setIfInBounds w.heap.size (.stringIter s k) }:World).heap[w.heap.size]?=some (.stringIter s k))∧(∀ k,Below w.heap.size w ({ wr with heap:=wr.heap.setIfInBounds w.heap.size (.stringIter s k) }:World))∧w.heap.size<wr.heap.size):=⟨hst2,hbl2,hwlt⟩
   clear hst2 hbl2 hwlt hit
   by_cases ha:128≤(s.get! i).toNat
   ·obtain⟨d1,d2,d3,d4⟩:=Yz s i hi ha
    have HD:Aside (1≤(Utf8.decode s i).2∧i+(Utf8.decode s i).2≤s.size∧∀ j,j<(Utf8.decode s i).2→128≤(s.get! (i+j)).toNat):=⟨d2,d3,d4⟩
    clear d2 d3 d4 ha
    generalize hr:(Utf8.decode s i).1=r at hnx d1
    generalize hk:(Utf8.decode s i).2=k at hnx HD
    clear hr hk
    generalize hW:({ wr with heap:=wr.heap.setIfInBounds w.heap.size (.stringIter s (i+k)) }:World)=W at hnx
    have HW:Aside (W.heap[w.heap.size]?=some (.stringIter s (i+k))∧Below w.heap.size w W):=⟨by rw[← hW];exact HB.out.1 _,by rw[← hW];exact HB.out.2.1 _⟩
    clear hW
    have hru:Calls P (ρ.f 152) #[.string eol,.int .i32 (r:Int)] W fun e w'=>e=.returned (.int .i64 (-1))∧Below W.heap.size W w':=by
     by_cases he:(r:Int)=65533
     ·rw[he];exact zbg { L with } W
     ·exact zaI { L with } _ (by omega) he W
    go_wp2_with (go_at_fn (ρ.f 152);refine hru.mono ?_;rintro e w' ⟨rfl,hw⟩)
    go_roundg (s.size-(i+k))
    case measure=>have:=HD.out.1;omega
    case rel =>
     obtain⟨g1,g2⟩:=HW.out
     obtain⟨f1,f2,f3⟩:=HD.out
     have hlt:w.heap.size<W.heap.size:=(yX.1 g1).1
     exact⟨i+k,by omega,⟨by rw[hw.block _ hlt];exact g1,g2.trans (hw.mono (by omega))⟩,zeE HN.out.1 f2 f3⟩
   ·have hx128:(s[i]'hi).toNat<128:=by
     have e:s.get! i=s[i]'hi:=get_at s i hi
     rw[← e];omega
    have hde:Utf8.decode s i=((s[i]'hi).toNat,1):=decode_ascii s i hi hx128
    obtain⟨x,hx⟩:∃ x:UInt8,s[i]'hi=x:=⟨_,rfl⟩
    have hxl:s.data.toList[i]?=some x:=by rw[← hx];exact Lib.data_getElem? s i hi
    have Hx:Aside (s.data.toList[i]?=some x):=hxl
    rw[hde,hx] at hnx
    rw[hx] at hx128
    clear hxl hx ha hde
    have hcon:=Lib.contains_iff_indexByte eol.data.toList x
    have hback:((x.toNat:Int)).toNat.toUInt8=x:=by simp
    generalize hW:({ wr with heap:=wr.heap.setIfInBounds w.heap.size (.stringIter s (i+1)) }:World)=W at hnx
    have HW:Aside (W.heap[w.heap.size]?=some (.stringIter s (i+1))∧Below w.heap.size w W):=⟨by rw[← hW];exact HB.out.1 _,by rw[← hW];exact HB.out.2.1 _⟩
    clear hW
    cases hin:eol.data.toList.contains x
    ·rw[hin] at hcon
     have hlt:¬ ((0:Int)≤Lib.indexByte eol.data.toList x):=of_decide_eq_false hcon.symm
     clear hcon
     go_wp2_with (go_at_fn (ρ.f 152);refine(Any.strings_IndexRune_ascii { L with } _ _ _ (by omega) (by omega)).mono ?_;rintro e w' ⟨rfl,hw⟩;rw[hw,hback])
     go_roundg g
     case measure=>omega
     case rel=>exact⟨i+1,by omega,HW.out,HN.out.1.succ Hx.out hin⟩
    ·rw[hin] at hcon
     have hge:(0:Int)≤Lib.indexByte eol.data.toList x:=of_decide_eq_true hcon.symm
     clear hcon
     go_wp2_with (go_at_fn (ρ.f 152);refine(Any.strings_IndexRune_ascii { L with } _ _ _ (by omega) (by omega)).mono ?_;rintro e w' ⟨rfl,hw⟩;rw[hw,hback])
     go_ret
     exact⟨by rw[Lib.indexAny_hit HN.out.1 Hx.out hin];rfl,HW.out.2⟩
end
end Go.Proofs.YtaielcdfcgpbiaaGreatDoor
namespace Go.Proofs.YtaielcdfcgpbiaaGreatDoor
open Go.Ab Go.Lib
theorem zex (s:List UInt8) (hs:s.length≤4294967000):Pure Tryz.prog 118 [.str s,.str [13,10]] (.int .i64 (Lib.indexAny s [13,10])):=by
 refine Pure.of_below fun γ w vs ht hv=>?_
 obtain⟨hlv,hr⟩:=hv
 match vs,hlv with
 | [v,u],_ =>
  cases hr 0 _ _ rfl rfl
  cases hr 1 _ _ rfl rfl
  by_cases h8:s.length≤8
  ·exact(Yf (P:=Tryz.prog) Tryz.lays153 ⟨s.toArray⟩ w (by simpa[ByteArray.size] using h8)).mono fun e w' ⟨he,hw⟩=>⟨hw,_,he,.int _ _⟩
  ·refine(Tryz.strings_IndexAny_long (zero_of_info (n:=256) (by kernel_rfl)).1 ⟨s.toArray⟩ ⟨#[13,10]⟩ w (by decide) (by simp only[ByteArray.size,List.size_toArray];omega) (by simp only[ByteArray.size,List.size_toArray];omega) (by decide) (fun j b hj=>?_)).mono fun e w' ⟨he,hw⟩=>⟨?_,_,he,.int _ _⟩
   ·have hj:([13,10]:List UInt8)[j]?=some b:=hj
    match j,hj with
    | 0,hj=>cases hj;decide
    | 1,hj=>cases hj;decide
    | j+2,hj=>simp at hj
   ·rw[hw]
    exact((Go.RowKit.Below.refl _ _).alloc (Al4 _) _).alloc (by simp) _
end Go.Proofs.YtaielcdfcgpbiaaGreatDoor
namespace Go.Proofs.YtaielcdfcgpbiaaGreatDoor
open Go.Ab
def sp31 : ASp := ⟨27, 2, 5, (.reg [] [⟨some 4, none, .alloc [.int .i64 0], []⟩]), (.seq (.reg [] [⟨some 13, none, .mv (.t 6), []⟩, ⟨some 14, none, .bi .neq .i64 (.t 13) (.k (.int .i64 0)), []⟩])
 (.cond (.t 14) (.seq (.reg [] [⟨some 15, none, .mv (.t 6), []⟩, ⟨none, none, .st 1 (.t 4) (.t 15), []⟩])
 (.ret)) (.skip))), [⟨some 16, none, .mkfn 74 [] [(.t 4)], []⟩], 16, (.seq (.reg [] [⟨some 17, none, .mv (.t 5), []⟩, ⟨some 18, none, .bld [.sl .nil 2 [], .int .i64 0, .int .i64 0] [(0, 1, (.t 17))], []⟩, ⟨some 19, none, .box (.t 18), []⟩, ⟨some 7, none, .mv (.t 19), []⟩])
 (.seq (.reg [] [⟨some 20, none, .mv (.t 1), []⟩, ⟨some 21, none, .mv (.t 7), []⟩, ⟨some 22, none, .callv (.t 20) [(.t 21)], []⟩])
 (.seq (.seq (.reg [] [⟨some 23, none, .mv (.t 7), []⟩, ⟨some 24, none, .call 43 [(.t 23)], []⟩])
 (.cond (.t 24) (.reg [] [⟨some 25, none, .mv (.t 7), []⟩, ⟨some 26, none, .call 75 [(.t 25), (.k (.int .i64 2))], []⟩]) (.skip)))
 (.seq (.reg [] [⟨none, none, .st 1 (.t 4) (.k (.int .i64 0)), []⟩])
 (.ret))))), [.c 4 1 false], some (.reg [] [⟨some 9, none, .mv (.t 0), []⟩, ⟨some 10, none, .call 24 [(.t 9)], []⟩, ⟨some 8, none, .mv (.t 10), []⟩, ⟨some 11, none, .ext (.t 8) 0, []⟩, ⟨some 12, none, .ext (.t 8) 1, []⟩, ⟨some 5, none, .mv (.t 11), []⟩, ⟨some 6, none, .mv (.t 12), []⟩])⟩
theorem ckS31:chkSp Tryz.prog 31 sp31=true:=by kernel_rfl
def df74 : ADfn := ⟨16, 1, 4, [⟨some 1, none, .mv (.t 4), []⟩], (.seq (.reg [] [⟨some 6, none, .mv (.t 1), []⟩, ⟨some 7, none, .tas 120 (.agg [.int .i64 0]) (.t 6), []⟩, ⟨some 5, none, .mv (.t 7), []⟩, ⟨some 8, none, .ext (.t 5) 0, []⟩, ⟨some 9, none, .ext (.t 5) 1, []⟩, ⟨some 2, none, .alloc [.int .i64 0], []⟩, ⟨none, none, .st 1 (.t 2) (.t 8), []⟩, ⟨some 3, none, .mv (.t 9), []⟩])
 (.seq (.reg [] [⟨some 10, none, .mv (.t 3), []⟩])
 (.cond (.t 10) (.reg [] [⟨some 11, none, .fa 0 (.t 2), []⟩, ⟨some 12, none, .ld 1 false (.t 11), []⟩, ⟨none, none, .st 1 (.t 0) (.t 12), []⟩]) (.seq (.reg [] [⟨some 13, none, .mv (.t 1), []⟩, ⟨some 14, none, .ifnil true (.t 13), []⟩])
 (.cond (.t 14) (.reg [] [⟨some 15, none, .mv (.t 1), []⟩, ⟨none, none, .pan (.t 15), []⟩]) (.skip))))))⟩
theorem ckD74:chkDfn Tryz.prog 74 df74=true:=by kernel_rfl
theorem res_run {ρ:Env} {H:Heap} {b4:Nat} {e:Int} (r4:ρ 4=.ptr b4 0) (h4:H b4=some (.cells [.int .i64 e])):resvs ρ H sp31.res=some [.int .i64 e]:=by
 simp(disch:=omega) only[sp31,resvs,resv,r4,h4,go_sem]
end Go.Proofs.YtaielcdfcgpbiaaGreatDoor

namespace Go.Proofs.YtaielcdfcgpbiaaGreatDoor
open Go.Ab
theorem zc5 (a b:List DirD) (ha:bDs a≤Lim):Pure Tryz.prog 109 [.sl .no 2 (cDs a),.sl .no 2 (cDs b)] (.bool (eqd a b)):=by
 refine Pure.go ir109 ck109 (Al4 _) fun KP Q hQ=>?_
 have h1:=Zf a
 have h2:=Zf b
 have hla:=ZY a
 simp only[Lim] at ha
 by_cases hl:a.length=b.length
 case neg =>
  have hl':¬ ((a.length:Int)=b.length):=by omega
  have hne:a≠b:=fun e=>hl (by rw[e])
  simp(disch:=omega) only[ir109,h1,h2,hl',go_sem]
  exact hQ _ _ _ _ nofun rfl (by simp[tupOf,envOf,AV.strip,AV.strip1,zl hne])
 have hl':((a.length:Int)=b.length)=True:=eq_true (by omega)
 simp(disch:=omega) only[ir109,h1,h2,hl',go_sem]
 refine goL_range a 5 (fun _:Unit=>[]) (fun done rest n H=>b.take done.length=done) () (by simp(disch:=omega) only[go_sem]) rfl ?_ ?_
 ·rintro n H J hp hlt
  simp(disch:=omega) only[h1,hlt,go_sem]
  exact hQ _ _ _ _ nofun rfl (by simp[tupOf,envOf,AV.strip,AV.strip1,zI (Yt hl hp)])
 ·rintro done x rest n H J hd hlt _ hp hJ
  obtain⟨y,r,hb⟩:=Yh hd hl hp
  have g1:=Zv hd
  have g2:=Zv hb
  have hlt2:(done.length:Int)<b.length:=by omega
  have hbm:=Z7 done x rest
  rw[← hd] at hbm
  have hst:=ZL hb
  have hne:x≠y→a≠b:=zax hd hb
  obtain⟨s,v⟩:=x
  obtain⟨t,u⟩:=y
  simp only[bD] at hbm
  by_cases hs:s=t
  case neg =>
   have hne2:=hne (by simp[hs])
   simp(disch:=omega) only[h1,h2,hlt,hlt2,g1,g2,hs,cD,go_sem]
   exact hQ _ _ _ _ nofun rfl (by simp[tupOf,envOf,AV.strip,AV.strip1,zl hne2])
  simp(disch:=omega) only[h1,h2,hlt,hlt2,g1,g2,hs,cD,go_sem]
  refine goK_pure (zdf v u (by simp only[Lim];omega)) ?_
  by_cases hv:v=u
  ·simp(disch:=omega) only[zI hv,go_sem]
   exact goJ (hJ () _ (by rw[hs,hv];exact hst)) (by simp(disch:=omega) only[wrap64,go_sem])
  ·have:=hne (by simp[hv])
   simp(disch:=omega) only[zl hv,go_sem]
   exact hQ _ _ _ _ nofun rfl (by simp[tupOf,envOf,AV.strip,AV.strip1,zl this])
open Go.Lib
end Go.Proofs.YtaielcdfcgpbiaaGreatDoor
namespace Go.Proofs.YtaielcdfcgpbiaaGreatDoor
open Go.Ab
def lD (x:DirD):Nat:=2+x.nm.length+bMs x.args
def lDs (l:List DirD):Nat:=(l.map lD).sum
mutual
def lS:SelD→Nat
 | .mk _ al nm args dirs on sels=>2+nm.length+al.length+on.length+bMs args+lDs dirs+lSs sels
def lSs:List SelD→Nat
 | []=>0
 | x::r=>lS x+lSs r
end
def lW (x:VarD):Nat:=1+bV x.d+x.nm.length
def lWs (l:List VarD):Nat:=(l.map lW).sum
def lF (x:FragD):Nat:=1+lDs x.dirs+lSs x.sels+x.nm.length
theorem zan {α:Type} {f g:α→Nat} {c:Nat} (h:∀ x,f x≤c*g x):∀ l:List α,(l.map f).sum≤c*(l.map g).sum
 | []=>Nat.zero_le _
 | x::r=>by have:=zan h r;have:=h x;simp only[List.map_cons,List.sum_cons,Nat.mul_add];omega
theorem zba (l:List DirD):lDs l≤2*bDs l:=zan (fun x=>by simp only[lD,bD];omega) l
theorem YF (l:List VarD):lWs l≤2*bWs l:=zan (fun x=>by have:=ZD x.d;simp only[lW,bW];omega) l
theorem zfq (x:VarD) (hr:zM x=true) (hw:wfW x):wT (tPa x)≤240*bW x:=by
 simp only[zM,Al0] at hr
 have h1:=zd3 x.t hr.2.1
 have h2:=zcC x.d hw.2.2
 have h3:=ZD x.d
 have h4:wT (tDf x.has x.d)≤5+wT (zH x.d):=by
  unfold tDf
  split
  ·simp only[zF,yS,Al2,Al3];omega
  ·simp[wT]
 simp only[tPa,bW,zF,yh,yS,Zc,Al2,Al3]
 omega
theorem zcG (l:List VarD) (hr:l.all zM=true) (hw:∀ y∈l,wfW y):wT (l.flatMap tPa)≤240*bWs l:=Zq _ fun y hy=>zfq y (yx.1 hr y hy) (hw y hy)
theorem zfJ (x:FldD) (hr:zR x=true) (hw:wfL x):wT (tL x)≤256*bL x:=by
 simp only[zR,Al0] at hr
 obtain⟨_,hr1,hr2,hr3⟩:=hr
 obtain⟨w1,_,_,w2⟩:=hw
 have h1:=zcG x.ps hr1 w1
 have h2:=zd3 x.t hr2
 have h3:=zfj x.dirs w2
 have h4:wT (tPb x.ps)≤10+wT (x.ps.flatMap tPa):=by
  unfold tPb
  split
  ·simp[wT]
  ·simp only[zF,yh,yG,yS,Al2,Al3];omega
 simp only[tL,bL,zF,yh,yS,Zc,Al2,Al3]
 omega
theorem zdG (m:List UInt8) (hm:m.length=1) (l:List (List UInt8)):wT (tNs m l)≤16*bT l:=by
 cases l with
 | nil=>simp[tNs,wT]
 | cons a r =>
  have h1:wT (r.flatMap fun s=>[pk m,wk s])≤16*bT r:=Zq _ fun s _=>by
   simp only[zF,yG,yS,Zc];omega
  have h2:bT (a::r)=1+a.length+bT r:=by simp[bT]
  simp only[tNs,zF,Zc]
  omega
theorem zfw (l:List (List UInt8)):wT (l.map wk)≤16*bT l:=by
 induction l with
 | nil=>simp[wT]
 | cons a r ih =>
  have h2:bT (a::r)=1+a.length+bT r:=by simp[bT]
  simp only[List.map_cons,zF,Zc]
  omega
theorem zf1 (x:DefD) (hr:zr x=true) (hw:wfE x):wT (tE x)≤256*bE x:=by
 obtain⟨w1,w2⟩:=hw
 simp only[zr,Al0] at hr
 obtain⟨_,hr⟩:=hr
 unfold tE
 simp only[bE]
 have hf:=zdG [38] rfl x.faces
 have hp:=zdG [124] rfl x.parts
 have hq:=zfw x.parts
 by_cases k1:x.k=1∨x.k=2
 ·rw[if_pos k1] at hr ⊢
  simp only[Al0] at hr
  have h1:wT (x.flds.flatMap tL)≤256*bLs x.flds:=Zq _ fun y hy=>zfJ y (yx.1 hr.2.1 y hy) (w1 y hy)
  have h2:wT (if x.faces.length=0 then ([]:List Tok) else wk [105,109,112,108,101,109,101,110,116,115]::tNs [38] x.faces)≤14+wT (tNs [38] x.faces):=by
   split
   ·simp[wT]
   ·simp only[zF,Zc,Al2,Al3];omega
  have h3:(if x.k=1 then [116,121,112,101] else [105,110,116,101,114,102,97,99,101]:List UInt8).length≤9:=by split<;>decide
  simp only[zF,yh,yG,yS,Zc,Al2,Al3]
  omega
 rw[if_neg k1] at hr ⊢
 by_cases k3:x.k=3
 ·rw[if_pos k3]
  simp only[zF,yS,Zc,Al2,Al3]
  omega
 rw[if_neg k3] at hr ⊢
 by_cases k4:x.k=4
 ·rw[if_pos k4]
  simp only[zF,yh,yG,yS,Zc,Al2,Al3]
  omega
 rw[if_neg k4] at hr ⊢
 by_cases k5:x.k=5
 ·rw[if_pos k5] at hr
  simp only[Al0] at hr
  have h1:=zcG x.ps hr.1 w2
  simp only[zF,yh,yG,yS,Zc,Al2,Al3]
  omega
 ·rw[if_neg k5] at hr;cases hr
theorem zeh (s:SchD) (hr:zS s=true) (hw:YS s):wT (y1 s)≤256*yV s+64:=by
 simp only[zS,Al0] at hr
 have h1:wT (s.defs.flatMap tE)≤256*bEs s.defs:=Zq _ fun y hy=>zf1 y (yx.1 hr.1 y hy) (hw y hy)
 have h2:wT (if s.m=[] then ([]:List Tok) else [wk [109,117,116,97,116,105,111,110],pk [58],wk s.m])≤21+s.m.length:=by
  split
  ·simp[wT]
  ·simp only[zF,yG,yS,Zc,Al2,Al3];omega
 simp only[y1,tRt,yV,zF,yh,yG,yS,Zc,Al2,Al3]
 omega
def tE2 (wd:List UInt8) (x:DefD):List Tok:=wk wd::wk x.nm::((if x.faces.length=0 then [] else wk [105,109,112,108,101,109,101,110,116,115]::nsT [38] x.faces)++(pk [123]::(x.flds.flatMap tL++(nsT [] x.parts++(x.ps.flatMap tPa++[pk [125]])))))
theorem zeS {x:DefD} (h:zr x=true) (k:x.k=1∨x.k=2):tE x=tE2 (if x.k=1 then [116,121,112,101] else [105,110,116,101,114,102,97,99,101]) x:=by
 simp only[zr,if_pos k,Al0,zp] at h
 obtain⟨_,_,_,_,h1,h2⟩:=h
 have e1:=y5.1 h1
 have e2:=y5.1 h2
 simp only[tE,if_pos k,tE2,e1,e2,nsT]
 simp
theorem zfM {x:DefD} (h:zr x=true) (k:x.k=4):tE x=tE2 [101,110,117,109] x:=by
 simp only[zr] at h
 rw[if_neg (by omega),if_neg (by omega),if_pos k] at h
 simp only[Al0,zp] at h
 obtain⟨_,_,_,h1,h2,h3⟩:=h
 have e1:=y5.1 h1
 have e2:=y5.1 h2
 have e3:=y5.1 h3
 simp only[tE]
 rw[if_neg (by omega),if_neg (by omega),if_pos k]
 simp[tE2,e1,e2,e3,nsT]
theorem zfP {x:DefD} (h:zr x=true) (k:x.k=5):tE x=tE2 [105,110,112,117,116] x:=by
 simp only[zr] at h
 rw[if_neg (by omega),if_neg (by omega),if_neg (by omega),if_pos k] at h
 simp only[Al0,zp] at h
 obtain⟨_,_,_,h1,h2,h3⟩:=h
 have e1:=y5.1 h1
 have e2:=y5.1 h2
 have e3:=y5.1 h3
 simp only[tE]
 rw[if_neg (by omega),if_neg (by omega),if_neg (by omega)]
 simp[tE2,e1,e2,e3,nsT]
theorem zaS {x:DefD} (h:zr x=true):x.ps.all zM=true∧x.flds.all zR=true:=by
 simp only[zr,Al0] at h
 obtain⟨_,h⟩:=h
 have nil:∀ {α:Type} {p:α→Bool} {l:List α},l.length=0→l.all p=true:=fun e=>by rw[y5.1 e];rfl
 split at h
 ·simp only[Al0,zp] at h
  exact⟨nil h.2.2.2.2,h.2.1⟩
 split at h
 ·simp only[Al0,zp] at h
  exact⟨nil h.2.2.2.2,nil h.2.2.2.1⟩
 split at h
 ·simp only[Al0,zp] at h
  exact⟨nil h.2.2.2.2,nil h.2.2.2.1⟩
 split at h
 ·simp only[Al0,zp] at h
  exact⟨h.1,nil h.2.2.2.1⟩
 ·cases h
end Go.Proofs.YtaielcdfcgpbiaaGreatDoor
set_option maxHeartbeats 1600000
namespace Go.Proofs.YtaielcdfcgpbiaaGreatDoor
open Go.Ab
theorem zcP (wd:List UInt8) (x:DefD) (hk:(x.k=1∧wd=[116,121,112,101])∨(x.k=2∧wd=[105,110,116,101,114,102,97,99,101])∨(x.k=4∧wd=[101,110,117,109])∨(x.k=5∧wd=[105,110,112,117,116])) (hwx:wfE x) (hr:zr x=true) (hm:16*bE x≤Lim):VC 68 [.agg (cE x)] (tE2 wd x):=by
 intro H w o l h hb
 obtain⟨hrp,hrf⟩:=zaS hr
 obtain⟨k,nm,faces,flds,parts,ps⟩:=x
 simp only at hk hrp hrf
 simp only[wfE] at hwx
 have hm':=hm
 simp only[bE,Lim] at hm'
 have hfc:=yB flds
 have hac:=zA faces
 have hfb:=yN flds
 simp only[tE2,Al2,Al5,Al3] at hb
 rw[ZE]
 refine ACalls.go ir68 ck68 (Al4 _) fun KP Q hQ=>?_
 have w0:=VR.refl h
 have ew:∀ u,wd=u→VC 66 [.str u] [wk wd]:=fun u e=>e▸wR wd
 rcases hk with ⟨rfl,hwd⟩|⟨rfl,hwd⟩|⟨rfl,hwd⟩|⟨rfl,hwd⟩
 all_goals
  simp(disch:=omega) only[ir68,Al2,Al3,List.getD_cons_zero,List.getD_cons_succ,go_sem]
  refine zm (ew _ hwd) w0 (by simp only[Al2,Al3];omega) fun o1 H1 w1 s1=>?_
  simp(disch:=omega) only[go_sem]
  refine zm (wR nm) w1 (by simp only[Al2,Al3,Al5];omega) fun o2 H2 w2 s2=>?_
  by_cases hf0:faces.length=0
  ·have hf1:¬ ((0:Int)<(faces.length:Int)):=by omega
   have hf:=y5.1 hf0
   rw[if_pos hf0] at hb
   simp only[Al3] at hb
   simp(disch:=omega) only[hac,hf1,go_sem]
   refine zm (pR [123]) w2 (by simp only[Al2,Al3,Al5];omega) fun oB HB wB sB=>?_
   simp(disch:=omega) only[hfc,go_sem]
   refine goL_range flds 4 (fun x:Own=>[]) (fun done rest x H'=>VR H o w l ([wk wd,wk nm]++(pk [123]::done.flatMap tL)) H' x) oB (by simp(disch:=omega) only[go_sem]) (wB.cast (by simp)) ?_ ?_
   ·rintro o5 H5 J5 w5 hlt5
    simp(disch:=omega) only[hfc,hlt5,go_sem]
    refine zm (zab [] parts (by simp only[Lim];omega)) w5 (by simp only[Al2,Al3,Al5];omega) fun o6 H6 w6 s6=>?_
    simp(disch:=omega) only[go_sem]
    refine zm (Ym ps hwx.2 hrp (by simp only[Lim];omega)) w6 (by simp only[Al2,Al3,Al5];omega) fun o7 H7 w7 s7=>?_
    simp(disch:=omega) only[go_sem]
    refine zm (pR [125]) w7 (by simp only[Al2,Al3,Al5];omega) fun o8 H8 w8 s8=>?_
    simp(disch:=omega) only[go_sem]
    exact hQ _ _ H8 H8 [] nofun rfl (Low.refl _) ⟨rfl,o8,w8.cast (by simp[tE2,hf])⟩
   ·rintro done x rest o5 H5 J5 hd hlt5 hlt6 w5 hJ5
    have hg:=Zw hd
    have hbm:=Zu done x rest
    rw[← hd] at hbm
    have hmx:x∈flds:=by rw[hd];simp
    have hwl:=hwx.1 x hmx
    have hrx:=yx.1 hrf x hmx
    have hfl2:(flds.flatMap tL).length=(done.flatMap tL).length+(tL x).length+(rest.flatMap tL).length:=by rw[hd,ZJ]
    obtain⟨fn,fps,⟨tn,tl,tm⟩,dirs⟩:=x
    simp only[wfL] at hwl
    simp only[zR,Al0] at hrx
    have hty:=hrx.2.2.1
    simp only[bL] at hbm
    simp only[tL,tPb,Al2,Al5] at hfl2
    have hpl:=yl fps
    rw[YW] at hg
    simp(disch:=omega) only[hfc,hlt5,hg,go_sem]
    refine goA_intro fun b hb=>?_
    have hbw:b≠w:=fun e=>by subst e;rw[w5.here.cell] at hb;cases hb
    obtain⟨cs,hcs⟩:∃ cs,cs=[AV.str fn,.sl .no 10 (cWs fps),.str tn,.int .i64 tl,.int .i64 tm,.sl .no 2 (cDs dirs)]:=⟨_,rfl⟩
    have w6:=w5.alloc (x:=.cells cs) hb
    have hbc:(H5.upd b (.cells cs)) b=some (.cells cs):=upd_same ..
    subst hcs
    simp(disch:=omega) only[go_sem]
    refine zm (wR fn) w6 (by simp only[Al2,Al3,Al5];omega) fun o8 H8 w8 s8=>?_
    have hb8:=s8.box w6.here.own hbc hbw
    by_cases hp0:fps.length=0
    ·have hp0':¬ ((0:Int)<(fps.length:Int)):=by omega
     have hps:=y5.1 hp0
     rw[if_pos hp0] at hfl2
     simp only[Al3] at hfl2
     simp(disch:=omega) only[hb8,hpl,hp0',go_sem]
     refine zm (pR [58]) w8 (by simp only[Al2,Al3,Al5];omega) fun oB HB wB sB=>?_
     have hbB:=sB.box w8.here.own hb8 hbw
     simp(disch:=omega) only[hbB,go_sem]
     refine zm (show VC _ [.agg [.str tn,.int .i64 tl,.int .i64 tm]] (tTy ⟨tn,tl,tm⟩) from zbm ⟨tn,tl,tm⟩ hty) wB (by simp only[Al2,Al3,Al5];omega) fun oC HC wC sC=>?_
     have hbC:=sC.box wB.here.own hbB hbw
     simp(disch:=omega) only[hbC,go_sem]
     refine zm (za4 dirs hwl.2.2.2 (by simp only[Lim];omega)) wC (by simp only[Al2,Al3,Al5];omega) fun oD HD wD sD=>?_
     simp(disch:=omega) only[wrap64,go_sem]
     exact goJ (hJ5 oD HD (wD.cast (by simp[tL,tPb,hps]))) (by simp(disch:=omega) only[go_sem])
    ·have hp0':((0:Int)<(fps.length:Int))=True:=eq_true (by omega)
     have hps:=hp0
     rw[if_neg hp0] at hfl2
     simp only[Al2,Al5,Al3] at hfl2
     simp(disch:=omega) only[hb8,hpl,hp0',go_sem]
     refine zm (pR [40]) w8 (by simp only[Al2,Al3,Al5];omega) fun o9 H9 w9 s9=>?_
     have hb9:=s9.box w8.here.own hb8 hbw
     simp(disch:=omega) only[hb9,go_sem]
     refine zm (Ym fps hwl.1 hrx.2.1 (by simp only[Lim];omega)) w9 (by simp only[Al2,Al3,Al5];omega) fun oE HE wE sE=>?_
     have hbE:=sE.box w9.here.own hb9 hbw
     simp(disch:=omega) only[hbE,go_sem]
     refine zm (pR [41]) wE (by simp only[Al2,Al3,Al5];omega) fun oF HF wF sF=>?_
     have hbF:=sF.box wE.here.own hbE hbw
     simp(disch:=omega) only[hbF,go_sem]
     refine zm (pR [58]) wF (by simp only[Al2,Al3,Al5];omega) fun oB HB wB sB=>?_
     have hbB:=sB.box wF.here.own hbF hbw
     simp(disch:=omega) only[hbB,go_sem]
     refine zm (show VC _ [.agg [.str tn,.int .i64 tl,.int .i64 tm]] (tTy ⟨tn,tl,tm⟩) from zbm ⟨tn,tl,tm⟩ hty) wB (by simp only[Al2,Al3,Al5];omega) fun oC HC wC sC=>?_
     have hbC:=sC.box wB.here.own hbB hbw
     simp(disch:=omega) only[hbC,go_sem]
     refine zm (za4 dirs hwl.2.2.2 (by simp only[Lim];omega)) wC (by simp only[Al2,Al3,Al5];omega) fun oD HD wD sD=>?_
     simp(disch:=omega) only[wrap64,go_sem]
     exact goJ (hJ5 oD HD (wD.cast (by simp[tL,tPb,hps]))) (by simp(disch:=omega) only[go_sem])
  ·have hf1:((0:Int)<(faces.length:Int))=True:=eq_true (by omega)
   have hf:=hf0
   rw[if_neg hf0] at hb
   simp only[Al2] at hb
   simp(disch:=omega) only[hac,hf1,go_sem]
   refine zm (wR [105,109,112,108,101,109,101,110,116,115]) w2 (by simp only[Al2,Al3,Al5];omega) fun o3 H3 w3 s3=>?_
   simp(disch:=omega) only[go_sem]
   refine zm (zab [38] faces (by simp only[Lim];omega)) w3 (by simp only[Al2,Al3,Al5];omega) fun o4 H4 w4 s4=>?_
   simp(disch:=omega) only[go_sem]
   refine zm (pR [123]) w4 (by simp only[Al2,Al3,Al5];omega) fun oB HB wB sB=>?_
   simp(disch:=omega) only[hfc,go_sem]
   refine goL_range flds 4 (fun x:Own=>[]) (fun done rest x H'=>VR H o w l ((wk wd::wk nm::wk [105,109,112,108,101,109,101,110,116,115]::nsT [38] faces)++(pk [123]::done.flatMap tL)) H' x) oB (by simp(disch:=omega) only[go_sem]) (wB.cast (by simp)) ?_ ?_
   ·rintro o5 H5 J5 w5 hlt5
    simp(disch:=omega) only[hfc,hlt5,go_sem]
    refine zm (zab [] parts (by simp only[Lim];omega)) w5 (by simp only[Al2,Al3,Al5];omega) fun o6 H6 w6 s6=>?_
    simp(disch:=omega) only[go_sem]
    refine zm (Ym ps hwx.2 hrp (by simp only[Lim];omega)) w6 (by simp only[Al2,Al3,Al5];omega) fun o7 H7 w7 s7=>?_
    simp(disch:=omega) only[go_sem]
    refine zm (pR [125]) w7 (by simp only[Al2,Al3,Al5];omega) fun o8 H8 w8 s8=>?_
    simp(disch:=omega) only[go_sem]
    exact hQ _ _ H8 H8 [] nofun rfl (Low.refl _) ⟨rfl,o8,w8.cast (by simp[tE2,hf])⟩
   ·rintro done x rest o5 H5 J5 hd hlt5 hlt6 w5 hJ5
    have hg:=Zw hd
    have hbm:=Zu done x rest
    rw[← hd] at hbm
    have hmx:x∈flds:=by rw[hd];simp
    have hwl:=hwx.1 x hmx
    have hrx:=yx.1 hrf x hmx
    have hfl2:(flds.flatMap tL).length=(done.flatMap tL).length+(tL x).length+(rest.flatMap tL).length:=by rw[hd,ZJ]
    obtain⟨fn,fps,⟨tn,tl,tm⟩,dirs⟩:=x
    simp only[wfL] at hwl
    simp only[zR,Al0] at hrx
    have hty:=hrx.2.2.1
    simp only[bL] at hbm
    simp only[tL,tPb,Al2,Al5] at hfl2
    have hpl:=yl fps
    rw[YW] at hg
    simp(disch:=omega) only[hfc,hlt5,hg,go_sem]
    refine goA_intro fun b hb=>?_
    have hbw:b≠w:=fun e=>by subst e;rw[w5.here.cell] at hb;cases hb
    obtain⟨cs,hcs⟩:∃ cs,cs=[AV.str fn,.sl .no 10 (cWs fps),.str tn,.int .i64 tl,.int .i64 tm,.sl .no 2 (cDs dirs)]:=⟨_,rfl⟩
    have w6:=w5.alloc (x:=.cells cs) hb
    have hbc:(H5.upd b (.cells cs)) b=some (.cells cs):=upd_same ..
    subst hcs
    simp(disch:=omega) only[go_sem]
    refine zm (wR fn) w6 (by simp only[Al2,Al3,Al5];omega) fun o8 H8 w8 s8=>?_
    have hb8:=s8.box w6.here.own hbc hbw
    by_cases hp0:fps.length=0
    ·have hp0':¬ ((0:Int)<(fps.length:Int)):=by omega
     have hps:=y5.1 hp0
     rw[if_pos hp0] at hfl2
     simp only[Al3] at hfl2
     simp(disch:=omega) only[hb8,hpl,hp0',go_sem]
     refine zm (pR [58]) w8 (by simp only[Al2,Al3,Al5];omega) fun oB HB wB sB=>?_
     have hbB:=sB.box w8.here.own hb8 hbw
     simp(disch:=omega) only[hbB,go_sem]
     refine zm (show VC _ [.agg [.str tn,.int .i64 tl,.int .i64 tm]] (tTy ⟨tn,tl,tm⟩) from zbm ⟨tn,tl,tm⟩ hty) wB (by simp only[Al2,Al3,Al5];omega) fun oC HC wC sC=>?_
     have hbC:=sC.box wB.here.own hbB hbw
     simp(disch:=omega) only[hbC,go_sem]
     refine zm (za4 dirs hwl.2.2.2 (by simp only[Lim];omega)) wC (by simp only[Al2,Al3,Al5];omega) fun oD HD wD sD=>?_
     simp(disch:=omega) only[wrap64,go_sem]
     exact goJ (hJ5 oD HD (wD.cast (by simp[tL,tPb,hps]))) (by simp(disch:=omega) only[go_sem])
    ·have hp0':((0:Int)<(fps.length:Int))=True:=eq_true (by omega)
     have hps:=hp0
     rw[if_neg hp0] at hfl2
     simp only[Al2,Al5,Al3] at hfl2
     simp(disch:=omega) only[hb8,hpl,hp0',go_sem]
     refine zm (pR [40]) w8 (by simp only[Al2,Al3,Al5];omega) fun o9 H9 w9 s9=>?_
     have hb9:=s9.box w8.here.own hb8 hbw
     simp(disch:=omega) only[hb9,go_sem]
     refine zm (Ym fps hwl.1 hrx.2.1 (by simp only[Lim];omega)) w9 (by simp only[Al2,Al3,Al5];omega) fun oE HE wE sE=>?_
     have hbE:=sE.box w9.here.own hb9 hbw
     simp(disch:=omega) only[hbE,go_sem]
     refine zm (pR [41]) wE (by simp only[Al2,Al3,Al5];omega) fun oF HF wF sF=>?_
     have hbF:=sF.box wE.here.own hbE hbw
     simp(disch:=omega) only[hbF,go_sem]
     refine zm (pR [58]) wF (by simp only[Al2,Al3,Al5];omega) fun oB HB wB sB=>?_
     have hbB:=sB.box wF.here.own hbF hbw
     simp(disch:=omega) only[hbB,go_sem]
     refine zm (show VC _ [.agg [.str tn,.int .i64 tl,.int .i64 tm]] (tTy ⟨tn,tl,tm⟩) from zbm ⟨tn,tl,tm⟩ hty) wB (by simp only[Al2,Al3,Al5];omega) fun oC HC wC sC=>?_
     have hbC:=sC.box wB.here.own hbB hbw
     simp(disch:=omega) only[hbC,go_sem]
     refine zm (za4 dirs hwl.2.2.2 (by simp only[Lim];omega)) wC (by simp only[Al2,Al3,Al5];omega) fun oD HD wD sD=>?_
     simp(disch:=omega) only[wrap64,go_sem]
     exact goJ (hJ5 oD HD (wD.cast (by simp[tL,tPb,hps]))) (by simp(disch:=omega) only[go_sem])
theorem zfK (x:DefD) (hk:x.k=3) (hr:zr x=true) (hm:16*bE x≤Lim):VC 68 [.agg (cE x)] (tE x):=by
 intro H w o l h hb
 simp only[zr,Al0] at hr
 obtain⟨_,hr⟩:=hr
 rw[if_neg (by omega),if_pos hk] at hr
 simp only[Al0,zp] at hr
 obtain⟨_,_,hf0,_,_⟩:=hr
 have eT:tE x=wk [117,110,105,111,110]::wk x.nm::pk [61]::tNs [124] x.parts:=by simp only[tE];rw[if_neg (by omega),if_pos hk]
 rw[eT] at hb ⊢
 obtain⟨k,nm,faces,flds,parts,ps⟩:=x
 simp only at hk hf0 hb ⊢
 subst hk
 have hm':=hm
 simp only[bE,Lim] at hm'
 have hac:=zA faces
 simp only[Al2] at hb
 rw[ZE]
 refine ACalls.go ir68 ck68 (Al4 _) fun KP Q hQ=>?_
 have w0:=VR.refl h
 have hf1:¬ ((0:Int)<(faces.length:Int)):=by omega
 simp(disch:=omega) only[ir68,Al2,Al3,List.getD_cons_zero,List.getD_cons_succ,go_sem]
 refine zm (wR [117,110,105,111,110]) w0 (by simp only[Al2,Al3];omega) fun o1 H1 w1 s1=>?_
 simp(disch:=omega) only[go_sem]
 refine zm (wR nm) w1 (by simp only[Al2,Al3,Al5];omega) fun o2 H2 w2 s2=>?_
 simp(disch:=omega) only[hac,hf1,go_sem]
 refine zm (pR [61]) w2 (by simp only[Al2,Al3,Al5];omega) fun o3 H3 w3 s3=>?_
 simp(disch:=omega) only[go_sem]
 have hns:nsT [124] parts=tNs [124] parts:=rfl
 refine zm (zab [124] parts (by simp only[Lim];omega)) w3 (by rw[hns];simp only[Al2,Al3,Al5];omega) fun o4 H4 w4 s4=>?_
 simp(disch:=omega) only[go_sem]
 exact hQ _ _ H4 H4 [] nofun rfl (Low.refl _) ⟨rfl,o4,w4.cast (by rw[hns];simp)⟩
theorem zeV (x:DefD) (hwx:wfE x) (hr:zr x=true) (hm:16*bE x≤Lim):VC 68 [.agg (cE x)] (tE x):=by
 by_cases k1:x.k=1
 ·rw[zeS hr (.inl k1),if_pos k1];exact zcP _ x (.inl ⟨k1,rfl⟩) hwx hr hm
 by_cases k2:x.k=2
 ·rw[zeS hr (.inr k2),if_neg k1];exact zcP _ x (.inr (.inl ⟨k2,rfl⟩)) hwx hr hm
 by_cases k3:x.k=3
 ·exact zfK x k3 hr hm
 by_cases k4:x.k=4
 ·rw[zfM hr k4];exact zcP _ x (.inr (.inr (.inl ⟨k4,rfl⟩))) hwx hr hm
 by_cases k5:x.k=5
 ·rw[zfP hr k5];exact zcP _ x (.inr (.inr (.inr ⟨k5,rfl⟩))) hwx hr hm
 ·simp only[zr,Al0] at hr
  obtain⟨_,hr⟩:=hr
  rw[if_neg (by omega),if_neg k3,if_neg k4,if_neg k5] at hr
  cases hr
theorem zbw (m:List (List UInt8)) (hm:bT m≤Lim):Pure Tryz.prog 142 [.sl .no 1 (cT m)] (.bool (m.all zj)):=by
 refine Pure.go ir142 ck142 (Al4 _) fun KP Q hQ=>?_
 have hcl:=zA m
 have hml:=yp m
 have hm':=hm
 simp only[Lim] at hm'
 simp(disch:=omega) only[ir142,go_sem]
 refine goL_range m 3 (fun _:Unit=>[]) (fun done rest _ H=>m.all zj=rest.all zj) () (by simp(disch:=omega) only[go_sem]) rfl ?_ ?_
 ·rintro _ H J hx hlt
  have e:m.all zj=true:=hx
  simp(disch:=omega) only[hcl,hlt,go_sem]
  exact hQ _ _ _ _ nofun rfl (by simp[tupOf,envOf,AV.strip,AV.strip1,e])
 ·rintro done x rest _ H J hd hlt hlt2 hx hJ
  have hg:=Zt hd
  have hbm:=Yy done x rest
  rw[← hd] at hbm
  have hst:m.all zj=(zj x&&rest.all zj):=by rw[hx];rfl
  simp(disch:=omega) only[hcl,hlt,hg,go_sem]
  refine goK_pure (Zp x (by simp only[Lim];omega)) ?_
  cases hn:zj x with
  | false =>
   simp(disch:=omega) only[go_sem]
   exact hQ _ _ _ _ nofun rfl (by simp[tupOf,envOf,AV.strip,AV.strip1,hst,hn])
  | true =>
   simp(disch:=omega) only[wrap64,go_sem]
   exact goJ (hJ () _ (by rw[hst,hn,Bool.true_and])) (by simp(disch:=omega) only[go_sem])
theorem zbn (m:List VarD) (hm:bWs m≤Lim):Pure Tryz.prog 144 [.sl .no 10 (cWs m)] (.bool (m.all zM)):=by
 refine Pure.go ir144 ck144 (Al4 _) fun KP Q hQ=>?_
 have hcl:=yl m
 have hml:=yD m
 have hm':=hm
 simp only[Lim] at hm'
 simp(disch:=omega) only[ir144,go_sem]
 refine goL_range m 3 (fun _:Unit=>[]) (fun done rest _ H=>m.all zM=rest.all zM) () (by simp(disch:=omega) only[go_sem]) rfl ?_ ?_
 ·rintro _ H J hx hlt
  have e:m.all zM=true:=hx
  simp(disch:=omega) only[hcl,hlt,go_sem]
  exact hQ _ _ _ _ nofun rfl (by simp[tupOf,envOf,AV.strip,AV.strip1,e])
 ·rintro done x rest _ H J hd hlt hlt2 hx hJ
  have hg:=Yk hd
  have hbm:=Yv done x rest
  rw[← hd] at hbm
  have hst:m.all zM=(zM x&&rest.all zM):=by rw[hx];rfl
  obtain⟨vn,⟨tn,tl,tm⟩,vh,vd⟩:=x
  have hbx:bW ⟨vn,⟨tn,tl,tm⟩,vh,vd⟩=vn.length+tn.length+bV vd:=rfl
  have hrw:zM ⟨vn,⟨tn,tl,tm⟩,vh,vd⟩=(zj vn&&(zt ⟨tn,tl,tm⟩&&Z0 vh vd)):=rfl
  rw[zaJ] at hg
  simp only at hg
  simp(disch:=omega) only[zf,zc,za,ze,zd,zb,zi,hcl,hlt,hg,go_sem]
  refine goK_pure (Zp vn (by simp only[Lim];omega)) ?_
  cases hn:zj vn with
  | false =>
   simp(disch:=omega) only[go_sem]
   exact hQ _ _ _ _ nofun rfl (by simp[tupOf,envOf,AV.strip,AV.strip1,hst,hrw,hn])
  | true =>
   simp(disch:=omega) only[zf,zc,za,ze,zd,zb,zi,hcl,hlt,hg,go_sem]
   refine goK_pure (show Pure Tryz.prog 191 [.agg [.str tn,.int .i64 tl,.int .i64 tm]] (.bool (zt ⟨tn,tl,tm⟩)) from zbX ⟨tn,tl,tm⟩ (by simp only[Lim];omega)) ?_
   cases ht:zt ⟨tn,tl,tm⟩ with
   | false =>
    simp(disch:=omega) only[go_sem]
    exact hQ _ _ _ _ nofun rfl (by simp[tupOf,envOf,AV.strip,AV.strip1,hst,hrw,hn,ht])
   | true =>
    simp(disch:=omega) only[zf,zc,za,ze,zd,zb,zi,hcl,hlt,hg,go_sem]
    refine goK_pure (zdC vh vd (by simp only[Lim];omega)) ?_
    cases hdf:Z0 vh vd with
    | false =>
     simp(disch:=omega) only[go_sem]
     exact hQ _ _ _ _ nofun rfl (by simp[tupOf,envOf,AV.strip,AV.strip1,hst,hrw,hn,ht,hdf])
    | true =>
     simp(disch:=omega) only[wrap64,go_sem]
     exact goJ (hJ () _ (by rw[hst,hrw,hn,ht,hdf];rfl)) (by simp(disch:=omega) only[go_sem])
theorem zd4 (m:List FldD) (hm:bLs m≤Lim):Pure Tryz.prog 143 [.sl .no 6 (cLs m)] (.bool (m.all zR)):=by
 refine Pure.go ir143 ck143 (Al4 _) fun KP Q hQ=>?_
 have hcl:=yB m
 have hml:=yN m
 have hm':=hm
 simp only[Lim] at hm'
 simp(disch:=omega) only[ir143,go_sem]
 refine goL_range m 3 (fun _:Unit=>[]) (fun done rest _ H=>m.all zR=rest.all zR) () (by simp(disch:=omega) only[go_sem]) rfl ?_ ?_
 ·rintro _ H J hx hlt
  have e:m.all zR=true:=hx
  simp(disch:=omega) only[hcl,hlt,go_sem]
  exact hQ _ _ _ _ nofun rfl (by simp[tupOf,envOf,AV.strip,AV.strip1,e])
 ·rintro done x rest _ H J hd hlt hlt2 hx hJ
  have hg:=Zw hd
  have hbm:=Zu done x rest
  rw[← hd] at hbm
  have hst:m.all zR=(zR x&&rest.all zR):=by rw[hx];rfl
  obtain⟨fn,ps,⟨tn,tl,tm⟩,dirs⟩:=x
  simp only[bL] at hbm
  have hrw:zR ⟨fn,ps,⟨tn,tl,tm⟩,dirs⟩=(zj fn&&(ps.all zM&&(zt ⟨tn,tl,tm⟩&&z1 0 true dirs))):=rfl
  rw[YW] at hg
  simp(disch:=omega) only[hcl,hlt,hg,go_sem]
  refine goK_pure (Zp fn (by simp only[Lim];omega)) ?_
  cases hn:zj fn with
  | false =>
   simp(disch:=omega) only[go_sem]
   exact hQ _ _ _ _ nofun rfl (by simp[tupOf,envOf,AV.strip,AV.strip1,hst,hrw,hn])
  | true =>
   simp(disch:=omega) only[hcl,hlt,hg,go_sem]
   refine goK_pure (zbn ps (by simp only[Lim];omega)) ?_
   cases hp:ps.all zM with
   | false =>
    simp(disch:=omega) only[go_sem]
    exact hQ _ _ _ _ nofun rfl (by simp[tupOf,envOf,AV.strip,AV.strip1,hst,hrw,hn,hp])
   | true =>
    simp(disch:=omega) only[hcl,hlt,hg,go_sem]
    refine goK_pure (show Pure Tryz.prog 191 [.agg [.str tn,.int .i64 tl,.int .i64 tm]] (.bool (zt ⟨tn,tl,tm⟩)) from zbX ⟨tn,tl,tm⟩ (by simp only[Lim];omega)) ?_
    cases ht:zt ⟨tn,tl,tm⟩ with
    | false =>
     simp(disch:=omega) only[go_sem]
     exact hQ _ _ _ _ nofun rfl (by simp[tupOf,envOf,AV.strip,AV.strip1,hst,hrw,hn,hp,ht])
    | true =>
     simp(disch:=omega) only[hcl,hlt,hg,go_sem]
     refine goK_pure (zdF dirs (by simp only[Lim];omega) 0 (by omega) (by omega) true) ?_
     cases hdf:z1 0 true dirs with
     | false =>
      simp(disch:=omega) only[go_sem]
      exact hQ _ _ _ _ nofun rfl (by simp[tupOf,envOf,AV.strip,AV.strip1,hst,hrw,hn,hp,ht,hdf])
     | true =>
      simp(disch:=omega) only[wrap64,go_sem]
      exact goJ (hJ () _ (by rw[hst,hrw,hn,hp,ht,hdf];rfl)) (by simp(disch:=omega) only[go_sem])
end Go.Proofs.YtaielcdfcgpbiaaGreatDoor
set_option maxHeartbeats 1600000
namespace Go.Proofs.YtaielcdfcgpbiaaGreatDoor
open Go.Ab
noncomputable def Z5 (x:DefD):Bool:=zj x.nm&&(x.faces.all zj&&(x.flds.all zR&&(x.parts.all zj&&x.ps.all zM)))
theorem zci {x:DefD} (h:zr x=true):Z5 x=true:=by
 have hp:=zaS h
 have nil:∀ {α:Type} {p:α→Bool} {l:List α},l.length=0→l.all p=true:=fun e=>by rw[y5.1 e];rfl
 simp only[Z5,Al0]
 simp only[zr,Al0] at h
 obtain⟨h0,h⟩:=h
 refine⟨h0,?_,hp.2,?_,hp.1⟩
 ·split at h
  ·simp only[Al0] at h;exact h.1
  split at h
  ·simp only[Al0,zp] at h;exact nil h.2.2.1
  split at h
  ·simp only[Al0,zp] at h;exact nil h.2.2.1
  split at h
  ·simp only[Al0,zp] at h;exact nil h.2.2.1
  ·cases h
 ·split at h
  ·simp only[Al0,zp] at h;exact nil h.2.2.2.1
  split at h
  ·simp only[Al0,zp] at h;exact h.1
  split at h
  ·simp only[Al0,zp] at h;exact h.1.1
  split at h
  ·simp only[Al0,zp] at h;exact nil h.2.2.2.2
  ·cases h
def YC (f:FuncId) (args:List AV) (B W:Nat) (lo hi:Int) (r:Int→Bool) (tk:List Tok):Prop :=
 ∀(H:Heap) (w:Nat) (o:Own) (l:List Tok) (ok:Bool) (dp:Int),WAt H w o l ok dp→lo≤dp→dp≤hi→l.length+B≤Lim →
  ACalls Tryz.prog f (.ptr w 0::args) H (zdW fun v H'=>v=.tup []∧∃ o' l',WAt H' w o' l' (ok&&r dp) dp∧WStep H o w H' o'∧l'.length≤l.length+B∧((ok&&r dp)=true→l'=l++tk)∧wT l'≤wT l+W)
structure YR (H0:Heap) (o0:Own) (w:Nat) (l0:List Tok) (ok0:Bool) (dp:Int) (B W:Nat) (r:Bool) (tk:List Tok) (H:Heap) (o:Own) (l:List Tok):Prop where
 here:WAt H w o l (ok0&&r) dp
 st:WStep H0 o0 w H o
 len:l.length≤l0.length+B
 eq:(ok0&&r)=true→l=l0++tk
 wt:wT l≤wT l0+W
theorem YR.refl {H:Heap} {o:Own} {w:Nat} {l:List Tok} {ok:Bool} {dp:Int} (h:WAt H w o l ok dp):YR H o w l ok dp 0 0 true [] H o l :=
 ⟨by rw[Bool.and_true];exact h,.refl _ _ _,Al4 _,fun _=>by simp,Al4 _⟩
theorem YR.alloc {H0 H:Heap} {o0 o:Own} {w b B W:Nat} {l0 l tk:List Tok} {ok0 r:Bool} {dp:Int} {x:AObj} (h:YR H0 o0 w l0 ok0 dp B W r tk H o l) (hb:H b=none):YR H0 o0 w l0 ok0 dp B W r tk (H.upd b x) o l :=
 ⟨h.here.alloc hb,h.st.alloc hb,h.len,h.eq,h.wt⟩
theorem YR.fin {H0 H:Heap} {o0 o:Own} {w B B' W W':Nat} {l0 l tk tk':List Tok} {ok0 r r':Bool} {dp:Int} (h:YR H0 o0 w l0 ok0 dp B W r tk H o l) (hr:r=r') (ht:r'=true→tk=tk') (hB:B≤B') (hW:W≤W') :
  ∃ o' l',WAt H w o' l' (ok0&&r') dp∧WStep H0 o0 w H o'∧l'.length≤l0.length+B'∧((ok0&&r')=true→l'=l0++tk')∧wT l'≤wT l0+W':=by
 subst hr
 refine⟨o,l,h.here,h.st,by have:=h.len;omega,fun e=>?_,by have:=h.wt;omega⟩
 rw[h.eq e,ht (by simp only[Al0] at e;exact e.2)]
theorem YR.cast {H0 H:Heap} {o0 o:Own} {w B B' W W':Nat} {l0 l tk tk':List Tok} {ok0 r r':Bool} {dp:Int} (h:YR H0 o0 w l0 ok0 dp B W r tk H o l) (hB:B≤B') (hW:W≤W') (hr:r=r') (ht:tk=tk'):YR H0 o0 w l0 ok0 dp B' W' r' tk' H o l:=by
 subst hr;subst ht
 exact⟨h.here,h.st,by have:=h.len;omega,h.eq,by have:=h.wt;omega⟩
theorem YR.castC {H0 H:Heap} {o0 o:Own} {w B B' W W':Nat} {l0 l tk tk':List Tok} {ok0 r r':Bool} {dp:Int} (h:YR H0 o0 w l0 ok0 dp B W r tk H o l) (hB:B≤B') (hW:W≤W') (hr:r=r') (ht:r'=true→tk=tk'):YR H0 o0 w l0 ok0 dp B' W' r' tk' H o l:=by
 subst hr
 exact⟨h.here,h.st,by have:=h.len;omega,fun e=>by rw[h.eq e,ht (by simp only[Al0] at e;exact e.2)],by have:=h.wt;omega⟩
theorem YR.after {H0 H1 H:Heap} {o0 o1 o:Own} {w B W:Nat} {l0 l tk:List Tok} {ok0 r:Bool} {dp:Int} (h:YR H1 o1 w l0 ok0 dp B W r tk H o l) (hs:WStep H0 o0 w H1 o1) {x:AObj} (hw:H1 w=some x):YR H0 o0 w l0 ok0 dp B W r tk H o l :=
 ⟨h.here,hs.trans hw h.st,h.len,h.eq,h.wt⟩
section
variable {KP:AV→Heap→Prop} {Q:AExit→Env→Heap→Prop} {st:List Fr} {ρ:Env} {H:Heap} {all items:List AItem} {d:Option Nat} {R:List Chk}
theorem ZI {f:FuncId} {args:List AV} {B W:Nat} {lo hi:Int} {r:Int→Bool} {tk:List Tok} (hc:YC f args B W lo hi r tk) {w:Nat} {o:Own} {l:List Tok} {ok:Bool} {dp:Int} (h:WAt H w o l ok dp) (h0:lo≤dp) (h1:dp≤hi) (hb:l.length+B≤Lim)
  (k:∀ o' l' H',WAt H' w o' l' (ok&&r dp) dp→WStep H o w H' o'→l'.length≤l.length+B→((ok&&r dp)=true→l'=l++tk)→wT l'≤wT l+W→goR Tryz.prog KP Q all items st R (ρ.set d (.tup [])) H') :
  goK Tryz.prog KP Q all items st d R ρ f (.ptr w 0::args) H:=by
 refine goK_ret (hc H w o l ok dp h h0 h1 hb) fun v H' ⟨hv,o',l',h2,h3,h4,h5,h6⟩=>?_
 subst hv
 exact k o' l' H' h2 h3 h4 h5 h6
theorem zg {f:FuncId} {args:List AV} {B' W':Nat} {lo hi:Int} {r':Int→Bool} {tk':List Tok} (hc:YC f args B' W' lo hi r' tk') {H0:Heap} {o0 o:Own} {w B W:Nat} {l0 l tk:List Tok} {ok0 r:Bool} {dp:Int} (h:YR H0 o0 w l0 ok0 dp B W r tk H o l) (h0:lo≤dp) (h1:dp≤hi)
  (hb:l0.length+(B+B')≤Lim) (k:∀ o' l' H',YR H0 o0 w l0 ok0 dp (B+B') (W+W') (r&&r' dp) (tk++tk') H' o' l'→WStep H o w H' o'→goR Tryz.prog KP Q all items st R (ρ.set d (.tup [])) H') :
  goK Tryz.prog KP Q all items st d R ρ f (.ptr w 0::args) H:=by
 have hlen:=h.len
 have hwt:=h.wt
 refine ZI hc h.here h0 h1 (by omega) fun o' l' H' h2 h3 h4 h5 h6=>k o' l' H' ⟨by rw[← zY];exact h2,h.st.trans h.here.cell h3,by omega,fun e=>?_,by omega⟩ h3
 rw[← zY] at e
 rw[h5 e,h.eq (by simp only[Al0] at e ⊢;exact e.1),zay]
end
theorem zQ (b:Bool):YC 165 [.bool b] 0 0 (-1000) 1000 (fun _=>b) []:=by
 intro H w o l ok dp h h0 h1 hb
 refine ACalls.go ir165 ck165 (Al4 _) fun KP Q hQ=>?_
 have hc:=h.cell
 cases ok
 ·simp(disch:=omega) only[ir165,hc,go_sem]
  exact hQ _ _ _ _ [] nofun rfl (Low.refl _) ⟨rfl,o,l,h.put,(WStep.refl ..).upd,by simp,(fun _=>by simp),Al4 _⟩
 ·simp(disch:=omega) only[ir165,hc,go_sem]
  exact hQ _ _ _ _ [] nofun rfl (Low.refl _) ⟨rfl,o,l,by rw[Bool.true_and];exact h.put,(WStep.refl ..).upd,by simp,(fun _=>by simp),Al4 _⟩
theorem zz (s:List UInt8) (hs:s.length≤Lim):YC 112 [.str s] 1 (s.length+4) (-1000) 1000 (fun _=>zj s) [wk s]:=by
 intro H w o l ok dp h h0 h1 hb
 refine ACalls.go ir112 ck112 (Al4 _) fun KP Q hQ=>?_
 have hkl:=zu l
 simp only[Lim] at hb
 simp(disch:=omega) only[ir112,go_sem]
 refine goK_pure (zaV s hs) ?_
 simp(disch:=omega) only[go_sem]
 refine ZI (zQ _) h h0 h1 (by simp only[Lim];omega) fun o1 l1 H1 h2 h3 h4 h5 h6=>?_
 have hkl1:=zu l1
 have hc:=h2.cell
 simp(disch:=omega) only[hc,go_sem]
 refine goP_ownS (by rw[hkl1];exact h2.own) (by simp only[hkl1,Al2,Al3];omega) (by simp only[hkl1,Al2,Al3,maxLen];omega) fun o2 H2 hs2=>?_
 obtain⟨g1,g2,g3⟩:=h2.app (ts:=[wk s]) hs2 (by simp[hkl1])
 have ek:cKs l1++[[AV.int .i64 2,AV.str s]]=cKs (l1++[wk s]):=yU l1 (wk s)
 simp(disch:=omega) only[g1,ek,go_sem]
 exact hQ _ _ _ _ [] nofun rfl (Low.refl _) ⟨rfl,o2,l1++[wk s],g2,h3.trans h2.cell g3,by simp;omega,(fun e=>by rw[h5 e];simp),by simp only[yh,zF,yG,Zc];omega⟩
theorem zE (m:List UInt8) (o9:Own):YC 113 [.sl o9 1 [[.str m]]] 1 (m.length+4) (-1000) 1000 (fun _=>true) [pk m]:=by
 intro H w o l ok dp h h0 h1 hb
 refine ACalls.go ir113 ck113 (Al4 _) fun KP Q hQ=>?_
 simp only[Lim] at hb
 simp(disch:=omega) only[ir113,go_sem]
 refine goL_range [m] 8 (fun x:Own×List Tok=>[]) (fun done rest x H'=>WAt H' w x.1 x.2 ok dp∧WStep H o w H' x.1∧x.2=l++done.map pk) (o,l) (by simp(disch:=omega) only[go_sem]) ⟨h,.refl _ _ _,by simp⟩ ?_ ?_
 ·rintro⟨o1,l1⟩ H1 J ⟨h2,h3,h4⟩ hlt
  simp only at h2 h3 h4
  simp(disch:=omega) only[go_sem]
  refine hQ _ _ H1 H1 [] nofun rfl (Low.refl _) ⟨rfl,o1,l1,by simpa using h2,h3,by rw[h4];simp,(fun _=>by rw[h4];simp),by rw[h4];simp only[List.map_cons,List.map_nil,yh,zF,yG,yS];omega⟩
 ·rintro done x rest ⟨o1,l1⟩ H1 J hd hlt hlt2 ⟨h2,h3,h4⟩ hJ
  simp only at h2 h3 h4
  have hl1:l1.length≤l.length+1:=by rw[h4];simp only[Al5,List.length_map];have:=congrArg List.length hd;simp at this;omega
  have hg:([[AV.str m]]:List (List AV)).getD done.length []=[.str x]:=by
   have:([m].map fun k=>[AV.str k]).getD done.length []=[.str x]:=getD_mid' hd
   exact this
  have hkl1:=zu l1
  have hc:=h2.cell
  have hlt1:((done.length:Int)<1)=True:=eq_true (by simpa using hlt)
  have hdl:done.length<1:=by simpa using hlt2
  simp(disch:=omega) only[hlt1,hg,hc,go_sem]
  refine goP_ownS (by rw[hkl1];exact h2.own) (by simp only[hkl1,Al2,Al3];omega) (by simp only[hkl1,Al2,Al3,maxLen];omega) fun o2 H2 hs2=>?_
  obtain⟨g1,g2,g3⟩:=h2.app (ts:=[pk x]) hs2 (by simp[hkl1])
  have ek:cKs l1++[[AV.int .i64 1,AV.str x]]=cKs (l1++[pk x]):=yU l1 (pk x)
  simp(disch:=omega) only[g1,ek,wrap64,go_sem]
  exact goJ (hJ (o2,l1++[pk x]) _ ⟨g2,h3.trans h2.cell g3,by rw[h4];simp⟩) (by simp(disch:=omega) only[go_sem])
theorem zdy (v:Val) (hw:wfV v) (hv:4*bV v≤Lim) (fixed:Bool):YC 245 [.agg (cV v),.bool fixed] (4*bV v) (64*bV v) 0 32 (fun dp=>zB dp fixed v) (zH v):=by
 intro H w o l ok dp h h0 h1 hb
 have hvb:bV v≤Lim:=by simp only[Lim] at hv ⊢;omega
 have htl:(Zo v).length≤4*bV v:=by
  have:=ZW v
  rw[YA];split
  ·omega
  ·simp
 have hwl:wT (Zo v)≤64*bV v:=by
  have:=zcC v hw
  rw[YA];split
  ·omega
  ·simp[wT]
 have hkt:=zu (Zo v)
 have hdv:=Z2 v
 have hvl:=ZQ v []
 have hcv:=zA (zy v [])
 simp only[Lim] at hb hv
 refine ACalls.go ir245 ck245 (Al4 _) fun KP Q hQ=>?_
 have hc:=h.cell
 have fin:∀(b:Bool),b=zB dp fixed v→∀(H2:Heap) (o2:Own) (l2:List Tok),WAt H2 w o2 l2 (ok&&b) dp→WStep H o w H2 o2→l2.length≤l.length+0→((ok&&b)=true→l2=l++[])→wT l2≤wT l+0 →
   ∀(H3:Heap) (o3:Own),OwnS H2 o2 H3 o3 ((cKs l2).length+(cKs (Zo v)).length) 2 →
   H3 w=some (.cells [.sl o2 2 (cKs l2),.bool (ok&&b),.int .i64 dp])∧∃ o' l',WAt (H3.upd w (.cells [.sl o3 2 (cKs l2++cKs (Zo v)),.bool (ok&&b),.int .i64 dp])) w o' l' (ok&&zB dp fixed v) dp ∧
    WStep H o w (H3.upd w (.cells [.sl o3 2 (cKs l2++cKs (Zo v)),.bool (ok&&b),.int .i64 dp])) o'∧l'.length≤l.length+4*bV v∧((ok&&zB dp fixed v)=true→l'=l++zH v)∧wT l'≤wT l+64*bV v:=by
  intro b hbr H2 o2 l2 h2 h3 h4 h5 h6 H3 o3 hs
  obtain⟨g1,g2,g3⟩:=h2.app (ts:=Zo v) hs (by simp[zu])
  rw[Ye] at g2 g3
  refine⟨g1,o3,l2++Zo v,by rw[← hbr];exact g2,h3.trans h2.cell g3,by simp only[Al5];omega,fun e=>?_,by simp only[yh];omega⟩
  rw[← hbr] at e
  have er:zB dp fixed v=true:=by rw[← hbr];simp only[Al0] at e;exact e.2
  have ep:yt v=true:=by simp only[zB,Al0] at er;exact er.1
  rw[h5 e,YA,ep];simp
 have d1:IntKind.wrap .i64 (dp+zJ v)=dp+zJ v:=wrap64 (by omega) (by omega)
 cases hp:yt v with
 | false =>
  have hbr:false=zB dp fixed v:=by simp[zB,hp]
  simp(disch:=omega) only[zf,zc,za,ze,zd,zb,zi,ir245,go_sem]
  refine goK_pure (zaa v hw hv) ?_
  simp(disch:=omega) only[hp,go_sem]
  refine ZI (zQ _) h (by omega) (by omega) (by simp only[Lim];omega) fun o2 l2 H2 h2 h3 h4 h5 h6=>?_
  have hk2:=zu l2
  have hc2:=h2.cell
  simp(disch:=omega) only[hc2,go_sem]
  refine goP_ownS (by rw[hk2];exact h2.own) (by rw[hk2,hkt];omega) (by rw[hk2,hkt];simp only[maxLen];omega) fun o3 H3 hs3=>?_
  obtain⟨g1,g2⟩:=fin _ hbr H2 o2 l2 h2 h3 h4 h5 h6 H3 o3 hs3
  simp(disch:=omega) only[g1,yv,go_sem]
  exact hQ _ _ _ _ [] nofun rfl (Low.refl _) ⟨rfl,g2⟩
 | true =>
  by_cases hd:dp+zJ v≤16
  case neg =>
   have hbr:false=zB dp fixed v:=by simp[zB,hd]
   simp(disch:=omega) only[zf,zc,za,ze,zd,zb,zi,ir245,go_sem]
   refine goK_pure (zaa v hw hv) ?_
   simp(disch:=omega) only[zf,zc,za,ze,zd,zb,zi,hp,hc,go_sem]
   refine goK_pure (za2 v hvb) ?_
   simp(disch:=omega) only[zf,zc,za,ze,zd,zb,zi,d1,hd,hc,go_sem]
   refine ZI (zQ _) h (by omega) (by omega) (by simp only[Lim];omega) fun o2 l2 H2 h2 h3 h4 h5 h6=>?_
   have hk2:=zu l2
   have hc2:=h2.cell
   simp(disch:=omega) only[hc2,go_sem]
   refine goP_ownS (by rw[hk2];exact h2.own) (by rw[hk2,hkt];omega) (by rw[hk2,hkt];simp only[maxLen];omega) fun o3 H3 hs3=>?_
   obtain⟨g1,g2⟩:=fin _ hbr H2 o2 l2 h2 h3 h4 h5 h6 H3 o3 hs3
   simp(disch:=omega) only[g1,yv,go_sem]
   exact hQ _ _ _ _ [] nofun rfl (Low.refl _) ⟨rfl,g2⟩
  cases fixed with
  | false =>
   have hbr:true=zB dp false v:=by simp[zB,hd,hp]
   simp(disch:=omega) only[zf,zc,za,ze,zd,zb,zi,ir245,go_sem]
   refine goK_pure (zaa v hw hv) ?_
   simp(disch:=omega) only[zf,zc,za,ze,zd,zb,zi,hp,hc,go_sem]
   refine goK_pure (za2 v hvb) ?_
   simp(disch:=omega) only[zf,zc,za,ze,zd,zb,zi,d1,hd,hc,go_sem]
   refine ZI (zQ _) h (by omega) (by omega) (by simp only[Lim];omega) fun o2 l2 H2 h2 h3 h4 h5 h6=>?_
   have hk2:=zu l2
   have hc2:=h2.cell
   simp(disch:=omega) only[hc2,go_sem]
   refine goP_ownS (by rw[hk2];exact h2.own) (by rw[hk2,hkt];omega) (by rw[hk2,hkt];simp only[maxLen];omega) fun o3 H3 hs3=>?_
   obtain⟨g1,g2⟩:=fin _ hbr H2 o2 l2 h2 h3 h4 h5 h6 H3 o3 hs3
   simp(disch:=omega) only[g1,yv,go_sem]
   exact hQ _ _ _ _ [] nofun rfl (Low.refl _) ⟨rfl,g2⟩
  | true =>
   simp(disch:=omega) only[zf,zc,za,ze,zd,zb,zi,ir245,go_sem]
   refine goK_pure (zaa v hw hv) ?_
   simp(disch:=omega) only[zf,zc,za,ze,zd,zb,zi,hp,hc,go_sem]
   refine goK_pure (za2 v hvb) ?_
   simp(disch:=omega) only[zf,zc,za,ze,zd,zb,zi,d1,hd,hc,go_sem]
   refine goK_pure (zfi v hvb) ?_
   by_cases hz:(zy v []).length=0
   ·have hbr:true=zB dp true v:=by simp[zB,hd,hp,hz]
    have hz':¬ ((0:Int)<(zy v []).length):=by omega
    simp(disch:=omega) only[zf,zc,za,ze,zd,zb,zi,hcv,hz',go_sem]
    refine ZI (zQ _) h (by omega) (by omega) (by simp only[Lim];omega) fun o2 l2 H2 h2 h3 h4 h5 h6=>?_
    have hk2:=zu l2
    have hc2:=h2.cell
    simp(disch:=omega) only[hc2,go_sem]
    refine goP_ownS (by rw[hk2];exact h2.own) (by rw[hk2,hkt];omega) (by rw[hk2,hkt];simp only[maxLen];omega) fun o3 H3 hs3=>?_
    obtain⟨g1,g2⟩:=fin _ hbr H2 o2 l2 h2 h3 h4 h5 h6 H3 o3 hs3
    simp(disch:=omega) only[g1,yv,go_sem]
    exact hQ _ _ _ _ [] nofun rfl (Low.refl _) ⟨rfl,g2⟩
   ·have hbr:false=zB dp true v:=by simp[zB,hd,hp,hz]
    have hz':((0:Int)<(zy v []).length)=True:=eq_true (by omega)
    simp(disch:=omega) only[zf,zc,za,ze,zd,zb,zi,hcv,hz',go_sem]
    refine ZI (zQ _) h (by omega) (by omega) (by simp only[Lim];omega) fun o2 l2 H2 h2 h3 h4 h5 h6=>?_
    have hk2:=zu l2
    have hc2:=h2.cell
    simp(disch:=omega) only[hc2,go_sem]
    refine goP_ownS (by rw[hk2];exact h2.own) (by rw[hk2,hkt];omega) (by rw[hk2,hkt];simp only[maxLen];omega) fun o3 H3 hs3=>?_
    obtain⟨g1,g2⟩:=fin _ hbr H2 o2 l2 h2 h3 h4 h5 h6 H3 o3 hs3
    simp(disch:=omega) only[g1,yv,go_sem]
    exact hQ _ _ _ _ [] nofun rfl (Low.refl _) ⟨rfl,g2⟩
theorem zdn (t:TyD) (hs:t.nm.length≤Lim):YC 210 [.agg (cTy t)] 20 (200+t.nm.length) (-1000) 1000 (fun _=>zt t) (tTy t):=by
 intro H w o l ok dp h h0 h1 hb
 have hb0:=hb
 simp only[Lim] at hb
 refine ACalls.go ir210 ck210 (Al4 _) fun KP Q hQ=>?_
 obtain⟨nm,ls,ms⟩:=t
 simp only at hs
 have et:cTy ⟨nm,ls,ms⟩=[.str nm,.int .i64 ls,.int .i64 ms]:=rfl
 simp(disch:=omega) only[ir210,et,steps,st2,pev,rev,oev,optr,ibin,sbin,ishf,bound,mmAll,mm2,mk,mkArgs,AV.cells,AV.boxable,AV.one,AV.strip1,fillA,fillS,Nat.reduceEqDiff,reduceCtorEq,↓reduceIte,Nat.reduceAdd,Int.reduceNeg,Nat.reduceLeDiff,Int.reduceToNat,Int.reduceEq,Int.reduceLT,Int.reduceLE,Int.reduceAdd,Io,Im,If,Il,Jt,Jf,AC.rg,Jm,Jl,Ja,Fm,Fl,Fa,Imv,Imb,Iai,Iei,Igi,Isi,Ipf,Ipt,Ilb,Iia,Ilt,Iap,Ink,Iln,Ils,Iad,Iex,Ibx,Ing]
 refine goK_pure (show Pure Tryz.prog 243 [.agg [.str nm,.int .i64 ls,.int .i64 ms]] (.bool (zt ⟨nm,ls,ms⟩)) from zdM ⟨nm,ls,ms⟩ hs) ?_
 simp(disch:=omega) only[steps,st2,pev,rev,oev,optr,ibin,sbin,ishf,bound,mmAll,mm2,mk,mkArgs,AV.cells,AV.boxable,AV.one,AV.strip1,fillA,fillS,Nat.reduceEqDiff,reduceCtorEq,↓reduceIte,Nat.reduceAdd,Int.reduceNeg,Nat.reduceLeDiff,Int.reduceToNat,Int.reduceEq,Int.reduceLT,Int.reduceLE,Int.reduceAdd]
 refine ZI (zQ _) h (by omega) (by omega) (by simp only[Lim];omega) fun o2 l2 H2 h2 h3 h4 h5 h60=>?_
 have hc2:=h2.cell
 cases hok:ok&&zt ⟨nm,ls,ms⟩ with
 | false =>
  rw[hok] at h2 hc2
  simp(disch:=omega) only[hc2,steps,st2,pev,rev,oev,optr,ibin,sbin,ishf,bound,mmAll,mm2,mk,mkArgs,AV.cells,AV.boxable,AV.one,AV.strip1,fillA,fillS,Nat.reduceEqDiff,reduceCtorEq,↓reduceIte,Nat.reduceAdd,Int.reduceNeg,Nat.reduceLeDiff,Int.reduceToNat,Int.reduceEq,Int.reduceLT,Int.reduceLE,Int.reduceAdd]
  exact hQ _ _ H2 H2 [] nofun rfl (Low.refl _) ⟨rfl,o2,l2,by rw[hok];exact h2,h3,by omega,(fun e=>by rw[hok] at e;cases e),by simp only;omega⟩
 | true =>
  rw[hok] at h2 hc2 h5
  have e2:l2=l:=by have:=h5 rfl;simpa using this
  subst e2
  have hrt:zt ⟨nm,ls,ms⟩=true:=by simp only[Al0] at hok;exact hok.2
  have hok1:ok=true:=by simp only[Al0] at hok;exact hok.1
  simp only[zt,Al0,zp] at hrt
  obtain⟨hnm,r1,r2,r3,r4⟩:=hrt
  obtain⟨n,rfl⟩:∃ n:Nat,ls=(n:Int):=⟨ls.toNat,by omega⟩
  have en:(n:Int).toNat=n:=by omega
  rw[en] at r4
  have hn4:n≤4:=by omega
  have hms:ms<64:=by
   have:(2:Int) ^ (n+1)≤2 ^ 5:=by exact_mod_cast Nat.pow_le_pow_right (by decide) (by omega:n+1≤5)
   omega
  have w0:=YR.refl h2
  simp(disch:=omega) only[hc2,steps,st2,pev,rev,oev,optr,ibin,sbin,ishf,bound,mmAll,mm2,mk,mkArgs,AV.cells,AV.boxable,AV.one,AV.strip1,fillA,fillS,Nat.reduceEqDiff,reduceCtorEq,↓reduceIte,Nat.reduceAdd,Int.reduceNeg,Nat.reduceLeDiff,Int.reduceToNat,Int.reduceEq,Int.reduceLT,Int.reduceLE,Int.reduceAdd]
  refine goL_st (fun x:Nat×Own×List Tok=>[(16,.int .i64 x.1)]) (fun x H'=>x.1≤n∧YR H2 o2 w l2 true dp x.1 (5*x.1) true (List.replicate x.1 (pk [91])) H' x.2.1 x.2.2) (fun x=>n-x.1) (0,o2,l2) (by simp(disch:=omega) only[steps,st2,pev,rev,oev,optr,ibin,sbin,ishf,bound,mmAll,mm2,mk,mkArgs,AV.cells,AV.boxable,AV.one,AV.strip1,fillA,fillS,Nat.reduceEqDiff,reduceCtorEq,↓reduceIte,Nat.reduceAdd,Int.reduceNeg,Nat.reduceLeDiff,Int.reduceToNat,Int.reduceEq,Int.reduceLT,Int.reduceLE,Int.reduceAdd]) ⟨by simp,w0⟩ ?_
  rintro⟨i,o3,l3⟩ H3 J ⟨hi,w3⟩ hJ
  simp only at hi w3
  by_cases hlt:i<n
  ·have hlt':((i:Int)<n)=True:=eq_true (by omega)
   simp(disch:=omega) only[hlt',steps,st2,pev,rev,oev,optr,ibin,sbin,ishf,bound,mmAll,mm2,mk,mkArgs,AV.cells,AV.boxable,AV.one,AV.strip1,fillA,fillS,Nat.reduceEqDiff,reduceCtorEq,↓reduceIte,Nat.reduceAdd,Int.reduceNeg,Nat.reduceLeDiff,Int.reduceToNat,Int.reduceEq,Int.reduceLT,Int.reduceLE,Int.reduceAdd]
   refine zg (zE [91] _) w3 (by omega) (by omega) (by simp only[Lim];omega) fun o4 l4 H4 w4 _=>?_
   simp(disch:=omega) only[wrap64,steps,st2,pev,rev,oev,optr,ibin,sbin,ishf,bound,mmAll,mm2,mk,mkArgs,AV.cells,AV.boxable,AV.one,AV.strip1,fillA,fillS,Nat.reduceEqDiff,reduceCtorEq,↓reduceIte,Nat.reduceAdd,Int.reduceNeg,Nat.reduceLeDiff,Int.reduceToNat,Int.reduceEq,Int.reduceLT,Int.reduceLE,Int.reduceAdd]
   exact goJ (hJ (i+1,o4,l4) H4 (by simp only;omega) ⟨by simp only;omega,w4.cast (Al4 _) (by (try simp only[Al2,Al3]);omega) rfl (by rw[List.replicate_succ'])⟩) (by simp(disch:=omega) only[Int.natCast_add,steps,st2,pev,rev,oev,optr,ibin,sbin,ishf,bound,mmAll,mm2,mk,mkArgs,AV.cells,AV.boxable,AV.one,AV.strip1,fillA,fillS,Nat.reduceEqDiff,reduceCtorEq,↓reduceIte,Nat.reduceAdd,Int.reduceNeg,Nat.reduceLeDiff,Int.reduceToNat,Int.reduceEq,Int.reduceLT,Int.reduceLE,Int.reduceAdd])
  ·have hlt':¬ ((i:Int)<n):=by omega
   obtain rfl:i=n:=by omega
   simp(disch:=omega) only[hlt',steps,st2,pev,rev,oev,optr,ibin,sbin,ishf,bound,mmAll,mm2,mk,mkArgs,AV.cells,AV.boxable,AV.one,AV.strip1,fillA,fillS,Nat.reduceEqDiff,reduceCtorEq,↓reduceIte,Nat.reduceAdd,Int.reduceNeg,Nat.reduceLeDiff,Int.reduceToNat,Int.reduceEq,Int.reduceLT,Int.reduceLE,Int.reduceAdd]
   refine zg (zz nm hs) w3 (by omega) (by omega) (by simp only[Lim];omega) fun o4 l4 H4 w4 _=>?_
   rw[hnm] at w4
   simp(disch:=omega) only[steps,st2,pev,rev,oev,optr,ibin,sbin,ishf,bound,mmAll,mm2,mk,mkArgs,AV.cells,AV.boxable,AV.one,AV.strip1,fillA,fillS,Nat.reduceEqDiff,reduceCtorEq,↓reduceIte,Nat.reduceAdd,Int.reduceNeg,Nat.reduceLeDiff,Int.reduceToNat,Int.reduceEq,Int.reduceLT,Int.reduceLE,Int.reduceAdd]
   refine goL_st (fun x:Nat×Own×List Tok×Nat×List Tok=>[(4,.int .i64 ((x.1:Int)-1))]) (fun x H'=>x.1≤i+1∧x.2.2.2.1+2*x.1≤19∧x.2.2.2.2++yy i ms x.1=tTy ⟨nm,i,ms⟩∧YR H2 o2 w l2 true dp x.2.2.2.1 (nm.length+5*x.2.2.2.1) true x.2.2.2.2 H' x.2.1 x.2.2.1) (fun x=>x.1)
    (i+1,o4,l4,i+1,List.replicate i (pk [91])++[wk nm]) (by simp(disch:=omega) only[Int.natCast_add,Int.add_sub_cancel,steps,st2,pev,rev,oev,optr,ibin,sbin,ishf,bound,mmAll,mm2,mk,mkArgs,AV.cells,AV.boxable,AV.one,AV.strip1,fillA,fillS,Nat.reduceEqDiff,reduceCtorEq,↓reduceIte,Nat.reduceAdd,Int.reduceNeg,Nat.reduceLeDiff,Int.reduceToNat,Int.reduceEq,Int.reduceLT,Int.reduceLE,Int.reduceAdd]) ⟨by simp,by simp only;omega,by simp only[tTy,en,Z4];simp,w4.cast (Al4 _) (by (try simp only);omega) rfl rfl⟩ ?_
   rintro⟨k,o5,l5,B,tk⟩ H5 J5 ⟨hk,hB,htk,w5⟩ hJ5
   simp only at hk hB htk w5
   cases k with
   | zero =>
    have hz:¬ ((0:Int)≤-1):=by omega
    have w6:=w5.after h3 h2.cell
    simp only[yy,List.append_nil] at htk
    simp(disch:=omega) only[hz,Int.reduceSub,steps,st2,pev,rev,oev,optr,ibin,sbin,ishf,bound,mmAll,mm2,mk,mkArgs,AV.cells,AV.boxable,AV.one,AV.strip1,fillA,fillS,Nat.reduceEqDiff,reduceCtorEq,↓reduceIte,Nat.reduceAdd,Int.reduceNeg,Nat.reduceLeDiff,Int.reduceToNat,Int.reduceEq,Int.reduceLT,Int.reduceLE,Int.reduceAdd]
    refine hQ _ _ H5 H5 [] nofun rfl (Low.refl _) ⟨rfl,?_⟩
    obtain⟨o',l',g1,g2,g3,g4,g5⟩:=w6.fin (B':=20) (W':=200+nm.length) rfl (fun _=>htk) (by omega) (by omega)
    rw[hok]
    exact⟨o',l',by simpa using g1,g2,by omega,(fun _=>by simpa using g4 rfl),g5⟩
   | succ j =>
    have e0:((j+1:Nat):Int)-1=(j:Int):=by omega
    have hz:((0:Int)≤j)=True:=eq_true (by omega)
    have hbit:=zdL ms j (by omega)
    have hq0:0≤ms / 2 ^ j:=Int.ediv_nonneg r3 (by exact_mod_cast Nat.zero_le _)
    have hq1:ms / 2 ^ j<64:=by
     have:ms / 2 ^ j≤ms:=Int.ediv_le_self _ r3
     omega
    have ha:=and1 hq0 hq1
    have hj0:¬ ((j:Int)<0):=by omega
    simp only[yy,zcr] at htk
    by_cases hji:j<i
    ·have hji':((j:Int)<i)=True:=eq_true (by omega)
     rw[if_pos hji] at htk
     simp(disch:=omega) only[e0,hz,hji',steps,st2,pev,rev,oev,optr,ibin,sbin,ishf,bound,mmAll,mm2,mk,mkArgs,AV.cells,AV.boxable,AV.one,AV.strip1,fillA,fillS,Nat.reduceEqDiff,reduceCtorEq,↓reduceIte,Nat.reduceAdd,Int.reduceNeg,Nat.reduceLeDiff,Int.reduceToNat,Int.reduceEq,Int.reduceLT,Int.reduceLE,Int.reduceAdd]
     refine zg (zE [93] _) w5 (by omega) (by omega) (by simp only[Lim];omega) fun o6 l6 H6 w6 _=>?_
     by_cases hbt:ms / 2 ^ j % 2=1
     ·have hbb:ZP ms j=true:=by simp[ZP,hbt]
      rw[hbb] at htk
      simp(disch:=omega) only[hbit,hj0,ha,hbt,steps,st2,pev,rev,oev,optr,ibin,sbin,ishf,bound,mmAll,mm2,mk,mkArgs,AV.cells,AV.boxable,AV.one,AV.strip1,fillA,fillS,Nat.reduceEqDiff,reduceCtorEq,↓reduceIte,Nat.reduceAdd,Int.reduceNeg,Nat.reduceLeDiff,Int.reduceToNat,Int.reduceEq,Int.reduceLT,Int.reduceLE,Int.reduceAdd]
      refine zg (zE [33] _) w6 (by omega) (by omega) (by simp only[Lim];omega) fun o7 l7 H7 w7 _=>?_
      simp(disch:=omega) only[wrap64,steps,st2,pev,rev,oev,optr,ibin,sbin,ishf,bound,mmAll,mm2,mk,mkArgs,AV.cells,AV.boxable,AV.one,AV.strip1,fillA,fillS,Nat.reduceEqDiff,reduceCtorEq,↓reduceIte,Nat.reduceAdd,Int.reduceNeg,Nat.reduceLeDiff,Int.reduceToNat,Int.reduceEq,Int.reduceLT,Int.reduceLE,Int.reduceAdd]
      exact goJ (hJ5 (j,o7,l7,B+1+1,tk++[pk [93]]++[pk [33]]) H7 (Nat.lt_succ_self j) ⟨by simp only;omega,by simp only;omega,by rw[← htk];simp,w7.cast (Al4 _) (by (try simp only[Al2,Al3]);omega) rfl rfl⟩) (by simp(disch:=omega) only[steps,st2,pev,rev,oev,optr,ibin,sbin,ishf,bound,mmAll,mm2,mk,mkArgs,AV.cells,AV.boxable,AV.one,AV.strip1,fillA,fillS,Nat.reduceEqDiff,reduceCtorEq,↓reduceIte,Nat.reduceAdd,Int.reduceNeg,Nat.reduceLeDiff,Int.reduceToNat,Int.reduceEq,Int.reduceLT,Int.reduceLE,Int.reduceAdd])
     ·have hbb:ZP ms j=false:=by simp[ZP,hbt]
      rw[hbb] at htk
      simp(disch:=omega) only[hbit,hj0,ha,hbt,wrap64,steps,st2,pev,rev,oev,optr,ibin,sbin,ishf,bound,mmAll,mm2,mk,mkArgs,AV.cells,AV.boxable,AV.one,AV.strip1,fillA,fillS,Nat.reduceEqDiff,reduceCtorEq,↓reduceIte,Nat.reduceAdd,Int.reduceNeg,Nat.reduceLeDiff,Int.reduceToNat,Int.reduceEq,Int.reduceLT,Int.reduceLE,Int.reduceAdd]
      exact goJ (hJ5 (j,o6,l6,B+1,tk++[pk [93]]) H6 (Nat.lt_succ_self j) ⟨by simp only;omega,by simp only;omega,by rw[← htk];simp,w6.cast (Al4 _) (by (try simp only[Al2,Al3]);omega) rfl rfl⟩) (by simp(disch:=omega) only[steps,st2,pev,rev,oev,optr,ibin,sbin,ishf,bound,mmAll,mm2,mk,mkArgs,AV.cells,AV.boxable,AV.one,AV.strip1,fillA,fillS,Nat.reduceEqDiff,reduceCtorEq,↓reduceIte,Nat.reduceAdd,Int.reduceNeg,Nat.reduceLeDiff,Int.reduceToNat,Int.reduceEq,Int.reduceLT,Int.reduceLE,Int.reduceAdd])
    ·have hji':¬ ((j:Int)<i):=by omega
     rw[if_neg hji] at htk
     by_cases hbt:ms / 2 ^ j % 2=1
     ·have hbb:ZP ms j=true:=by simp[ZP,hbt]
      rw[hbb] at htk
      simp(disch:=omega) only[e0,hz,hji',hbit,hj0,ha,hbt,steps,st2,pev,rev,oev,optr,ibin,sbin,ishf,bound,mmAll,mm2,mk,mkArgs,AV.cells,AV.boxable,AV.one,AV.strip1,fillA,fillS,Nat.reduceEqDiff,reduceCtorEq,↓reduceIte,Nat.reduceAdd,Int.reduceNeg,Nat.reduceLeDiff,Int.reduceToNat,Int.reduceEq,Int.reduceLT,Int.reduceLE,Int.reduceAdd]
      refine zg (zE [33] _) w5 (by omega) (by omega) (by simp only[Lim];omega) fun o7 l7 H7 w7 _=>?_
      simp(disch:=omega) only[wrap64,steps,st2,pev,rev,oev,optr,ibin,sbin,ishf,bound,mmAll,mm2,mk,mkArgs,AV.cells,AV.boxable,AV.one,AV.strip1,fillA,fillS,Nat.reduceEqDiff,reduceCtorEq,↓reduceIte,Nat.reduceAdd,Int.reduceNeg,Nat.reduceLeDiff,Int.reduceToNat,Int.reduceEq,Int.reduceLT,Int.reduceLE,Int.reduceAdd]
      exact goJ (hJ5 (j,o7,l7,B+1,tk++[pk [33]]) H7 (Nat.lt_succ_self j) ⟨by simp only;omega,by simp only;omega,by rw[← htk];simp,w7.cast (Al4 _) (by (try simp only[Al2,Al3]);omega) rfl rfl⟩) (by simp(disch:=omega) only[steps,st2,pev,rev,oev,optr,ibin,sbin,ishf,bound,mmAll,mm2,mk,mkArgs,AV.cells,AV.boxable,AV.one,AV.strip1,fillA,fillS,Nat.reduceEqDiff,reduceCtorEq,↓reduceIte,Nat.reduceAdd,Int.reduceNeg,Nat.reduceLeDiff,Int.reduceToNat,Int.reduceEq,Int.reduceLT,Int.reduceLE,Int.reduceAdd])
     ·have hbb:ZP ms j=false:=by simp[ZP,hbt]
      rw[hbb] at htk
      simp(disch:=omega) only[e0,hz,hji',hbit,hj0,ha,hbt,wrap64,steps,st2,pev,rev,oev,optr,ibin,sbin,ishf,bound,mmAll,mm2,mk,mkArgs,AV.cells,AV.boxable,AV.one,AV.strip1,fillA,fillS,Nat.reduceEqDiff,reduceCtorEq,↓reduceIte,Nat.reduceAdd,Int.reduceNeg,Nat.reduceLeDiff,Int.reduceToNat,Int.reduceEq,Int.reduceLT,Int.reduceLE,Int.reduceAdd]
      exact goJ (hJ5 (j,o5,l5,B,tk) H5 (Nat.lt_succ_self j) ⟨by simp only;omega,by simp only;omega,by rw[← htk];simp,w5⟩) (by simp(disch:=omega) only[steps,st2,pev,rev,oev,optr,ibin,sbin,ishf,bound,mmAll,mm2,mk,mkArgs,AV.cells,AV.boxable,AV.one,AV.strip1,fillA,fillS,Nat.reduceEqDiff,reduceCtorEq,↓reduceIte,Nat.reduceAdd,Int.reduceNeg,Nat.reduceLeDiff,Int.reduceToNat,Int.reduceEq,Int.reduceLT,Int.reduceLE,Int.reduceAdd])
theorem zdR (has:Bool) (v:Val) (hw:wfV v) (hv:4*bV v≤Lim):YC 211 [.bool has,.agg (cV v)] (1+4*bV v) (5+64*bV v) 0 32 (fun dp=>if has then zB dp true v else eqd v zV) (tDf has v):=by
 intro H w o l ok dp h h0 h1 hb
 have hvb:bV v≤Lim:=by simp only[Lim] at hv ⊢;omega
 refine ACalls.go ir211 ck211 (Al4 _) fun KP Q hQ=>?_
 have w0:=YR.refl h
 cases has with
 | false =>
  simp(disch:=omega) only[zf,zc,za,ze,zd,zb,zi,ir211,go_sem]
  refine goK_pure (Pure.low (r:=.bool (eqd v zV)) (by
   have:=zfC v hvb zV
   simpa[AV.strip,Yq,zcR,AV.strip1] using this)) ?_
  simp(disch:=omega) only[go_sem]
  refine zg (zQ _) w0 (by omega) (by omega) (by omega) fun o2 l2 H2 w2 _=>?_
  simp(disch:=omega) only[go_sem]
  exact hQ _ _ H2 H2 [] nofun rfl (Low.refl _) ⟨rfl,w2.fin (by simp) (fun _=>by simp[tDf]) (by omega) (by (try simp only[Al2,Al3]);omega)⟩
 | true =>
  simp(disch:=omega) only[zf,zc,za,ze,zd,zb,zi,ir211,go_sem]
  refine zg (zE [61] _) w0 (by omega) (by omega) (by omega) fun o2 l2 H2 w2 _=>?_
  simp(disch:=omega) only[zf,zc,za,ze,zd,zb,zi,go_sem]
  refine zg (zdy v hw hv true) w2 (by omega) (by omega) (by omega) fun o3 l3 H3 w3 _=>?_
  simp(disch:=omega) only[go_sem]
  exact hQ _ _ H3 H3 [] nofun rfl (Low.refl _) ⟨rfl,w3.fin (by simp) (fun _=>by simp[tDf]) (by omega) (by (try simp only[Al2,Al3]);omega)⟩
theorem zf0 (fixed:Bool) (m:List Mem) (hw:YY m) (hm:8*bMs m≤Lim):YC 261 [.bool fixed,.sl .no 6 (cMs m)] (2+6*bMs m) (10+80*bMs m) 0 32 (fun dp=>yk dp fixed m) (Yw m):=by
 intro H w o l ok dp h h0 h1 hb
 have hml:=zK m
 have hcl:=zL m
 refine ACalls.go ir261 ck261 (Al4 _) fun KP Q hQ=>?_
 have w0:=YR.refl h
 by_cases hz:m.length=0
 ·have hz':((m.length:Int)=0)=True:=eq_true (by omega)
  simp(disch:=omega) only[ir261,hcl,hz',go_sem]
  have em:=y5.1 hz
  subst em
  exact hQ _ _ H H [] nofun rfl (Low.refl _) ⟨rfl,w0.fin rfl (fun _=>rfl) (by omega) (by omega)⟩
 ·have hz':¬ ((m.length:Int)=0):=by omega
  simp(disch:=omega) only[ir261,hcl,hz',go_sem]
  refine zg (zE [40] _) w0 (by omega) (by omega) (by omega) fun o2 l2 H2 w2 _=>?_
  simp(disch:=omega) only[hcl,go_sem]
  refine goL_range m 16 (fun x:Own×List Tok=>[]) (fun done rest x H'=>YR H o w l ok dp (1+6*bMs done) (5+80*bMs done) (yk dp fixed done) (pk [40]::zN done) H' x.1 x.2) (o2,l2) (by simp(disch:=omega) only[go_sem]) (w2.cast (by omega) (by simp[bMs]) rfl rfl) ?_ ?_
  ·rintro⟨o3,l3⟩ H3 J w3 hlt
   simp only at w3
   simp(disch:=omega) only[hcl,hlt,go_sem]
   refine zg (zE [41] _) w3 (by omega) (by omega) (by omega) fun o4 l4 H4 w4 _=>?_
   simp(disch:=omega) only[go_sem]
   exact hQ _ _ H4 H4 [] nofun rfl (Low.refl _) ⟨rfl,w4.fin (by simp) (fun _=>by unfold Yw;rw[if_neg hz];rfl) (by omega) (by (try simp only[Al2,Al3]);omega)⟩
  ·rintro done x rest ⟨o3,l3⟩ H3 J hd hlt hlt2 w3 hJ
   simp only at w3
   have hg:=zP hd
   have hbm:=zW done x rest
   rw[← hd] at hbm
   have hmem:x∈m:=by rw[hd];simp
   obtain⟨s,v⟩:=x
   have hwv:=ZN hw s v hmem
   have hvp:=ZD v
   simp only[bM] at hbm
   have hm':=hm
   simp only[Lim] at hm'
   have hbw:b0 w=b0 w:=rfl
   simp(disch:=omega) only[zf,zc,za,ze,zd,zb,zi,hcl,hlt,hg,go_sem]
   refine goA_intro fun b hb=>?_
   have hbw:b≠w:=fun e=>by subst e;rw[w3.here.cell] at hb;cases hb
   have w4:=w3.alloc (x:=.cells (.str s::cV v)) hb
   have hbc:(H3.upd b (.cells (.str s::cV v))) b=some (.cells (.str s::cV v)):=upd_same ..
   simp(disch:=omega) only[zf,zc,za,ze,zd,zb,zi,go_sem]
   refine zg (zz s (by simp only[Lim];omega)) w4 (by omega) (by omega) (by omega) fun o5 l5 H5 w5 s5=>?_
   have hb5:=s5.box w4.here.own hbc hbw
   simp(disch:=omega) only[zf,zc,za,ze,zd,zb,zi,hb5,go_sem]
   refine zg (zE [58] _) w5 (by omega) (by omega) (by omega) fun o6 l6 H6 w6 s6=>?_
   have hb6:=s6.box w5.here.own hb5 hbw
   simp(disch:=omega) only[zf,zc,za,ze,zd,zb,zi,hb6,go_sem]
   refine zg (zdy v hwv (by simp only[Lim];omega) fixed) w6 (by omega) (by omega) (by omega) fun o7 l7 H7 w7 s7=>?_
   simp(disch:=omega) only[wrap64,go_sem]
   exact goJ (hJ (o7,l7) H7 (w7.cast (by rw[zW done (.mk s v) []];simp only[bM,bMs];omega) (by rw[zW done (.mk s v) []];simp only[bM,bMs,Al2,Al3];omega) (by simp[yk,zbj,zY]) (by rw[ZU];simp[zN,YE,wk,pk]))) (by simp(disch:=omega) only[go_sem])
theorem zeX (fixed:Bool) (m:List DirD) (hw:zdr m) (hm:8*bDs m≤Lim):YC 242 [.bool fixed,.sl .no 2 (cDs m)] (8*bDs m) (88*bDs m) 0 32 (fun dp=>z1 dp fixed m) (tDs m):=by
 intro H w o l ok dp h h0 h1 hb
 have hml:=ZY m
 have hcl:=Zf m
 have hm':=hm
 simp only[Lim] at hm'
 refine ACalls.go ir242 ck242 (Al4 _) fun KP Q hQ=>?_
 have w0:=YR.refl h
 simp(disch:=omega) only[ir242,hcl,go_sem]
 refine goL_range m 10 (fun x:Own×List Tok=>[]) (fun done rest x H'=>YR H o w l ok dp (8*bDs done) (88*bDs done) (z1 dp fixed done) (tDs done) H' x.1 x.2) (o,l) (by simp(disch:=omega) only[go_sem]) (w0.cast (by omega) (by omega) rfl rfl) ?_ ?_
 ·rintro⟨o3,l3⟩ H3 J w3 hlt
  simp only at w3
  simp(disch:=omega) only[hcl,hlt,go_sem]
  exact hQ _ _ H3 H3 [] nofun rfl (Low.refl _) ⟨rfl,w3.fin rfl (fun _=>rfl) (by omega) (by omega)⟩
 ·rintro done x rest ⟨o3,l3⟩ H3 J hd hlt hlt2 w3 hJ
  simp only at w3
  have hg:=Zv hd
  have hbm:=Z7 done x rest
  rw[← hd] at hbm
  have hmem:x∈m:=by rw[hd];simp
  have hwx:=hw x hmem
  obtain⟨s,args⟩:=x
  have hal:=zK args
  simp only[bD] at hbm
  have ex:cD ⟨s,args⟩=[.str s,.sl .no 6 (cMs args)]:=rfl
  rw[ex] at hg
  simp(disch:=omega) only[hcl,hlt,hg,go_sem]
  refine goA_intro fun b hb=>?_
  have hbw:b≠w:=fun e=>by subst e;rw[w3.here.cell] at hb;cases hb
  have w4:=w3.alloc (x:=.cells [.str s,.sl .no 6 (cMs args)]) hb
  have hbc:(H3.upd b (.cells [.str s,.sl .no 6 (cMs args)])) b=some (.cells [.str s,.sl .no 6 (cMs args)]):=upd_same ..
  simp(disch:=omega) only[go_sem]
  refine zg (zE [64] _) w4 (by omega) (by omega) (by omega) fun o5 l5 H5 w5 s5=>?_
  have hb5:=s5.box w4.here.own hbc hbw
  simp(disch:=omega) only[hb5,go_sem]
  refine zg (zz s (by simp only[Lim];omega)) w5 (by omega) (by omega) (by omega) fun o6 l6 H6 w6 s6=>?_
  have hb6:=s6.box w5.here.own hb5 hbw
  simp(disch:=omega) only[hb6,go_sem]
  refine zg (zf0 fixed args hwx (by simp only[Lim];omega)) w6 (by omega) (by omega) (by omega) fun o7 l7 H7 w7 s7=>?_
  simp(disch:=omega) only[wrap64,go_sem]
  exact goJ (hJ (o7,l7) H7 (w7.cast (by rw[zbE];simp only[bD];omega) (by rw[zbE];simp only[bD,Al2,Al3];omega) (by rw[zbf];simp[Y9,zY]) (by rw[zbI];simp[tD]))) (by simp(disch:=omega) only[go_sem])
end Go.Proofs.YtaielcdfcgpbiaaGreatDoor
