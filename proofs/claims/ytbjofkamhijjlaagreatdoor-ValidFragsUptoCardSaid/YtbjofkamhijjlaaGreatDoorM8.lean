import Derived.Ground.Names2Prog
import Derived.Shelf.Lays2
import Derived.Test.YtbjofkamhijjlaaGreatDoorProg
import Derived.Shelf.Spec.SlicesInsert
import Derived.Shelf.Spec.SlicesInsertGrow
import Derived.Test.YtbjofkamhijjlaaGreatDoorM1
import Derived.Test.YtbjofkamhijjlaaGreatDoorM2
import Derived.Test.YtbjofkamhijjlaaGreatDoorM3
import Derived.Test.YtbjofkamhijjlaaGreatDoorM4
import Derived.Test.YtbjofkamhijjlaaGreatDoorM5
import Derived.Test.YtbjofkamhijjlaaGreatDoorM6
import Derived.Test.YtbjofkamhijjlaaGreatDoorM7
set_option maxRecDepth 100000
set_option linter.all false
namespace Go.Proofs.YtbjofkamhijjlaaGreatDoor
open Go.Ab
theorem zeH (s:SchD) (d:DocD) (f:FuncId) (caps:List AV) (p:List VarD→List Mem→Bool) (hs:zI s≤Lim) (hb:zq d≤Lim) (hf:zwQ f caps p):zg Tryz.prog 77 [.agg (zl s),.agg (zP d),.clo f [] caps] (.bool (yZ s d (zbO s p))):=by
 have h1:=zrl s d 150 [.view (zl s),.view [.clo f [] caps]] (zbO s p) hs hb ⟨by kernel_rfl,fun typ x hx=>zo8 s f caps p hs hf typ x (by omega)⟩
 generalize yZ s d (zbO s p)=x1 at *
 obtain⟨ops,frags⟩:=d
 obtain⟨sd,sq,sm⟩:=s
 simp only[zl,zP] at h1 ⊢
 refine zg.go ir77 ck77 (Al4 _) fun KP Q hQ=>?_
 simp(disch:=omega) only[ir77,go_sem]
 refine za h1 ?_
 simp(disch:=omega) only[go_sem]
 exact hQ _ _ _ _ nofun rfl (by simp[zd,ze,AV.strip,AV.strip1])
def Z0 (s:SchD) (d:DocD) (n:Int):Bool:=if n=15 then yZ s d (zbO s Y5) else if n=16 then yZ s d (zbO s fun _ l=>Zw [] l) else if n=17 then yZ s d (zbO s zdM) else false
theorem zrT (s:SchD) (d:DocD) (n:Int) (hs:zI s≤Lim) (hb:zq d≤Lim):zg Tryz.prog 37 [.agg (zl s),.agg (zP d),.int .i64 n] (.bool (Z0 s d n)):=by
 have h1:=zeH s d 78 [] Y5 hs hb ⟨by kernel_rfl,fun ps l hp hl=>zoV ps l (by have:=yD ps;omega) (by have:=y5 l;omega)⟩
 have h2:=zeH s d 79 [] (fun _ l=>Zw [] l) hs hb ⟨by kernel_rfl,fun ps l hp hl=>zpa _ l (by have:=y5 l;omega)⟩
 have h3:=zeH s d 80 [] zdM hs hb ⟨by kernel_rfl,fun ps l hp hl=>zmn ps l hp (by have:=y5 l;omega)⟩
 unfold Z0
 generalize yZ s d (zbO s Y5)=x1 at *
 generalize yZ s d (zbO s fun _ l=>Zw [] l)=x2 at *
 generalize yZ s d (zbO s zdM)=x3 at *
 obtain⟨ops,frags⟩:=d
 obtain⟨sd,sq,sm⟩:=s
 simp only[zl,zP] at h1 h2 h3 ⊢
 refine zg.go ir37 ck37 (Al4 _) fun KP Q hQ=>?_
 by_cases n1:n=15
 ·subst n1
  simp(disch:=omega) only[ir37,go_sem]
  refine za h1 ?_
  simp(disch:=omega) only[go_sem]
  exact hQ _ _ _ _ nofun rfl (by simp[zd,ze,AV.strip,AV.strip1])
 by_cases n2:n=16
 ·subst n2
  simp(disch:=omega) only[ir37,go_sem]
  refine za h2 ?_
  simp(disch:=omega) only[go_sem]
  exact hQ _ _ _ _ nofun rfl (by simp[zd,ze,AV.strip,AV.strip1])
 by_cases n3:n=17
 ·subst n3
  simp(disch:=omega) only[ir37,go_sem]
  refine za h3 ?_
  simp(disch:=omega) only[go_sem]
  exact hQ _ _ _ _ nofun rfl (by simp[zd,ze,AV.strip,AV.strip1])
 ·simp(disch:=omega) only[ir37,n1,n2,n3,go_sem]
  exact hQ _ _ _ _ nofun rfl (by simp[zd,ze,AV.strip,AV.strip1,n1,n2,n3])
theorem zoA (y:VarD) (n:List UInt8) (b:Nat) (rest:List AV) (H:zb) (hb:H b=some (.cells (.str n::rest))):zi Tryz.prog 200 [.agg (cW y),.ptr b 0] H (At (.bool (nmW n y)) H):=by
 obtain⟨nm,⟨t1,t2,t3⟩,h,⟨k,q,st,l,m⟩⟩:=y
 refine zi.go ir200 ck200 (Al4 _) fun KP Q hQ=>?_
 simp(disch:=omega) only[ir200,zZ,hb,go_sem]
 exact hQ _ _ _ _ _ nofun rfl (Low.refl _) ⟨by simp[zd,ze,AV.strip,AV.strip1,nmW],rfl⟩
def zaS:List VarD→List VarD→Bool
 | _,[]=>true
 | a,x::r=>!a.any (nmW x.nm)&&zaS (a++[x]) r
theorem zrE (o:OpD) (hl:o.vars.length≤Lim):zg Tryz.prog 156 [.agg (cO o)] (.bool (zaS [] o.vars)):=by
 obtain⟨k,nm,l,ds,ss⟩:=o
 simp only at hl ⊢
 have hl':=hl
 have h1:=Zj l
 simp only[Lim] at hl
 rw[zap]
 refine zg.go ir156 ck156 (Al4 _) fun KP Q hQ=>?_
 simp(disch:=omega) only[ir156,h1,go_sem]
 refine zf l 8 (fun _:Unit=>[]) (fun done rest _ H=>zaS done rest=zaS [] l) () (by simp(disch:=omega) only[go_sem]) rfl ?_ ?_
 ·rintro _ H J hn hlt
  simp(disch:=omega) only[h1,hlt,go_sem]
  exact hQ _ _ _ [.bool true] nofun rfl (by rw[← hn];rfl)
 ·rintro done x rest _ H J hd hlt _ hn hJ
  have hg:=Z9 hd
  have htk:(cWs l).take done.length=done.map cW:=by rw[hd];simp[cWs]
  have hle:(done.length:Int)≤l.length:=by omega
  have hdl:done.length≤Lim:=by simp only[Lim];omega
  obtain⟨xn,⟨t1,t2,t3⟩,hh,⟨xk,xq,xs,xl,xm⟩⟩:=x
  simp only[zaS] at hn
  rw[zZ] at hg
  simp(disch:=omega) only[h1,hlt,hg,go_sem]
  refine zc fun b4 hb4=>?_
  simp(disch:=omega) only[h1,hle,htk,go_sem]
  refine zY (zg2 cW zaP done 200 [.ptr b4 0] (nmW xn) _ hdl (by kernel_rfl) fun y _=>zoA y xn b4 _ _ (upd_same ..)) ?_
  rintro _ _ ⟨_,rfl,rfl,rfl⟩
  cases ha:done.any (nmW xn) with
  | true =>
   rw[ha] at hn
   simp(disch:=omega) only[ZU,ha,go_sem]
   exact hQ _ _ _ [.bool false] nofun rfl (by rw[← hn];rfl)
  | false =>
   rw[ha] at hn
   simp(disch:=omega) only[ZU,ha,go_sem]
   exact goJ (hJ () _ (by simpa using hn)) (by simp(disch:=omega) only[wrap64,go_sem])
theorem zpW (p:VarD) (n:List UInt8):zg Tryz.prog 203 [.agg (cW p),.view [.str n]] (.bool (nmW n p)):=by
 obtain⟨nm,⟨a,b,c⟩,h,⟨k,q,s,l,m⟩⟩:=p
 refine zg.go ir203 ck203 (Al4 _) fun KP Q hQ=>?_
 simp(disch:=omega) only[ir203,zZ,go_sem]
 exact hQ _ _ _ _ nofun rfl (by simp[zd,ze,AV.strip,AV.strip1,nmW])
theorem zn4 (o:OpD) (n:List UInt8) (hl:o.vars.length≤Lim):zg Tryz.prog 162 [.agg (cO o),.str n] (.tup [.agg (cW ((z6 o.vars n).getD zW)),.bool (z6 o.vars n).isSome]):=by
 have hx:=zoN cW zaP o.vars 203 [.view [.str n]] (nmW n) hl (by kernel_rfl) fun x _=>zpW x n
 obtain⟨k,nm,l,ds,ss⟩:=o
 simp only at hl hx ⊢
 have hlb:=hl
 simp only[Lim] at hlb
 rw[zap]
 refine zg.go ir162 ck162 (Al4 _) fun KP Q hQ=>?_
 have fin:∀ o,z6 l n=o→∀ ρ H vs,zG ρ H ir162.res=some vs→(zd vs).strip=.tup [.agg (cW (o.getD zW)),.bool o.isSome]→Q .ret ρ H:=fun o e ρ H vs h1 h2=>hQ _ ρ H vs nofun h1 (by rw[h2,e])
 simp(disch:=omega) only[ir162,go_sem]
 refine zc fun b4 hb4=>?_
 simp(disch:=omega) only[go_sem]
 refine za hx ?_
 rcases zaw (nmW n) l 0 with ⟨a,x,r,h1,h2,h3,h4⟩|⟨h1,h2⟩
 ·rw[h4,Int.zero_add]
  have hg:=Z9 h1
  have h6:=Zj l
  have h5:(a.length:Int)<l.length:=by rw[h1,Al5,Al2];omega
  have h7:¬ ((a.length:Int)<0):=by omega
  have e:z6 l n=some x:=h3
  obtain⟨nm,⟨t1,t2,t3⟩,h,⟨k,q,s,l2,m⟩⟩:=x
  rw[zZ] at hg
  simp(disch:=omega) only[hg,h6,h5,h7,go_sem]
  exact fin _ e _ _ [.agg (cW ⟨nm,⟨t1,t2,t3⟩,h,.mk k q s l2 m⟩),.bool true] (by simp(disch:=omega) only[ir162,zG,Zk,zZ,go_sem]) rfl
 ·rw[h2]
  have e:z6 l n=none:=h1
  simp(disch:=omega) only[go_sem]
  exact fin _ e _ _ [.agg [.str [],.str [],.int .i64 0,.int .i64 0,.bool false,.int .i64 0,.int .i64 0,.str [],.sl .nil 5 [],.sl .nil 6 []],.bool false] (by simp(disch:=omega) only[ir162,zG,Zk,go_sem]) rfl
structure SpotD where
 nm:List UInt8
 t:TyD
 has:Bool
def cP (x:SpotD):List AV:=[.str x.nm,.str x.t.nm,.int .i64 x.t.lists,.int .i64 x.t.musts,.bool x.has]
def cPs (l:List SpotD):List (List AV):=l.map cP
theorem ya (l:List SpotD):(cPs l).length=l.length:=by simp[cPs]
theorem zsU {l a:List SpotD} {x:SpotD} {b:List SpotD} (h:l=a++x::b):(cPs l).getD a.length []=cP x:=yN h
theorem zci (a b:List SpotD):cPs a++(cPs b).map (·.map AV.strip1)=cPs (a++b):=by
 have:(cPs b).map (·.map AV.strip1)=cPs b:=by rw[cPs,List.map_map];exact List.map_congr_left fun v _=>rfl
 rw[this];simp[cPs]
theorem YN {H H1 H2:zb} {o o1 o2:Own} {n n2 sz sz2:Nat} (h:OwnS H o H1 o1 n sz) (h':OwnS H1 .nil H2 o2 n2 sz2):OwnS H o H2 o1 n sz :=
 ⟨zK.ofKept h.own h'.kept (fun _ _ _ _ e=>by cases e),fun b x hb hn=>h'.kept b x (h.kept b x hb hn) (fun d e=>by cases e),h.new⟩
theorem zfT {H:zb} {o:Own} {n sz b:Nat} {cs:List AV} (ho:zK H o n sz) (h:H b=some (.cells cs)):∀ d,o≠.tip b d:=fun d e=>by
 subst e
 have:H b=some (.tip (d+n) sz):=ho
 rw[h] at this;cases this
def zgY (s:SchD) (t:TyD) (has:Bool) (v:Val) (L:List SpotD):Prop :=
 L.length≤bV v∧(∀ x∈L,x.t.nm.length≤Lim)∧∀ H,zae Tryz.prog 248 [.agg (zl s),.agg (cTy t),.bool has,.agg (cV v)] H .nil 5 (cPs L)
open Classical in
noncomputable def spM (s:SchD) (t:TyD) (has:Bool) (v:Val):List SpotD:=if h:∃ L,zgY s t has v L then Classical.choose h else []
theorem zjl {s:SchD} {t:TyD} {has:Bool} {v:Val} (h:∃ L,zgY s t has v L):zgY s t has v (spM s t has v):=by
 unfold spM;rw[dif_pos h];exact Classical.choose_spec h
noncomputable def Ym (s:SchD) (ps:List VarD):Mem→List SpotD
 | .mk n x=>match z6 ps n with|none=>[]|some p=>spM s p.t p.has x
noncomputable def spS (s:SchD) (t:TyD) (has:Bool):Val→List SpotD
 | .mk k q st l m=>if k=8 then [⟨st,t,has⟩] else match YM t with
  | some it=>if k=6 then l.flatMap (spM s it false) else spM s it false (.mk k q st l m)
  | none=>if k=7 then m.flatMap (Ym s ((yv s t.nm).getD zE).ps) else []
theorem zc0 {α β:Type} {f:α→List β} {g:α→Nat}:∀ l:List α,(∀ x∈l,(f x).length≤g x)→(l.flatMap f).length≤(l.map g).sum
 | [],_=>by simp
 | x::r,h=>by
  have h1:=h x (Zr ..)
  have h2:=zc0 r fun y hy=>h y (Zm _ hy)
  rw[List.flatMap_cons,Al5,List.map_cons,List.sum_cons];omega
theorem zmW {α:Type} {l done rest:List α} {x y:α} (hd:l=done++x::rest) (hy:y∈done++[x]):y∈l:=by
 rw[hd];simp at hy ⊢;rcases hy with h|h<;>simp[h]
theorem zgO:∀ l:List Val,bVs l=(l.map bV).sum
 | []=>by simp[bVs]
 | x::r=>by simp only[bVs,List.map_cons,List.sum_cons];rw[zgO r]
theorem zb4:∀ l:List Mem,bMs l=(l.map bM).sum
 | []=>by simp[bMs]
 | x::r=>by simp only[bMs,List.map_cons,List.sum_cons];rw[zb4 r]
theorem spE (s:SchD) (hs:zI s≤Lim):∀ v:Val,∀(n:Nat) (t:TyD) (has:Bool),t.lists.toNat≤n→bV v≤Lim→t.nm.length≤Lim→zgY s t has v (spS s t has v):=by
 refine Val.ind fun k q st l m ihl ihm=>?_
 have hll:=zaB l
 have hml:=y5 m
 have h1:=YF l
 have h1m:=yS m
 intro n
 induction n using Nat.strongRecOn with
 | _ n ih =>
 intro t has hn hb ht
 have hb':1+st.length+bVs l+bMs m≤1099511627776:=hb
 have hit:=zue t ht
 have hsl:zI s≤1099511627776:=hs
 have hf:=zeL s t.nm (z7 hs)
 have hps:bWs ((yv s t.nm).getD zE).ps≤zI s:=by
  cases hfe:yv s t.nm with
  | none=>simp[zE,bWs]
  | some d=>exact(Yw hfe).2.2.2
 generalize hE:(yv s t.nm).getD zE=E at *
 have hEl:=yD E.ps
 have hpar:=fun n=>zeb E.ps n (by simp only[Lim];omega)
 have hsame:∀ it,YM t=some it→zgY s it false (.mk k q st l m) (spM s it false (.mk k q st l m)):=fun it h=>by
  obtain⟨e1,e2,e3⟩:=zeW h
  exact zjl ⟨_,ih it.lists.toNat (by omega) it false (Al4 _) hb (by rw[e1];exact ht)⟩
 have hlist:∀ it,YM t=some it→∀ x∈l,zgY s it false x (spM s it false x):=fun it h x hx=>by
  obtain⟨e1,e2,e3⟩:=zeW h
  have hxb:bV x≤Lim:=by have:=zj3 hx;simp only[Lim];omega
  exact zjl ⟨_,ihl x hx it.lists.toNat it false (Al4 _) hxb (by rw[e1];exact ht)⟩
 have hmem:∀ n x,Mem.mk n x∈m→∀ p,z6 E.ps n=some p→zgY s p.t p.has x (spM s p.t p.has x):=fun n x hx p hp=>by
  have hxb:bV x≤Lim:=by have:=ze4 hx;simp only[Lim];omega
  have hpm:p∈E.ps:=List.mem_of_find?_eq_some hp
  have hpt:p.t.nm.length≤Lim:=by have:=YD hpm;simp only[bW] at this;simp only[Lim];omega
  exact zjl ⟨_,ihm n x hx p.t.lists.toNat p.t p.has (Al4 _) hxb hpt⟩
 have hmemL:∀ x∈m,(Ym s E.ps x).length≤bM x∧∀ y∈Ym s E.ps x,y.t.nm.length≤Lim:=fun x hx=>by
  obtain⟨n,v⟩:=x
  simp only[Ym]
  cases hp:z6 E.ps n with
  | none=>simp
  | some p =>
   have:=hmem n v hx p hp
   exact⟨Nat.le_trans this.1 (by simp only[bM];omega),this.2.1⟩
 have hml2:=fun a:List Mem=>zc0 (f:=Ym s E.ps) (g:=bM) a
 have e0:spS s t has (.mk k q st l m)=if k=8 then [⟨st,t,has⟩] else match YM t with
  | some it=>if k=6 then l.flatMap (spM s it false) else spM s it false (.mk k q st l m)
  | none=>if k=7 then m.flatMap (Ym s E.ps) else []:=by rw[← hE];rfl
 have hv:bV (.mk k q st l m)=1+st.length+bVs l+bMs m:=rfl
 refine⟨?_,?_,fun H=>?_⟩
 ·rw[e0,hv]
  split
  ·simp;omega
  ·cases him:YM t with
   | some it =>
    simp only
    split
    ·have:=zc0 (f:=spM s it false) (g:=bV) l fun x hx=>(hlist it him x hx).1
     rw[← zgO] at this;omega
    ·rw[← hv];exact(hsame it him).1
   | none =>
    simp only
    split
    ·have:=hml2 m fun x hx=>(hmemL x hx).1
     rw[← zb4] at this;omega
    ·simp
 ·rw[e0]
  split
  ·intro x hx
   simp only[List.mem_singleton] at hx
   subst hx;exact ht
  ·cases him:YM t with
   | some it =>
    simp only
    split
    ·intro x hx
     obtain⟨y,hy,hx⟩:=List.mem_flatMap.1 hx
     exact(hlist it him y hy).2.1 x hx
    ·exact(hsame it him).2.1
   | none =>
    simp only
    split
    ·intro x hx
     obtain⟨y,hy,hx⟩:=List.mem_flatMap.1 hx
     exact(hmemL y hy).2 x hx
    ·simp
 generalize spS s t has (.mk k q st l m)=F at *
 obtain⟨sd,sq,sm⟩:=s
 generalize hS:(⟨sd,sq,sm⟩:SchD)=s at *
 have hcs:zl s=[.sl .no 6 (cEs sd),.str sq,.str sm]:=by rw[← hS];rfl
 obtain⟨tn,tl,tm⟩:=t
 simp only[zgY] at hsame hlist hmem
 simp only[hcs,ye] at hsame hlist hmem hf ⊢
 simp only[cTy] at hit ⊢
 refine zi.goO ir248 ck248 (Al4 _) fun KP Q hQ hP=>?_
 have fin:∀ r o,F=r→∀ ρ H1,zG ρ H1 ir248.res=some [.sl o 5 (cPs r)]→OwnS H .nil H1 o r.length 5→Q .ret ρ H1:=fun r o e ρ H1 h1 h2=>hQ _ ρ H1 H1 _ nofun h1 (Low.refl _) ⟨o,by rw[e];rfl,by rw[e,ya];exact h2⟩
 by_cases k8:k=8
 ·subst k8
  rw[if_pos rfl] at e0
  simp(disch:=omega) only[ir248,go_sem]
  exact fin _ .full e0 _ _ rfl ⟨trivial,fun b x hb _=>hb,fun b d e=>by cases e⟩
 rw[if_neg k8] at e0
 simp(disch:=omega) only[ir248,k8,go_sem]
 refine za hit ?_
 cases him:YM ⟨tn,tl,tm⟩ with
 | some it =>
  rw[him] at e0
  replace hsame:=hsame it him
  replace hlist:=hlist it him
  obtain⟨in',il,im⟩:=it
  simp only at hsame hlist e0
  simp(disch:=omega) only[Option.getD,Option.isSome,go_sem]
  refine zc fun b10 hb10=>?_
  have hs0:OwnS H .nil (H.upd b10 (.cells [.str in',.int .i64 il,.int .i64 im])) .nil 0 5:=(OwnS.refl (o:=.nil) (n:=0) rfl).upd hb10
  by_cases k6:k=6
  case neg =>
   rw[if_neg k6] at e0
   simp(disch:=omega) only[k6,go_sem]
   refine zB (hsame.2.2 _) fun o2 H2 hs2=>?_
   simp(disch:=omega) only[go_sem]
   exact fin _ o2 e0 _ _ rfl (by rw[ya] at hs2;exact hs0.trans hs2)
  subst k6
  rw[if_pos rfl] at e0
  simp(disch:=omega) only[h1,go_sem]
  refine zf l 44 (fun x:Own×List SpotD=>[(9,.sl x.1 5 (cPs x.2))]) (fun done rest x H'=>H' b10=some (.cells [.str in',.int .i64 il,.int .i64 im])∧x.2=done.flatMap (spM s ⟨in',il,im⟩ false)∧OwnS H .nil H' x.1 x.2.length 5) (.nil,[]) (by simp(disch:=omega) only[cPs,List.map,go_sem]) ⟨upd_same ..,rfl,hs0⟩ ?_ ?_
  ·rintro⟨o1,a⟩ H1 J ⟨hH,hn,hs⟩ hlt
   simp only at hn
   subst hn
   simp(disch:=omega) only[h1,hlt,go_sem]
   exact fin _ o1 e0 _ _ rfl hs
  ·rintro done x rest ⟨o1,a⟩ H1 J hd hlt _ ⟨hH,hn,hs⟩ hJ
   have hg:=zaC hd
   have hx:=hlist x (by rw[hd];simp)
   simp only at hn
   replace hs:OwnS H .nil H1 o1 a.length 5:=hs
   have hal:a.length+(spM s ⟨in',il,im⟩ false x).length≤bVs l:=by
    have:=zc0 (f:=spM s ⟨in',il,im⟩ false) (g:=bV) (done++[x]) fun y hy=>(hlist y (zmW hd hy)).1
    rw[List.flatMap_append,Al5,← hn] at this
    simp only[List.flatMap_cons,List.flatMap_nil,List.append_nil] at this
    have e:bVs l=(l.map bV).sum:=zgO l
    rw[e,hd]
    simp only[List.map_append,List.sum_append,List.map_cons,List.map_nil,List.sum_cons,List.sum_nil] at this ⊢
    omega
   have hfl:(done++[x]).flatMap (spM s ⟨in',il,im⟩ false)=a++spM s ⟨in',il,im⟩ false x:=by rw[List.flatMap_append,← hn];simp
   obtain⟨xk,xq,xs,xl,xm⟩:=x
   rw[ye] at hg hx
   simp(disch:=omega) only[h1,hlt,hg,go_sem]
   refine zc fun b13 hb13=>?_
   have hne:b10≠b13:=fun e=>by subst e;rw[hH] at hb13;cases hb13
   have hu:=hs.upd (x:=.cells [.int .i64 xk,.int .i64 xq,.str xs,.sl .no 5 (cVs xl),.sl .no 6 (cMs xm)]) hb13
   simp(disch:=omega) only[hH,hne,Ne.symm hne,go_sem]
   refine zB (hx.2.2 _) fun o2 H2 hs2=>?_
   have hH2:=hs2.kept b10 _ (by simp only[zb.upd,hne,if_false];exact hH) (fun d e=>by cases e)
   have hu2:=YN hu hs2
   simp(disch:=omega) only[go_sem]
   refine zp (by rw[ya];exact hu2.own) ?_ ?_ fun o' H3 hs3=>?_
   ·simp only[ya];omega
   ·simp only[ya,maxLen];omega
   have hH3:=hs3.kept b10 _ hH2 (zfT hu2.own hH2)
   simp only[ya] at hs3
   simp(disch:=omega) only[wrap64,zci,go_sem]
   exact goJ (hJ (o',a++spM s ⟨in',il,im⟩ false (.mk xk xq xs xl xm)) H3 ⟨hH3,hfl.symm,by rw[Al5];exact hu2.trans hs3⟩) (by simp(disch:=omega) only[wrap64,go_sem])
 | none =>
  rw[him] at e0
  simp only at e0
  simp(disch:=omega) only[Option.getD,Option.isSome,zTy,go_sem]
  refine zc fun b10 hb10=>?_
  have hs0:OwnS H .nil (H.upd b10 (.cells [.str [],.int .i64 0,.int .i64 0])) .nil 0 5:=(OwnS.refl (o:=.nil) (n:=0) rfl).upd hb10
  by_cases k7:k=7
  case neg =>
   rw[if_neg k7] at e0
   simp(disch:=omega) only[k7,go_sem]
   exact fin [] .nil e0 _ _ rfl hs0
  subst k7
  rw[if_pos rfl] at e0
  simp(disch:=omega) only[go_sem]
  refine za hf ?_
  obtain⟨dk,dn,fs,fl,ps,pa⟩:=E
  simp only at hpar hmem hmemL hml2 e0
  simp(disch:=omega) only[yf,go_sem]
  refine zc fun b14 hb14=>?_
  have hne0:b14≠b10:=fun e=>by subst e;simp[zb.upd] at hb14
  have hs1:=hs0.upd (x:=.cells [.int .i64 dk,.str dn,.sl .no 1 (cT fs),.sl .no 6 (cLs fl),.sl .no 1 (cT ps),.sl .no 10 (cWs pa)]) hb14
  simp(disch:=omega) only[hne0,Ne.symm hne0,h1m,go_sem]
  refine zf m 75 (fun x:Own×List SpotD=>[(9,.sl x.1 5 (cPs x.2))]) (fun done rest x H'=>H' b14=some (.cells [.int .i64 dk,.str dn,.sl .no 1 (cT fs),.sl .no 6 (cLs fl),.sl .no 1 (cT ps),.sl .no 10 (cWs pa)])∧x.2=done.flatMap (Ym s pa)∧OwnS H .nil H' x.1 x.2.length 5) (.nil,[]) (by simp(disch:=omega) only[cPs,List.map,go_sem]) ⟨upd_same ..,rfl,hs1⟩ ?_ ?_
  ·rintro⟨o1,a⟩ H1 J ⟨hH,hn,hs⟩ hlt
   simp only at hn
   subst hn
   simp(disch:=omega) only[h1m,hlt,go_sem]
   exact fin _ o1 e0 _ _ rfl hs
  ·rintro done x rest ⟨o1,a⟩ H1 J hd hlt _ ⟨hH,hn,hs⟩ hJ
   have hg:=Zy hd
   have hxm:x∈m:=by rw[hd];simp
   simp only at hn
   replace hs:OwnS H .nil H1 o1 a.length 5:=hs
   have hal:a.length+(Ym s pa x).length≤bMs m:=by
    have:=hml2 (done++[x]) fun y hy=>(hmemL y (zmW hd hy)).1
    rw[List.flatMap_append,Al5,← hn] at this
    simp only[List.flatMap_cons,List.flatMap_nil,List.append_nil] at this
    have e:bMs m=(m.map bM).sum:=zb4 m
    rw[e,hd]
    simp only[List.map_append,List.sum_append,List.map_cons,List.map_nil,List.sum_cons,List.sum_nil] at this ⊢
    omega
   have hfl:(done++[x]).flatMap (Ym s pa)=a++Ym s pa x:=by rw[List.flatMap_append,← hn];simp
   obtain⟨xn,⟨xk,xq,xs,xl,xml⟩⟩:=x
   have hp:=hpar xn
   have hme:=hmem xn _ hxm
   rw[zA,ye] at hg
   simp only[Ym] at hal hfl
   simp(disch:=omega) only[h1m,hlt,hg,go_sem]
   refine zc fun b17 hb17=>?_
   have hne:b14≠b17:=fun e=>by subst e;rw[hH] at hb17;cases hb17
   have hu:=hs.upd (x:=.cells [.str xn,.int .i64 xk,.int .i64 xq,.str xs,.sl .no 5 (cVs xl),.sl .no 6 (cMs xml)]) hb17
   simp(disch:=omega) only[hH,hne,Ne.symm hne,go_sem]
   refine za hp ?_
   cases hpm:z6 pa xn with
   | none =>
    rw[hpm] at hal hfl
    simp(disch:=omega) only[Option.getD,Option.isSome,zW,zV,zZ,go_sem]
    refine zc fun b18 hb18=>?_
    have hu2:=hu.upd (x:=.cells [.str [],.str [],.int .i64 0,.int .i64 0,.bool false,.int .i64 0,.int .i64 0,.str [],.sl .no 5 (cVs []),.sl .no 6 (cMs [])]) hb18
    have hne2:b14≠b18:=fun e=>by subst e;simp[zb.upd,hne,hH] at hb18
    simp(disch:=omega) only[go_sem]
    exact goJ (hJ (o1,a) _ ⟨by simp(disch:=omega) only[hH,hne,Ne.symm hne,hne2,Ne.symm hne2,go_sem],by rw[hfl];simp,hu2⟩) (by simp(disch:=omega) only[wrap64,go_sem])
   | some p =>
    rw[hpm] at hal hfl
    simp only at hal hfl
    replace hme:=hme p hpm
    obtain⟨pn,⟨p1,p2,p3⟩,ph,⟨yk,yq,ys,yl,ym⟩⟩:=p
    simp only at hme hal hfl
    simp(disch:=omega) only[Option.getD,Option.isSome,zZ,go_sem]
    refine zc fun b18 hb18=>?_
    have hu2:=hu.upd (x:=.cells [.str pn,.str p1,.int .i64 p2,.int .i64 p3,.bool ph,.int .i64 yk,.int .i64 yq,.str ys,.sl .no 5 (cVs yl),.sl .no 6 (cMs ym)]) hb18
    have hne2:b14≠b18:=fun e=>by subst e;simp[zb.upd,hne,hH] at hb18
    have hne3:b17≠b18:=fun e=>by subst e;simp[zb.upd] at hb18
    simp(disch:=omega) only[hH,hne,Ne.symm hne,hne2,Ne.symm hne2,hne3,Ne.symm hne3,go_sem]
    refine zB (hme.2.2 _) fun o2 H2 hs2=>?_
    have hH2:=hs2.kept b14 _ (by simp only[zb.upd,hne,hne2,if_false];exact hH) (fun d e=>by cases e)
    have hu3:=YN hu2 hs2
    simp(disch:=omega) only[go_sem]
    refine zp (by rw[ya];exact hu3.own) ?_ ?_ fun o' H3 hs3=>?_
    ·simp only[ya];omega
    ·simp only[ya,maxLen];omega
    have hH3:=hs3.kept b14 _ hH2 (zfT hu3.own hH2)
    simp only[ya] at hs3
    simp(disch:=omega) only[wrap64,zci,go_sem]
    exact goJ (hJ (o',a++spM s ⟨p1,p2,p3⟩ ph (.mk xk xq xs xl xml)) H3 ⟨hH3,hfl.symm,by rw[Al5];exact hu3.trans hs3⟩) (by simp(disch:=omega) only[wrap64,go_sem])
theorem spC (s:SchD) (t:TyD) (has:Bool) (v:Val) (hs:zI s≤Lim) (hb:bV v≤Lim) (ht:t.nm.length≤Lim):zgY s t has v (spM s t has v):=zjl ⟨_,spE s hs v _ t has (Al4 _) hb ht⟩
end Go.Proofs.YtbjofkamhijjlaaGreatDoor
namespace Go.Proofs
open Go.Shelf
def Tryz.laysNm222_ren:Go.Shelf.Ren:=⟨fun|22=>256|29=>265|30=>266|36=>276|17=>283|n=>n,fun|24=>47|9=>9|3=>3|4=>4|0=>0|n=>n,fun|n=>n⟩
theorem Tryz.laysNm222:Go.Proofs.Lays2.n22 Tryz.prog Tryz.laysNm222_ren:={
 mixed:=by kernel_rfl
 f17:=Tryz.func283.trans (congrArg some (by kernel_rfl))
 f22:=Tryz.func256.trans (congrArg some (by kernel_rfl))
 f29:=Tryz.func265.trans (congrArg some (by kernel_rfl))
 f30:=Tryz.func266.trans (congrArg some (by kernel_rfl))
 f36:=Tryz.func276.trans (congrArg some (by kernel_rfl))
 t0:=Tryz.underlying0
 a0:=Tryz.isAgg0
 z0:=Tryz.sizeOf0
 v0:=Tryz.zeroValue0
 t3:=Tryz.underlying3
 a3:=Tryz.isAgg3
 z3:=Tryz.sizeOf3
 v3:=Tryz.zeroValue3
 t4:=Tryz.underlying4
 a4:=Tryz.isAgg4
 z4:=Tryz.sizeOf4
 v4:=Tryz.zeroValue4
 t9:=Tryz.underlying9
 a9:=Tryz.isAgg9
 z9:=Tryz.sizeOf9
 v9:=Tryz.zeroValue9
 t24:=Tryz.underlying47
 a24:=Tryz.isAgg47
 z24:=Tryz.sizeOf47
 v24:=Tryz.zeroValue47
 i9:=by kernel_rfl }
end Go.Proofs
namespace Go.Proofs.YtbjofkamhijjlaaGreatDoor
open Go.Ab Go.Lib
theorem Yi (b:Nat) (E:TypeId):∀(vs:List Value) (o:Nat) (cur:List Value) (w:World),w.heap[b]?=some (.cells cur.toArray E (0,0))→o+vs.length≤cur.length →
  w.setCells b o vs=w.setRow b (cur.take o++vs++cur.drop (o+vs.length)).toArray
 | [],o,cur,w,h,hl=>by
  rw[World.setCells,List.append_nil]
  simp only[Al3,Nat.add_zero,List.take_append_drop]
  exact(setRow_self w b _ E _ h).symm
 | v::r,o,cur,w,h,hl=>by
  simp only[Al2] at hl
  have e:(cur.toArray.setIfInBounds o v)=(cur.set o v).toArray:=by simp
  rw[World.setCells,setCell_eq_setRow w b o cur.toArray E (0,0) v h,e,Yi b E r (o+1) (cur.set o v) _ (setRow_heap w b _ _ E _ h) (by rw[List.length_set];omega),setRow_setRow]
  congr 2
  have h1:(cur.set o v).take (o+1)=cur.take o++[v]:=by
   rw[List.take_add_one,List.take_set_of_le (Al4 _)]
   simp[show o<cur.length by omega]
  have h2:(cur.set o v).drop (o+1+r.length)=cur.drop (o+(r.length+1)):=by
   rw[List.drop_set_of_lt (by omega)]
   congr 1;omega
  rw[h1,h2]
  simp[zb0]
def z8 (s:List UInt8):Value:=.string ⟨s.toArray⟩
theorem zeO (γ:Gh) (w:World) (xs:List (List UInt8)):zo γ w (xs.map AV.str) (xs.map z8) :=
 ⟨by simp,fun i v h=>by
  rw[YH] at h
  cases hx:xs[i]? with
  | none=>simp[hx] at h
  | some x=>simp only[hx,zak,Al1] at h;subst h;rfl,fun i c v hc h=>by
  rw[YH] at h hc
  cases hx:xs[i]? with
  | none=>simp[hx] at h
  | some x =>
   simp only[hx,zak,Al1] at h hc
   subst h;subst hc;exact .str x⟩
theorem zfg {γ:Gh} {w:World}:∀ {xs:List (List UInt8)} {sp:List AV} {vs:List Value},zo γ w (xs.map AV.str++sp) vs→∃ spv,vs=xs.map z8++spv∧zo γ w sp spv
 | [],sp,vs,h=>⟨vs,by simp,by simpa using h⟩
 | x::xs,sp,[],h=>by simp[zo] at h
 | x::xs,sp,v::vs,h=>by
  obtain⟨h1,h2,h3⟩:=h
  have hv:=h3 0 _ _ rfl rfl
  obtain⟨spv,e,hf⟩:=zfg (xs:=xs) (sp:=sp) (vs:=vs) (γ:=γ) (w:=w) ⟨by simpa using h1,fun i u hu=>h2 (i+1) u (by simpa using hu),fun i c u hc hu=>h3 (i+1) c u (by simpa using hc) (by simpa using hu)⟩
  refine⟨spv,?_,hf⟩
  cases hv
  rw[e];rfl
theorem zfe (k:Nat):Builtin.zeroCells (Value.string ⟨#[]⟩).cells k=(List.replicate k (z8 [])).toArray:=by
 apply Array.ext
 ·simp[Builtin.zeroCells,Value.cells]
 ·intro i h1 h2
  simp[Builtin.zeroCells,Value.cells,Nat.mod_one,z8]
def zfI (H:zb) (lv:AV) (xs:List (List UInt8)):Prop :=
 (lv=.sl .nil 1 []∧xs=[])∨∃ b cap sp,lv=.ms b 0 xs.length cap∧H b=some (.cells (xs.map AV.str++sp))∧xs.length+sp.length=cap
structure InsS (H:zb) (lv:AV) (H':zb) (lv':AV) (xs':List (List UInt8)):Prop where
 own:zfI H' lv' xs'
 kept:∀ c x,H c=some x→(∀ n k,lv≠.ms c 0 n k)→H' c=some x
 new:∀ b n k,lv'=.ms b 0 n k→H b=none∨∃ n0 k0,lv=.ms b 0 n0 k0
theorem InsS.refl {H:zb} {lv:AV} {xs:List (List UInt8)} (h:zfI H lv xs):InsS H lv H lv xs:=⟨h,fun c x hc _=>hc,fun b n k e=>.inr ⟨n,k,e⟩⟩
theorem InsS.trans {H H1 H2:zb} {lv l1 l2:AV} {xs ys:List (List UInt8)} (h:InsS H lv H1 l1 xs) (h':InsS H1 l1 H2 l2 ys):InsS H lv H2 l2 ys:=by
 refine⟨h'.own,fun c x hc hn=>h'.kept c x (h.kept c x hc hn) fun n k e=>?_,fun b n k e=>?_⟩
 ·rcases h.new c n k e with h1|⟨n0,k0,h1⟩
  ·rw[hc] at h1;cases h1
  ·exact hn n0 k0 h1
 ·rcases h'.new b n k e with h1|⟨n0,k0,h1⟩
  ·cases hb:H b with
   | none=>exact .inl rfl
   | some x =>
    by_cases hx:∃ n k,lv=.ms b 0 n k
    ·exact .inr hx
    ·have:=h.kept b x hb (fun n k e=>hx ⟨n,k,e⟩);rw[h1] at this;cases this
  ·exact h.new b n0 k0 h1
theorem InsS.upd {H H1:zb} {lv l1:AV} {xs:List (List UInt8)} {b:Nat} {x:AObj} (h:InsS H lv H1 l1 xs) (hb:H1 b=none):InsS H lv (H1.upd b x) l1 xs:=by
 refine⟨?_,fun c y hc hn=>?_,h.new⟩
 ·rcases h.own with h1|⟨b0,cap,sp,e,hb0,hl⟩
  ·exact .inl h1
  ·refine .inr ⟨b0,cap,sp,e,?_,hl⟩
   have hne:b0≠b:=fun e=>by subst e;rw[hb] at hb0;cases hb0
   simp only[zb.upd,hne,if_false];exact hb0
 ·have:=h.kept c y hc hn
  have hne:c≠b:=fun e=>by subst e;rw[hb] at this;cases this
  simp only[zb.upd,hne,if_false];exact this
theorem zwj {γ:Gh} {w W:World} {H:zb} {b:Nat} {cs newA:List AV} {vs new:List Value} {E:TypeId} (hs:zr γ w H) (hb:H b=some (.cells cs)) (hbb:w.heap[b]?=some (.cells vs.toArray E (0,0))) (hk:γ b=.own)
  (hf:zo γ w newA new) (hlen:new.length=vs.length) (hW:W=w.setRow b new.toArray∨W=w.drew.setRow b new.toArray) :
  Ext (fun b=>(H b).isSome=true) γ w γ W∧zr γ W (H.upd b (.cells newA))∧∀ c,((H.upd b (.cells newA)) c).isSome=true→(H c).isSome=true∨w.heap.size≤c:=by
 have hext:Ext (fun c=>c=b) γ w γ W:=by
  rcases hW with rfl|rfl
  ·exact YK hbb (by simpa using hlen) rfl (fun q hq=>by simp[Yv,hk] at hq) (fun _ _=>rfl)
  ·exact(Ye (fun c=>c=b) γ w).trans (YK (F:=fun c=>c=b) (w:=w.drew) hbb (by simpa using hlen) rfl (fun q hq=>by simp[Yv,hk] at hq) (fun _ _=>rfl)) (fun _ _ f=>f)
 have hWb:W.heap[b]?=some (.cells new.toArray E (0,0)):=by
  rcases hW with rfl|rfl
  ·exact zaz w b _ _ E _ hbb
  ·exact zaz w.drew b _ _ E _ hbb
 exact⟨hext.weaken fun c e=>by subst e;simp[hb],zar hs hext (.cells _ _ E hk hWb hf.1 hf.2.1 fun i c v hc hv=>(hf.2.2 i c v hc hv).mono hext.mono),Y3 (by simp[hb])⟩
theorem zr8 {γ:Gh} {w W:World} {H:zb} {newA:List AV} {new:List Value} {E:TypeId} (hs:zr γ w H)
  (hf:∀ γ w,zo γ w newA new) (hext:Ext (fun c=>c=w.heap.size) γ w (fun c=>if c=w.heap.size then .own else γ c) W) (hWb:W.heap[w.heap.size]?=some (.cells new.toArray E (0,0))) :
  Ext (fun b=>(H b).isSome=true) γ w (fun c=>if c=w.heap.size then .own else γ c) W∧zr (fun c=>if c=w.heap.size then .own else γ c) W (H.upd w.heap.size (.cells newA))∧∀ c,((H.upd w.heap.size (.cells newA)) c).isSome=true→(H c).isSome=true∨w.heap.size≤c:=by
 have hfr:∀ b,b<w.heap.size→¬ (b=w.heap.size):=fun b h e=>by omega
 have hF:=hf (fun c=>if c=w.heap.size then .own else γ c) W
 refine⟨⟨hext.mono,hext.os,hext.output,hext.frozen,fun b hb _=>hext.frame b hb (hfr b hb)⟩,zar hs hext (.cells _ _ E (by simp) hWb hF.1 hF.2.1 hF.2.2),Zo⟩
theorem zcq (xs:List (List UInt8)):∀ v∈xs.map z8,v.oneCell'=true:=fun v hv=>by
 obtain⟨x,_,rfl⟩:=List.mem_map.1 hv;rfl
theorem zeA {w:World} {b o:Nat} {arr:Array Value} {E:TypeId} {fr:Nat×Nat} (h:w.heap[b]?=some (.cells arr E fr)):w.cell? ⟨b,o,none⟩=arr[o]?:=cell_of_row w b o arr E fr h
theorem zdA {w:World} {b o:Nat} {arr:Array Value} {E:TypeId} (h:w.heap[b]?=some (.cells arr E (0,0))):w.frozen? ⟨b,o,none⟩=false:=by
 simp[World.frozen?,h]
def zct (H:zb) (γ:Gh) (w:World) (lv:AV) (xs':List (List UInt8)) (e:Ending) (W:World):Prop :=
 ∃ γ' H' r,Ext (fun b=>(H b).isSome=true) γ w γ' W∧zr γ' W H'∧(∀ b,(H' b).isSome=true→(H b).isSome=true∨w.heap.size≤b)∧zmL γ' W e r∧(match r with|.ret v=>InsS H lv H' v xs'|.pan _=>False)
theorem zjL (xs:List (List UInt8)) (nm:List UInt8) {i:Nat} (hi:i≤xs.length):(xs.take i++nm::xs.drop i).length=xs.length+1:=by
 simp only[Al5,Al2,List.length_take,zgo];omega
theorem zk9 {H:zb} {γ:Gh} {w W:World} {b cap i:Nat} {xs:List (List UInt8)} {nm:List UInt8} {a0:AV} {spa:List AV} {s0:Value} {spt:List Value} {E:TypeId} {e:Ending} (hs:zr γ w H) (hb:H b=some (.cells (xs.map AV.str++a0::spa)))
  (hbb:w.heap[b]?=some (.cells (xs.map z8++s0::spt).toArray E (0,0))) (hk:γ b=.own) (hspf:zo γ w spa spt) (hi:i≤xs.length) (hroom:xs.length+1≤cap) (hm:cap≤maxLen) (hsp:xs.length+1+spa.length=cap) (hlt:b<w.heap.size)
  (he:e=Ending.returned (.slice (some ⟨b,0,none⟩) (xs.length+1) cap)) (hW:W=w.setRow b ((xs.take i++nm::xs.drop i).map z8++spt).toArray∨W=w.drew.setRow b ((xs.take i++nm::xs.drop i).map z8++spt).toArray) :
  zct H γ w (.ms b 0 xs.length cap) (xs.take i++nm::xs.drop i) e W:=by
 have hnl:=zjL xs nm hi
 obtain⟨g1,g2,g3⟩:=zwj hs hb hbb hk ((zeO γ w (xs.take i++nm::xs.drop i)).append hspf) (by rw[Al5,List.length_map,hnl];simp only[Al5,List.length_map,Al2];omega) hW
 have hsz:W.heap.size=w.heap.size:=by
  rcases hW with h|h
  ·rw[h,setRow_size]
  ·rw[h,setRow_size];rfl
 refine⟨γ,_,.ret (.ms b 0 (xs.length+1) cap),g1,g2,g3,by rw[he];exact .ms _ _ _ _ (by omega) hroom hm,.inr ⟨b,cap,spa,by rw[hnl],upd_same ..,by rw[hnl];exact hsp⟩,fun c x hc hn=>?_,fun c n k e=>?_⟩
 ·have:c≠b:=fun e=>by subst e;exact hn _ _ rfl
  simp only[zb.upd,this,if_false];exact hc
 ·cases e;exact .inr ⟨_,_,rfl⟩
theorem zhl {H:zb} {γ:Gh} {w W:World} {G i:Nat} {xs:List (List UInt8)} {nm:List UInt8} {lv:AV} {E:TypeId} {e:Ending} (hs:zr γ w H) (hi:i≤xs.length) (hG:xs.length+1≤G) (hGm:G≤maxLen)
  (he:e=Ending.returned (.slice (some ⟨w.heap.size,0,none⟩) (xs.length+1) G)) (hext:Ext (fun c=>c=w.heap.size) γ w (fun c=>if c=w.heap.size then .own else γ c) W)
  (hWb:W.heap[w.heap.size]?=some (.cells ((xs.take i++nm::xs.drop i).map z8++(List.replicate (G-(xs.length+1)) []).map z8).toArray E (0,0))):zct H γ w lv (xs.take i++nm::xs.drop i) e W:=by
 obtain⟨g1,g2,g3⟩:=zr8 (newA:=(xs.take i++nm::xs.drop i).map AV.str++(List.replicate (G-(xs.length+1)) []).map AV.str) hs (fun γ w=>(zeO γ w _).append (zeO γ w _)) hext hWb
 have hsz:w.heap.size<W.heap.size:=(zck.1 hWb).1
 have hnl:=zjL xs nm hi
 refine⟨_,_,.ret (.ms w.heap.size 0 (xs.length+1) G),g1,g2,g3,by rw[he];exact .ms _ _ _ _ hsz hG hGm,.inr ⟨w.heap.size,G,_,by rw[hnl],upd_same ..,by rw[hnl,List.length_map,List.length_replicate];omega⟩,fun c x hc _=>?_,fun b n k e=>?_⟩
 ·have:c≠w.heap.size:=fun e=>by have:=(hs c x hc).lt;omega
  simp only[zb.upd,this,if_false];exact hc
 ·cases e
  cases hx:H w.heap.size with
  | none=>exact .inl rfl
  | some x=>have:=(hs _ x hx).lt;omega
section
variable {H:zb} {γ:Gh} {w:World} {vb:Nat} {Ev:TypeId} {nm:List UInt8}
theorem ze5 (hvbb:w.heap[vb]?=some (.cells [z8 nm].toArray Ev (0,0))):∀ j v,[z8 nm][j]?=some v→w.cell? ⟨vb,0+j,none⟩=some v:=fun j v h=>by rw[Nat.zero_add,zeA hvbb];simpa using h
theorem zrZ (hs:zr γ w H) (hvbb:w.heap[vb]?=some (.cells [z8 nm].toArray Ev (0,0))) :
  Calls Tryz.prog 256 #[.slice none 0 0,.int .i64 0,.slice (some ⟨vb,0,none⟩) 1 1] w fun e W=>zct H γ w (.sl .nil 1 []) [nm] e W:=by
 have h:=Any2.slices_Insert_string_end_grow Tryz.laysNm222 none 0 0 vb 0 1 1 [] [z8 nm] w (by omega) (by omega) (by omega) (by omega) rfl rfl (fun _=>rfl) (fun a h=>by cases h) (ze5 hvbb) (zcq [nm])
 refine Calls.mono h fun e w' ⟨he,hw⟩=>?_
 have hG:=grownCap_ge w (0+1) 0 (Tryz.laysNm222_ren.t 9)
 have hGm:=grownCap_le_maxLen w (0+1) 0 (Tryz.laysNm222_ren.t 9) (by simp only[maxLen];omega)
 generalize grownCap w (0+1) 0 (Tryz.laysNm222_ren.t 9)=G at *
 rw[zfe] at hw
 have hw2:w'=w.drew.alloc (.cells (([]:List (List UInt8)).take 0++nm::([]:List (List UInt8)).drop 0 |>.map z8 |>.append ((List.replicate (G-(0+1)) []).map z8)).toArray (Tryz.laysNm222_ren.t 9)):=by rw[hw,List.append_toArray,List.map_replicate];rfl
 refine zhl (xs:=[]) (i:=0) (E:=Tryz.laysNm222_ren.t 9) hs (Al4 _) hG hGm he ?_ (by rw[hw2];exact heap_alloc_new w.drew _)
 rw[hw2]
 exact(Ye (fun c=>c=w.heap.size) γ w).trans (Z3 (fun c=>c=w.heap.size) γ w.drew .own _ _) (fun _ _ f=>f)
variable {b cap i:Nat} {xs:List (List UInt8)} {E:TypeId} {spv:List Value}
theorem zmw (hbb:w.heap[b]?=some (.cells (xs.map z8++spv).toArray E (0,0))):∀ j v,(xs.map z8)[j]?=some v→w.cell? ⟨b,0+j,none⟩=some v:=fun j v h=>by
 rw[Nat.zero_add,zeA hbb,List.getElem?_toArray,zb8 (Z4.1 h).1];exact h
theorem zlE (hbb:w.heap[b]?=some (.cells (xs.map z8++spv).toArray E (0,0))) (hfull:(xs.map z8++spv).length=cap):∀ j,j<cap→(w.cell? ⟨b,0+j,none⟩).isSome=true:=fun j hj=>by
 rw[Nat.zero_add,zeA hbb,List.getElem?_toArray,Al9 (by omega)];rfl
theorem zpn {a0:AV} {spa:List AV} {s0:Value} {spt:List Value} (hs:zr γ w H) (hvbb:w.heap[vb]?=some (.cells [z8 nm].toArray Ev (0,0))) (hb:H b=some (.cells (xs.map AV.str++a0::spa)))
  (hbb:w.heap[b]?=some (.cells (xs.map z8++s0::spt).toArray E (0,0))) (hk:γ b=.own) (hspf:zo γ w spa spt) (hil:i<xs.length) (hm:cap≤maxLen) (hsp:xs.length+1+spa.length=cap) (hbv:b≠vb) :
  Calls Tryz.prog 256 #[.slice (some ⟨b,0,none⟩) xs.length cap,.int .i64 i,.slice (some ⟨vb,0,none⟩) 1 1] w fun e W=>zct H γ w (.ms b 0 xs.length cap) (xs.take i++nm::xs.drop i) e W:=by
 have hspl:=hspf.1
 have hfull:(xs.map z8++s0::spt).length=cap:=by simp only[Al5,List.length_map,Al2];omega
 have hlt:b<w.heap.size:=(zck.1 hbb).1
 have hxl:(xs.map z8).length=xs.length:=List.length_map ..
 have hin:=zlE hbb hfull
 have h:=Any2.slices_Insert_string_shift Tryz.laysNm222 b 0 xs.length cap i vb 0 1 1 (xs.map z8) [z8 nm] w hil (by omega) (by omega) hm (Ne.symm hbv) hxl rfl (zmw hbb) (fun j hj=>hin j (by omega)) (fun j _=>zdA hbb) (ze5 hvbb) (zcq xs) (zcq [nm]) Ev E 1 cap (by simp only[World.shape?,hvbb];rfl) (by simp only[World.shape?,hbb,List.size_toArray,hfull]) (by omega) (zdA hvbb) (zdA hvbb)
 refine Calls.mono h fun e w' ⟨he,hw⟩=>zk9 hs hb hbb hk hspf (by omega) (by omega) hm hsp hlt he (.inr ?_)
 have hbbd:w.drew.heap[b]?=some (.cells (xs.map z8++s0::spt).toArray E (0,0)):=hbb
 have hdl:((xs.map z8).drop i).length=xs.length-i:=by rw[zgo,hxl]
 have e2:(xs.map z8++s0::spt).drop (i+1+((xs.map z8).drop i).length)=spt:=by
  rw[hdl,show i+1+(xs.length-i)=(xs.map z8).length+1 by omega,← List.drop_drop,List.drop_left]
  rfl
 have e1:(xs.map z8++s0::spt).take (i+1)=(xs.map z8).take (i+1):=List.take_append_of_le_length (by omega)
 rw[Nat.zero_add,Nat.zero_add,Yi b E _ _ _ _ hbbd (by rw[hdl,hfull];omega),e1,e2] at hw
 have hb3:=setRow_heap w.drew b _ ((xs.map z8).take (i+1)++(xs.map z8).drop i++spt).toArray E _ hbbd
 have e3:((xs.map z8).take (i+1)++(xs.map z8).drop i++spt).take i=(xs.map z8).take i:=by
  rw[zb0,List.take_append_of_le_length (by rw[List.length_take,hxl];omega),List.take_take,Nat.min_eq_left (by omega)]
 have e4:((xs.map z8).take (i+1)++(xs.map z8).drop i++spt).drop (i+[z8 nm].length)=(xs.map z8).drop i++spt:=by
  rw[zb0,List.drop_left' (by rw[List.length_take,hxl,List.length_singleton];omega)]
 rw[Yi b E _ _ _ _ hb3 (by simp only[Al5,List.length_take,hdl,hxl,List.length_singleton];omega),setRow_setRow,e3,e4] at hw
 rw[hw]
 congr 2
 rw[List.map_append,List.map_cons,List.map_take,List.map_drop]
 simp only[zb0,List.singleton_append,Al6,zcU]
theorem zjm {a0:AV} {spa:List AV} {s0:Value} {spt:List Value} (hs:zr γ w H) (hvbb:w.heap[vb]?=some (.cells [z8 nm].toArray Ev (0,0))) (hb:H b=some (.cells (xs.map AV.str++a0::spa)))
  (hbb:w.heap[b]?=some (.cells (xs.map z8++s0::spt).toArray E (0,0))) (hk:γ b=.own) (hspf:zo γ w spa spt) (hm:cap≤maxLen) (hsp:xs.length+1+spa.length=cap) :
  Calls Tryz.prog 256 #[.slice (some ⟨b,0,none⟩) xs.length cap,.int .i64 xs.length,.slice (some ⟨vb,0,none⟩) 1 1] w fun e W=>zct H γ w (.ms b 0 xs.length cap) (xs.take xs.length++nm::xs.drop xs.length) e W:=by
 have hspl:=hspf.1
 have hfull:(xs.map z8++s0::spt).length=cap:=by simp only[Al5,List.length_map,Al2];omega
 have hlt:b<w.heap.size:=(zck.1 hbb).1
 have hxl:(xs.map z8).length=xs.length:=List.length_map ..
 have hin:=zlE hbb hfull
 have h:=Any2.slices_Insert_string_end_room Tryz.laysNm222 b 0 xs.length cap vb 0 1 1 [z8 nm] w (by omega) (by omega) hm rfl (fun j hj=>by have:=hin (xs.length+j) (by omega);rwa [show 0+(xs.length+j)=0+xs.length+j by omega] at this) (fun j _=>zdA hbb) (ze5 hvbb) (zcq [nm])
 refine Calls.mono h fun e w' ⟨he,hw⟩=>zk9 hs hb hbb hk hspf (Al4 _) (by omega) hm hsp hlt he (.inl ?_)
 have e1:(xs.map z8++s0::spt).take xs.length=xs.map z8:=List.take_left' hxl
 have e2:(xs.map z8++s0::spt).drop (xs.length+[z8 nm].length)=spt:=by
  rw[List.length_singleton,show xs.length+1=(xs.map z8).length+1 by omega,← List.drop_drop,List.drop_left]
  rfl
 rw[Nat.zero_add,Yi b E _ _ _ _ hbb (by rw[hfull,List.length_singleton];omega),e1,e2] at hw
 rw[hw,List.take_length,List.drop_length]
 congr 2
 simp only[List.map_append,List.map_cons,List.map_nil]
theorem zjX (hs:zr γ w H) (hvbb:w.heap[vb]?=some (.cells [z8 nm].toArray Ev (0,0)))
  (hbb:w.heap[b]?=some (.cells (xs.map z8++spv).toArray E (0,0))) (hc:xs.length≤cap) (hcl:cap=xs.length) (hlen:xs.length≤1099511627776) :
  Calls Tryz.prog 256 #[.slice (some ⟨b,0,none⟩) xs.length cap,.int .i64 xs.length,.slice (some ⟨vb,0,none⟩) 1 1] w fun e W=>zct H γ w (.ms b 0 xs.length cap) (xs.take xs.length++nm::xs.drop xs.length) e W:=by
 have hxl:(xs.map z8).length=xs.length:=List.length_map ..
 have hG:=grownCap_ge w (xs.length+1) cap (Tryz.laysNm222_ren.t 9)
 have hGm:=grownCap_le_maxLen w (xs.length+1) cap (Tryz.laysNm222_ren.t 9) (by simp only[maxLen];omega)
 have h:=Any2.slices_Insert_string_end_grow Tryz.laysNm222 (some ⟨b,0,none⟩) xs.length cap vb 0 1 1 (xs.map z8) [z8 nm] w (by omega) hc (by omega) (by omega) hxl rfl (fun h=>by cases h) (fun a ha j v hj=>by cases ha;rw[Lib.addr_add];exact zmw hbb j v hj) (ze5 hvbb) (zcq [nm])
 generalize grownCap w (xs.length+1) cap (Tryz.laysNm222_ren.t 9)=G at *
 refine Calls.mono h fun e w' ⟨he,hw⟩=>?_
 rw[zfe,List.append_toArray] at hw
 have hw2:w'=w.drew.alloc (.cells ((xs.take xs.length++nm::xs.drop xs.length).map z8++(List.replicate (G-(xs.length+1)) []).map z8).toArray (Tryz.laysNm222_ren.t 9)):=by
  rw[hw,List.take_length,List.drop_length,List.map_replicate,List.map_append,List.map_cons,List.map_nil]
 refine zhl (E:=Tryz.laysNm222_ren.t 9) hs (Al4 _) hG hGm he ?_ (by rw[hw2];exact heap_alloc_new w.drew _)
 rw[hw2]
 exact(Ye (fun c=>c=w.heap.size) γ w).trans (Z3 (fun c=>c=w.heap.size) γ w.drew .own _ _) (fun _ _ f=>f)
theorem zme {w W:World} {N:Nat} {E:TypeId} {γ:Gh} {A vs us C:List Value} {i j:Nat} (hN:N=w.heap.size) (hw:W=(((w.alloc (.cells A.toArray E)).drew.setCells N i vs).drew).setCells N j us) (h1:i+vs.length≤A.length) (h2:j+us.length≤A.length)
  (hC:(A.take i++vs++A.drop (i+vs.length)).take j++us++(A.take i++vs++A.drop (i+vs.length)).drop (j+us.length)=C) :
  Ext (fun c=>c=w.heap.size) γ w (fun c=>if c=w.heap.size then .own else γ c) W∧W.heap[w.heap.size]?=some (.cells C.toArray E (0,0)):=by
 subst hN
 have hb1:(w.alloc (.cells A.toArray E)).drew.heap[w.heap.size]?=some (.cells A.toArray E (0,0)):=heap_alloc_new w _
 have x1:Ext (fun c=>c=w.heap.size) γ w (fun c=>if c=w.heap.size then .own else γ c) (w.alloc (.cells A.toArray E)).drew:=(Z3 (fun c=>c=w.heap.size) γ w .own A.toArray E).trans (Ye (fun c=>c=w.heap.size) _ _) (fun _ _ f=>f)
 rw[Yi w.heap.size E _ _ A _ hb1 h1] at hw
 generalize hB:A.take i++vs++A.drop (i+vs.length)=B at *
 have hBl:B.length=A.length:=by rw[← hB];simp only[Al5,List.length_take,zgo];omega
 generalize hw1:(w.alloc (.cells A.toArray E)).drew=w1 at *
 have hb2:=setRow_heap w1 w.heap.size A.toArray B.toArray E (0,0) hb1
 have x2:Ext (fun c=>c=w.heap.size) (fun c=>if c=w.heap.size then .own else γ c) w1 (fun c=>if c=w.heap.size then .own else γ c) (w1.setRow w.heap.size B.toArray) :=
  YK (F:=fun c=>c=w.heap.size) hb1 (by simpa using hBl) rfl (fun q hq=>by simp[Yv] at hq) (fun _ _=>rfl)
 generalize w1.setRow w.heap.size B.toArray=w2 at *
 have hb3:w2.drew.heap[w.heap.size]?=some (.cells B.toArray E (0,0)):=hb2
 rw[Yi w.heap.size E _ _ B _ hb3 (by omega),hC] at hw
 have hb4:=setRow_heap w2.drew w.heap.size B.toArray C.toArray E (0,0) hb3
 have hCl:C.length=B.length:=by rw[← hC];simp only[Al5,List.length_take,zgo];omega
 have x3:Ext (fun c=>c=w.heap.size) (fun c=>if c=w.heap.size then .own else γ c) w2.drew (fun c=>if c=w.heap.size then .own else γ c) (w2.drew.setRow w.heap.size C.toArray) :=
  YK (F:=fun c=>c=w.heap.size) hb3 (by simpa using hCl) rfl (fun q hq=>by simp[Yv] at hq) (fun _ _=>rfl)
 rw[← hw] at hb4 x3
 exact⟨((x1.trans x2 (fun _ _ f=>f)).trans (Ye (fun c=>c=w.heap.size) _ w2) (fun _ _ f=>f)).trans x3 (fun _ _ f=>f),hb4⟩
theorem zrs (hs:zr γ w H) (hvbb:w.heap[vb]?=some (.cells [z8 nm].toArray Ev (0,0)))
  (hbb:w.heap[b]?=some (.cells (xs.map z8++spv).toArray E (0,0))) (hc:xs.length≤cap) (hcl:cap=xs.length) (hil:i<xs.length) (hlen:xs.length≤1099511627776) :
  Calls Tryz.prog 256 #[.slice (some ⟨b,0,none⟩) xs.length cap,.int .i64 i,.slice (some ⟨vb,0,none⟩) 1 1] w fun e W=>zct H γ w (.ms b 0 xs.length cap) (xs.take i++nm::xs.drop i) e W:=by
 have hxl:(xs.map z8).length=xs.length:=List.length_map ..
 have hG:=grownCap_ge w (xs.length+1) cap (Tryz.laysNm222_ren.t 9)
 have hGm:=grownCap_le_maxLen w (xs.length+1) cap (Tryz.laysNm222_ren.t 9) (by simp only[maxLen];omega)
 have h:=Any2.slices_Insert_string_grow Tryz.laysNm222 b 0 xs.length cap i vb 0 1 1 (xs.map z8) [z8 nm] w hil (by omega) hc (by omega) (by omega) hxl rfl (zmw hbb) (ze5 hvbb) (zcq xs) (zcq [nm])
 generalize grownCap w (xs.length+1) cap (Tryz.laysNm222_ren.t 9)=G at *
 refine Calls.mono h fun e w' ⟨he,hw⟩=>?_
 rw[zfe,zfe,List.append_toArray,List.append_toArray] at hw
 have hl1:((xs.map z8).take i).length=i:=by rw[List.length_take,hxl];omega
 have hdl:((xs.map z8).drop i).length=xs.length-i:=by rw[zgo,hxl]
 obtain⟨g1,g2⟩:=zme (γ:=γ) (C:=(xs.take i++nm::xs.drop i).map z8++(List.replicate (G-(xs.length+1)) []).map z8) rfl hw (by simp only[Al5,hl1,List.length_replicate,List.length_singleton];omega) (by simp only[Al5,hl1,hdl,List.length_replicate];omega) (by
  have t1:((xs.map z8).take i++List.replicate (xs.length+1-i) (z8 [])++List.replicate (G-(xs.length+1)) (z8 [])).take i=(xs.map z8).take i:=by rw[zb0,List.take_left' hl1]
  rw[t1]
  have t2:((xs.map z8).take i++[z8 nm]++((xs.map z8).take i++List.replicate (xs.length+1-i) (z8 [])++List.replicate (G-(xs.length+1)) (z8 [])).drop (i+[z8 nm].length)).take (i+1)=(xs.map z8).take i++[z8 nm]:=List.take_left' (by rw[Al5,hl1];rfl)
  rw[t2]
  have t3:((xs.map z8).take i++[z8 nm]++((xs.map z8).take i++List.replicate (xs.length+1-i) (z8 [])++List.replicate (G-(xs.length+1)) (z8 [])).drop (i+[z8 nm].length)).drop (i+1+((xs.map z8).drop i).length)=List.replicate (G-(xs.length+1)) (z8 []):=by
   rw[← List.drop_drop,List.drop_left' (by rw[Al5,hl1];rfl),List.drop_drop,List.drop_left' (by simp only[Al5,hl1,hdl,List.length_replicate,List.length_singleton];omega)]
  rw[t3,List.map_append,List.map_cons,List.map_take,List.map_drop,List.map_replicate]
  simp only[zb0,List.singleton_append,Al6,zcU])
 exact zhl (E:=Tryz.laysNm222_ren.t 9) hs (by omega) hG hGm he g1 g2
end
theorem zxP (H:zb) (lv:AV) (xs:List (List UInt8)) (i:Nat) (nm:List UInt8) (vb:Nat) (hl:zfI H lv xs) (hi:i≤xs.length) (hvb:H vb=some (.cells [.str nm])) (hne:∀ b n c,lv=.ms b 0 n c→b≠vb) (hlen:xs.length≤1099511627776) :
  zi Tryz.prog 256 [lv,.int .i64 i,.ms vb 0 1 1] H (fun e H'=>match e with|.ret v=>InsS H lv H' v (xs.take i++nm::xs.drop i)|.pan _=>False):=by
 intro γ w vs ht hs hv
 obtain⟨hlv,hr⟩:=hv
 match vs,hlv with
 | [v0,v1,v2],_ =>
  have r0:=hr 0 _ _ rfl rfl
  cases hr 1 _ _ rfl rfl
  cases hr 2 _ _ rfl rfl
  have hvo:=hs vb _ hvb
  cases hvo with
  | cells _ vv Ev hkv hvbb hvl hv1 hvr =>
  obtain⟨z,ez,hz⟩:=zfg (xs:=[nm]) (sp:=[]) (γ:=γ) (w:=w) (vs:=vv) ⟨by simpa using hvl,hv1,fun i c v hc hv=>hvr i c v (by simpa using hc) hv⟩
  obtain rfl:z=[]:=List.eq_nil_of_length_eq_zero (by simpa using hz.1.symm)
  obtain rfl:vv=[z8 nm]:=by simpa using ez
  rcases hl with ⟨rfl,rfl⟩|⟨b,cap,sp,rfl,hb,hsp⟩
  ·obtain rfl:i=0:=by simpa using hi
   have e0:v0=.slice none 0 0:=by
    cases r0 with
    | slnil _ _ ho=>rfl
    | sl0 _ _ a ho=>rcases ho with h|h<;>cases h
    | sl _ _ _ b off cap cv hc hm hu hcell hrr ho=>exact False.elim ho
   subst e0
   exact zrZ hs hvbb
  ·have hbo:=hs b _ hb
   cases hbo with
   | cells _ bv E hk hbb hbl hb1 hbr =>
   have hbv:b≠vb:=hne _ _ _ rfl
   obtain⟨spv,rfl,hspf⟩:=zfg (xs:=xs) (sp:=sp) (γ:=γ) (w:=w) ⟨hbl,hb1,hbr⟩
   have hspl:=hspf.1
   cases r0 with
   | ms _ _ _ _ hlt hc hm =>
   cases spv with
   | nil =>
    rw[Al3] at hspl
    by_cases hil:i<xs.length
    ·exact zrs hs hvbb hbb hc (by omega) hil hlen
    ·obtain rfl:i=xs.length:=by omega
     exact zjX hs hvbb hbb hc (by omega) hlen
   | cons s0 spt =>
    cases sp with
    | nil=>rw[Al3,Al2] at hspl;omega
    | cons a0 spa =>
     have hspf':zo γ w spa spt:=⟨by simpa using hspf.1,fun i v h=>hspf.2.1 (i+1) v (by simpa using h),fun i c v hc h=>hspf.2.2 (i+1) c v (by simpa using hc) (by simpa using h)⟩
     rw[Al2] at hsp
     by_cases hil:i<xs.length
     ·exact zpn hs hvbb hb hbb hk hspf' hil hm (by omega) hbv
     ·obtain rfl:i=xs.length:=by omega
      exact zjm hs hvbb hb hbb hk hspf' hm (by omega)
end Go.Proofs.YtbjofkamhijjlaaGreatDoor
namespace Go.Proofs.YtbjofkamhijjlaaGreatDoor
open Go.Ab
def zpX:BK→BK
 | .own=>.imm
 | k=>k
def zf9 (γ:Gh):Gh:=fun c=>zpX (γ c)
theorem zhH {k:BK} (h:k≠.own):zpX k=k:=by cases k<;>first|rfl|exact absurd rfl h
theorem zmV {γ:Gh} {b o:Nat} (h:Yv γ b o):γ b≠.own:=fun e=>by simp[Yv,e] at h
theorem zgv {γ γ':Gh} {b o:Nat} (h:Yv γ b o) (e:γ' b=γ b):Yv γ' b o:=by simpa only[Yv,e] using h
theorem za7 (γ:Gh) (w:World):Mono γ w (zf9 γ) w:=⟨Al4 _,fun b o v hc hp=>⟨zgv hp (zhH (zmV hp)),hc⟩,fun b arr E fr h=>⟨arr,h,rfl⟩⟩
def zez (H:zb) (a b:AV):Prop:=∀ γ w v,zr γ w H→Rep γ w a v→Rep (zf9 γ) w b v
def YQ (H:zb):List AV→List AV→Prop
 | [],[]=>True
 | a::aa,b::bb=>zez H a b∧YQ H aa bb
 | _,_=>False
def ziu (H:zb):List (List AV)→List (List AV)→Prop
 | [],[]=>True
 | a::aa,b::bb=>YQ H a b∧ziu H aa bb
 | _,_=>False
section
variable {H:zb}
theorem zez.refl (a:AV):zez H a a:=fun γ w v _ h=>h.mono (za7 γ w)
theorem zez.low (a:AV):zez H a a.strip1:=fun γ w v _ h=>(h.mono (za7 γ w)).strip1
theorem YQ.get:∀ {aa bb:List AV},YQ H aa bb→aa.length=bb.length∧∀(i:Nat) (a b:AV),aa[i]?=some a→bb[i]?=some b→zez H a b
 | [],[],_=>⟨rfl,fun i a b h=>by simp at h⟩
 | a::aa,b::bb,h=>by
  obtain⟨h1,h2⟩:=YQ.get h.2
  refine⟨by simp[h1],fun i x y hx hy=>?_⟩
  cases i with
  | zero=>simp only[List.getElem?_cons_zero,Al1] at hx hy;subst hx;subst hy;exact h.1
  | succ i=>simp only[List.getElem?_cons_succ] at hx hy;exact h2 i x y hx hy
theorem ziu.get:∀ {aa bb:List (List AV)},ziu H aa bb→aa.length=bb.length∧∀(i:Nat) (a b:List AV),aa[i]?=some a→bb[i]?=some b→YQ H a b
 | [],[],_=>⟨rfl,fun i a b h=>by simp at h⟩
 | a::aa,b::bb,h=>by
  obtain⟨h1,h2⟩:=ziu.get h.2
  refine⟨by simp[h1],fun i x y hx hy=>?_⟩
  cases i with
  | zero=>simp only[List.getElem?_cons_zero,Al1] at hx hy;subst hx;subst hy;exact h.1
  | succ i=>simp only[List.getElem?_cons_succ] at hx hy;exact h2 i x y hx hy
theorem YQ.refl:∀ l:List AV,YQ H l l
 | []=>trivial
 | a::l=>⟨.refl a,YQ.refl l⟩
theorem zez.agg {aa bb:List AV} (h:YQ H aa bb):zez H (.agg aa) (.agg bb):=fun γ w v hs hr=>by
 obtain⟨h1,h2⟩:=h.get
 cases hr with
 | agg _ vs hl h3 h4 =>
  refine .agg _ vs (by omega) h3 fun i c u hc hu=>?_
  obtain⟨a,ha⟩:∃ a,aa[i]?=some a:=⟨_,Al9 (by have:=(Z4.1 hc).1;omega)⟩
  exact h2 i a c ha hc γ w u hs (h4 i a u ha hu)
theorem zez.sl {o:Own} {sz:Nat} {aa bb:List (List AV)} (h:ziu H aa bb):zez H (.sl o sz aa) (.sl .no sz bb):=fun γ w v hs hr=>by
 obtain⟨h1,h2⟩:=h.get
 cases hr with
 | slnil _ _ ho =>
  have:bb=[]:=zib.1 h1.symm
  subst this;exact .slnil .no _ (by simp)
 | sl0 _ _ a ho =>
  have:bb=[]:=zib.1 h1.symm
  subst this;exact .sl0 .no _ a (.inl rfl)
 | sl _ _ _ b off cap cv hc hm hu hcell hrr ho =>
  have hin:∀ {i:Nat} {x:List AV},bb[i]?=some x→∃ y,aa[i]?=some y∧YQ H y x:=fun {i x} hx=>by
   obtain⟨a,ha⟩:∃ a,aa[i]?=some a:=⟨_,Al9 (by have:=(Z4.1 hx).1;omega)⟩
   exact⟨a,ha,h2 i a x ha hx⟩
  rw[h1]
  refine .sl .no sz bb b off cap cv (by omega) hm (fun x hx=>?_) (fun i x hx j hj=>?_) (fun i x hx j c hc=>?_) trivial
  ·obtain⟨i,hi,rfl⟩:=List.getElem_of_mem hx
   obtain⟨y,hy,hl⟩:=hin (Al9 hi)
   rw[← (YQ.get hl).1];exact hu y (List.mem_of_getElem? hy)
  ·obtain⟨y,hy,_⟩:=hin hx
   exact(hcell i y hy j hj).mono (za7 γ w)
  ·obtain⟨y,hy,hl⟩:=hin hx
   obtain⟨g1,g2⟩:=YQ.get hl
   obtain⟨a,ha⟩:∃ a,y[j]?=some a:=⟨_,Al9 (by have:=(Z4.1 hc).1;omega)⟩
   exact g2 j a c ha hc γ w _ hs (hrr i y hy j a ha)
end
def MsB (H:zb) (m:AV) (rs:List (List AV)):Prop:=∃ b pad,m=.ms b 0 rs.length (rs.length+pad.length)∧H b=some (.cells (rs++pad).flatten)∧∀ r∈rs++pad,r.length=7
theorem zhd:∀ rs:List (List AV),(rs.map (·.map AV.strip1)).flatten=rs.flatten.map AV.strip1
 | []=>rfl
 | r::rs=>by simp only[List.map_cons,List.flatten_cons,List.map_append,zhd rs]
theorem zez.ms {H:zb} {m:AV} {rs:List (List AV)} (h:MsB H m rs):zez H m (.sl .no 7 (rs.map (·.map AV.strip1))):=fun γ w v hs hr=>by
 obtain⟨b,pad,rfl,hb,h7⟩:=h
 cases hs b _ hb with
 | cells _ vs E hk hbb hl hone hrr =>
 cases hr with
 | ms _ _ _ _ hlt hc hm =>
 have h7':∀ x∈rs.map (·.map AV.strip1),x.length=7:=fun x hx=>by
  obtain⟨y,hy,rfl⟩:=List.mem_map.1 hx
  rw[List.length_map];exact h7 y (ZZ _ hy)
 have hfl:=zR 7 (rs++pad) h7
 have hf1:=zR 7 _ h7'
 simp only[Al5,List.length_map] at hfl hf1
 have hn:(rs.map (·.map AV.strip1)).length=rs.length:=List.length_map ..
 have key:Rep (zf9 γ) w (.sl .no 7 (rs.map (·.map AV.strip1))) (.slice (some ⟨b,0,none⟩) (rs.map (·.map AV.strip1)).length (rs.length+pad.length)):=by
  refine Rep.sl_flat (us:=vs.take (rs.length*7)) h7' (by rw[hf1,List.length_take];omega) (fun k u hk'=>?_) (fun k c u hc hk'=>?_) (by rw[hn];exact hc) hm trivial
  ·have hu:vs[k]?=some u:=by
    rw[zgW] at hk'
    split at hk'
    ·exact hk'
    ·cases hk'
   refine⟨?_,by simp[Yv,zf9,hk,zpX],hone k u hu⟩
   rw[Nat.zero_add,zeA hbb,List.getElem?_toArray];exact hu
  ·have hu:vs[k]?=some u:=by
    rw[zgW] at hk'
    split at hk'
    ·exact hk'
    ·cases hk'
   rw[zhd,YH] at hc
   cases hx:rs.flatten[k]? with
   | none=>simp[hx] at hc
   | some x =>
    simp only[hx,zak,Al1] at hc
    subst hc
    have hx2:(rs++pad).flatten[k]?=some x:=by rw[List.flatten_append,zb8 (Z4.1 hx).1];exact hx
    exact((hrr k x u hx2 hu).mono (za7 γ w)).strip1
 rw[hn] at key
 exact key
def zw4:BK→Bool
 | .own=>true
 | _=>false
def zhS (γ γ':Gh) (n:Nat):Gh:=fun c=>if c<n∧zw4 (γ c)=true then .own else γ' c
theorem zlQ {γ γ':Gh} {n c:Nat} (h:γ c≠.own):zhS γ γ' n c=γ' c:=if_neg fun⟨_,e⟩=>by
 cases hk:γ c<;>rw[hk] at e h<;>first|exact h rfl|cases e
theorem zo5 {γ γ':Gh} {n c:Nat} (h:n≤c):zhS γ γ' n c=γ' c:=if_neg fun⟨e,_⟩=>by omega
theorem zlR {γ γ':Gh} {w w':World} {H:zb} (hs:zr γ w H) (h:Ext (fun b=>(zb.emp b).isSome=true) (zf9 γ) w γ' w') :
  Ext (fun b=>(H b).isSome=true) γ w (zhS γ γ' w.heap.size) w'∧zr (zhS γ γ' w.heap.size) w' H:=by
 have hg:∀ b,b<w.heap.size→zhS γ γ' w.heap.size b=γ b∧w'.heap[b]?=w.heap[b]?:=fun b hb=>by
  obtain⟨h1,h2⟩:=h.frame b hb (fun e=>by cases (show false=true from e))
  refine⟨?_,h2⟩
  by_cases ho:γ b=.own
  ·rw[ho];exact if_pos ⟨hb,by rw[ho];rfl⟩
  ·rw[zlQ ho,h1];exact zhH ho
 have m:Mono γ w (zhS γ γ' w.heap.size) w':=⟨h.mono.size,fun b o v hc hp=>by
  have hn:=zmV hp
  obtain⟨h1,h2⟩:=h.mono.cell b o v hc (zgv hp (zhH hn))
  exact⟨zgv h1 (zlQ hn),h2⟩,h.mono.shape⟩
 exact⟨⟨m,h.os,h.output,h.frozen,fun b hb _=>hg b hb⟩,fun b o hb=>(hs b o hb).kept m (hg b (hs b o hb).lt).1 (hg b (hs b o hb).lt).2⟩
theorem YQ.all {γ:Gh} {w:World} {H:zb} {aa bb:List AV} {vs:List Value} (h:YQ H aa bb) (hs:zr γ w H) (hv:yg γ w aa vs):yg (zf9 γ) w bb vs:=by
 obtain⟨h1,h2⟩:=h.get
 refine⟨by rw[← h1];exact hv.1,fun i c v hc hu=>?_⟩
 obtain⟨a,ha⟩:∃ a,aa[i]?=some a:=⟨_,Al9 (by have:=(Z4.1 hc).1;omega)⟩
 exact h2 i a c ha hc γ w v hs (hv.2 i a v ha hu)
theorem zi.lend {P:Program} {f:FuncId} {aa bb:List AV} {r:AV} {H:zb} (hr:∀ γ w γ' w' v,Rep γ w r v→Rep γ' w' r v) (hl:YQ H aa bb) (h:zg P f bb r):zi P f aa H (fun e H'=>match e with|.ret v=>v=r∧H'=H|.pan _=>False):=by
 intro γ w vs ht hs hv
 refine(h (zf9 γ) w vs (ht.mono (za7 γ w)) (fun b o hb=>by simp[zb.emp] at hb) (hl.all hs hv)).mono fun e w' ⟨γ',H',r',hext,hst,hkeys,hend,he,hH⟩=>?_
 subst he
 obtain⟨g1,g2⟩:=zlR hs hext
 refine⟨_,H,.ret r,g1,g2,fun b hb=>.inl hb,?_,rfl,rfl⟩
 cases e with
 | returned v=>exact hr _ _ _ _ v hend
 | panicked ch=>exact hend
 | outgrown=>exact hend
theorem zi.lendT {P:Program} {f:FuncId} {aa bb:List AV} {xs:List (List UInt8)} {H:zb} (hl:YQ H aa bb)
  (h:zi P f bb zb.emp (fun e H'=>match e with|.ret v=>∃ o,o≠.full∧v=.sl o 1 (cT xs)∧OwnS zb.emp .nil H' o xs.length 1|.pan _=>False)):zae P f aa H .nil 1 (cT xs):=by
 intro γ w vs ht hs hv
 refine(h (zf9 γ) w vs (ht.mono (za7 γ w)) (fun b o hb=>by simp[zb.emp] at hb) (hl.all hs hv)).mono fun e w' ⟨γ',H',r',hext,hst,hkeys,hend,hq⟩=>?_
 cases r' with
 | pan v=>exact hq.elim
 | ret lv =>
 obtain⟨o,hof,rfl,hown⟩:=hq
 obtain⟨g1,g2⟩:=zlR hs hext
 have hw:=hown.own
 have ht':=zD xs
 cases e with
 | panicked ch=>exact hend.elim
 | outgrown=>exact hend.elim
 | returned v =>
 have hrep:Rep γ' w' (.sl o 1 (cT xs)) v:=hend
 cases o with
 | no=>exact hw.elim
 | full=>exact absurd rfl hof
 | nil =>
  have hx:xs=[]:=zib.1 hw
  subst hx
  refine⟨_,H,.ret (.sl .nil 1 []),g1,g2,fun b hb=>.inl hb,?_,.nil,rfl,rfl,fun b x hb _=>hb,fun b d e=>by cases e⟩
  show Rep _ _ _ _
  cases hrep with
  | slnil _ _ ho=>exact .slnil _ _ ho
  | sl0 _ _ a ho=>rcases ho with ho|ho<;>cases ho
  | sl _ _ _ _ _ _ _ _ _ _ _ _ ho=>exact ho.elim
 | tip b d =>
  have hb:H' b=some (.tip (d+xs.length) 1):=hw
  have hnew:w.heap.size≤b:=by
   rcases hkeys b (by rw[hb];rfl) with h1|h1
   ·simp[zb.emp] at h1
   ·exact h1
  have hHb:H b=none:=by
   cases hx:H b with
   | none=>rfl
   | some x=>have:=(hs b x hx).lt;omega
  have hgb:zhS γ γ' w.heap.size b=γ' b:=zo5 hnew
  refine⟨_,H.upd b (.tip (d+xs.length) 1),.ret (.sl (.tip b d) 1 (cT xs)),g1,fun c x hc=>?_,fun c hc=>?_,?_,.tip b d,rfl,by rw[ht'];exact upd_same ..,fun c x hc _=>?_,fun c d' e=>by cases e;exact .inl hHb⟩
  ·unfold zb.upd at hc
   split at hc
   ·rename_i e
    subst e
    simp only[Al1] at hc
    subst hc
    cases hst _ _ hb with
    | tip _ _ arr E hk hbb hl2=>exact .tip _ _ arr E (hgb.trans hk) hbb hl2
   ·exact g2 c x hc
  ·unfold zb.upd at hc
   split at hc
   ·rename_i e;subst e;exact .inr hnew
   ·exact .inl hc
  ·show Rep _ _ _ _
   generalize hX:cT xs=X at hrep ⊢
   cases hrep with
   | slnil _ _ ho=>exact absurd rfl (ho b d)
   | sl0 _ _ a ho=>rcases ho with ho|ho<;>cases ho
   | sl _ _ _ b0 off cap cv hc hm hu hcell hrr ho =>
    refine .sl _ _ _ b0 off cap cv hc hm hu (fun i x hx j hj=>?_) (fun i x hx j c hj=>?_) ho
    ·obtain⟨h1,h2,h3⟩:=hcell i x hx j hj
     refine⟨h1,?_,h3⟩
     rcases ho with h4|⟨h4,_⟩
     ·have:=(Z4.1 hx).1;omega
     ·simp only[Addr.mk.injEq] at h4
      rw[h4.1] at h2 ⊢
      exact zgv h2 hgb
    ·have hxm:=List.mem_of_getElem? hx
     rw[← hX] at hxm
     obtain⟨t,_,rfl⟩:=List.mem_map.1 hxm
     have h5:=hrr i _ hx j c hj
     cases j with
     | zero =>
      simp only[List.getElem?_cons_zero,Al1] at hj
      subst hj
      generalize cv i 0=u at h5 ⊢
      cases h5
      exact .str t
     | succ j=>simp at hj
  ·have:c≠b:=fun e=>by subst e;rw[hHb] at hc;cases hc
   simp only[zb.upd,this,if_false];exact hc
def ir9000 : AFn := ⟨33, 1, [.t 2], .seq (.reg [] [⟨some 2, none, .mv (.k (.sl .nil 7 [])), []⟩])
 (.seq (.reg [] [⟨some 3, none, .mv (.k (.sl .nil 7 [])), []⟩])
 (.seq (.seq (.reg [] [⟨some 4, none, .mv (.k (.int .i64 0)), []⟩])
 (.block 0 (.loop [0, 3, 4] (.seq (.seq (.reg [] [⟨some 6, none, .mv (.t 4), []⟩, ⟨some 7, none, .mv (.t 0), []⟩, ⟨some 8, none, .len (.t 7), []⟩, ⟨some 9, none, .bi .lss .i64 (.t 6) (.t 8), []⟩])
 (.cond (.t 9) (.skip) (.exit 0)))
 (.seq (.block 1 (.seq (.reg [] [⟨some 12, none, .mv (.t 0), []⟩, ⟨some 13, none, .mv (.t 4), []⟩, ⟨some 14, none, .ia 7 (.t 12) (.t 13), []⟩, ⟨some 15, none, .ld 7 true (.t 14), []⟩, ⟨some 5, none, .alloc [.int .i64 0, .str [], .str [], .sl .nil 6 [], .sl .nil 2 [], .str [], .sl .nil 7 []], []⟩, ⟨none, none, .st 7 (.t 5) (.t 15), []⟩])
 (.seq (.reg [0, 1, 3, 4, 6, 7, 2, 9, 5, 8, 10, 11, 12, 13, 14] [⟨some 16, none, .fa 3 (.t 5), []⟩, ⟨some 17, none, .ld 1 false (.t 16), []⟩, ⟨some 19, none, .fa 4 (.t 5), []⟩, ⟨some 20, none, .ld 1 false (.t 19), []⟩, ⟨some 22, none, .fa 6 (.t 5), []⟩, ⟨some 23, none, .ld 1 false (.t 22), []⟩, ⟨some 18, none, .call 22 [(.t 17)], [3, 5]⟩, ⟨some 25, none, .fa 3 (.t 5), []⟩, ⟨some 21, none, .call 19 [(.t 20)], [5]⟩, ⟨some 24, none, .call 9 [(.t 23)], []⟩, ⟨none, none, .st 1 (.t 25) (.t 18), []⟩, ⟨some 26, none, .fa 4 (.t 5), []⟩, ⟨none, none, .st 1 (.t 26) (.t 21), []⟩, ⟨some 27, none, .fa 6 (.t 5), []⟩, ⟨none, none, .st 1 (.t 27) (.t 24), []⟩])
 (.reg [] [⟨some 28, none, .mv (.t 3), []⟩, ⟨some 29, none, .ld 7 true (.t 5), []⟩, ⟨some 30, none, .bls 7 1 [.int .i64 0, .str [], .str [], .sl .nil 6 [], .sl .nil 2 [], .str [], .sl .nil 7 []] [(0, (.t 29))], []⟩, ⟨some 31, none, .appm 7 128 [.int .i64 0, .str [], .str [], .sl .nil 6 [], .sl .nil 2 [], .str [], .sl .nil 7 []] (.t 28) (.t 30), []⟩, ⟨some 3, none, .mv (.t 31), []⟩]))))
 (.reg [] [⟨some 10, none, .mv (.t 4), []⟩, ⟨some 11, none, .bi .add .i64 (.t 10) (.k (.int .i64 1)), []⟩, ⟨some 4, none, .mv (.t 11), []⟩]))))))
 (.seq (.reg [] [⟨some 32, none, .mv (.t 3), []⟩, ⟨some 2, none, .mv (.t 32), []⟩])
 (.ret))))⟩
theorem ck9000:zh Tryz.prog 9 ir9000=true:=by kernel_rfl
theorem MsB.kept {H H':zb} {m:AV} {rs:List (List AV)} (h:MsB H m rs) (hk:∀ c cs,H c=some (.cells cs)→cs.length % 7=0→H' c=some (.cells cs)):MsB H' m rs:=by
 obtain⟨b,pad,rfl,hb,h7⟩:=h
 exact⟨b,pad,rfl,hk b _ hb (by rw[zR 7 _ h7];omega),h7⟩
structure MsA (H0:zb) (x:AV) (H:zb) (rs:List (List AV)):Prop where
 kept:∀ c y,H0 c=some y→H c=some y
 own:(x=.sl .nil 7 []∧rs=[])∨MsB H x rs
 new:∀ b n k,x=.ms b 0 n k→H0 b=none
theorem Zt {H:zb} {b c:Nat} {x y:AObj} (hb:H b=none) (h:H c=some y):(H.upd b x) c=some y:=by
 rw[upd_ne (fun e=>by subst e;rw[hb] at h;cases h)];exact h
theorem MsA.nil (H:zb):MsA H (.sl .nil 7 []) H []:=⟨fun _ _ h=>h,.inl ⟨rfl,rfl⟩,fun b n k e=>by cases e⟩
theorem MsA.upd {H0 H:zb} {x:AV} {rs:List (List AV)} {b:Nat} {o:AObj} (h:MsA H0 x H rs) (hb:H b=none):MsA H0 x (H.upd b o) rs :=
 ⟨fun c y hc=>Zt hb (h.kept c y hc),h.own.imp id fun h1=>h1.kept fun c cs hc _=>Zt hb hc,h.new⟩
theorem MsA.one {H0 H:zb} {x:AV} {rs:List (List AV)} (h:MsA H0 x H rs):x.cells=[x]∧x.boxable=true:=by
 rcases h.own with ⟨rfl,_⟩|⟨b,pad,rfl,_⟩<;>exact⟨rfl,rfl⟩
theorem zfW (zero:List AV):∀ n,zbY zero n=(List.replicate n zero).flatten
 | 0=>rfl
 | n+1=>by rw[zbY,zfW zero n,List.replicate_succ,List.flatten_cons]
theorem zou {P:Program} {KP:AV→zb→Prop} {Q:AExit→Env→zb→Prop} {st:List Fr} {ρ:Env} {H0 H:zb} {all l:List AItem} {d:Option Nat} {R:List Chk} {bytes:Nat} {zero:List AV} {o2:Own} {x:AV} {rs:List (List AV)} {y:List AV}
  (h:MsA H0 x H rs) (hy:y.length=7) (hz:zero.length=7) (h1:(rs.length+1)*bytes≤140737488355328) (h2:rs.length+1≤maxLen)
  (hk:∀ v H',MsA H0 v H' (rs++[y.map AV.strip1])→goR P KP Q all l st R (ρ.set d v) H'):zwp AV.strip1 P KP Q all l st d R ρ 7 bytes zero x (.sl o2 7 [y]) H:=by
 obtain⟨hkept,hown,hnew⟩:=h
 have hy':(y.map AV.strip1).length=7:=by rw[List.length_map];exact hy
 have hrep:∀ n,∀ r∈List.replicate n zero,r.length=7:=fun n r hr=>by rw[List.eq_of_mem_replicate hr];exact hz
 have hfresh:∀ b,H b=none→H0 b=none:=fun b hb=>by
  cases hx:H0 b with
  | none=>rfl
  | some z=>have:=hkept _ _ hx;rw[hb] at this;cases this
 have hfl:([y].flatten.map AV.strip1)=y.map AV.strip1:=by simp
 unfold zwp zhK
 rcases hown with ⟨rfl,rfl⟩|⟨b,pad,rfl,hb,h7⟩
 ·refine⟨rfl,hz,rfl,rfl,by simpa using h1,by simpa using h2,(fun e=>by cases e),fun _ b cap hb hc hm=>hk _ _ ⟨fun c z hcz=>Zt hb (hkept c z hcz),.inr ⟨b,List.replicate (cap-1) zero,?_,?_,?_⟩,fun b' n k e=>?_⟩⟩
  ·have:1+(cap-1)=cap:=by simp only[Al2,Al3] at hc;omega
   simp[this]
  ·rw[upd_same,hfl,zfW];simp
  ·intro r hr
   simp only[zcU,Al6,List.mem_cons] at hr
   rcases hr with rfl|hr
   ·exact hy'
   ·exact hrep _ r hr
  ·cases e;exact hfresh _ hb
 ·have hlen:=zR 7 _ h7
  simp only[Al5] at hlen
  have h7r:∀ r∈rs,r.length=7:=fun r hr=>h7 r (ZZ _ hr)
  refine⟨rfl,hz,by simpa using h1,by simpa using h2,?_⟩
  simp only[hb,Al2,Al3,Nat.zero_add]
  refine⟨fun hle=>⟨by omega,hk _ _ ?_⟩,fun hlt=>⟨by omega,fun b' cap' hb' hle hm=>hk _ _ ?_⟩⟩
  ·cases pad with
   | nil=>simp only[Al3] at hle;omega
   | cons p pad =>
   have hs:=YZ 7 (y.map AV.strip1) hy' (rs++p::pad) rs.length h7 (by simp)
   have e:(rs++p::pad).set rs.length (y.map AV.strip1)=(rs++[y.map AV.strip1])++pad:=by simp
   rw[e] at hs
   refine⟨fun c z hcz=>?_,.inr ⟨b,pad,?_,?_,?_⟩,fun b' n k e=>?_⟩
   ·rw[upd_ne (fun e=>by subst e;have:=hnew _ _ _ rfl;rw[this] at hcz;cases hcz)];exact hkept c z hcz
   ·simp only[Al5,Al2,Al3]
    congr 1;omega
   ·rw[upd_same,hfl,hs]
   ·intro r hr
    simp only[List.mem_append,List.mem_singleton] at hr
    rcases hr with (hr|rfl)|hr
    ·exact h7r r hr
    ·exact hy'
    ·exact h7 r (by simp[hr])
   ·cases e;exact hnew _ _ _ rfl
  ·refine⟨fun c z hcz=>Zt hb' (hkept c z hcz),.inr ⟨b',List.replicate (cap'-(rs.length+1)) zero,?_,?_,?_⟩,fun b2 n k e=>?_⟩
   ·have:rs.length+1+(cap'-(rs.length+1))=cap':=by omega
    simp[this]
   ·have ht:((rs++pad).flatten.drop 0).take (rs.length*7)=rs.flatten:=by
     rw[List.drop_zero,List.flatten_append,← zR 7 rs h7r,List.take_left']
     rfl
    rw[upd_same,ht,hfl,zfW];simp
   ·intro r hr
    simp only[List.mem_append,List.mem_singleton] at hr
    rcases hr with (hr|rfl)|hr
    ·exact h7r r hr
    ·exact hy'
    ·exact hrep _ r hr
   ·cases e;exact hfresh _ hb'
abbrev zul (H:zb) (rs:List (List AV)):AEnd→zb→Prop:=fun e H'=>match e with|.ret v=>MsA H v H' rs|.pan _=>False
theorem zxe (l:List SelD) (H:zb) (hb:bSs l≤Lim):zi Tryz.prog 9 [.sl .no 7 (cSs l)] H (zul H (cSs l)):=by
 unfold zul
 refine zi.goO ir9000 ck9000 (Al4 _) fun KP Q hQ hP=>?_
 have h1:=ZI l
 have hml:=Z6 l
 simp only[Lim] at hb
 simp(disch:=first|omega|assumption) only[ir9000,go_sem]
 refine zf l 4 (fun x:AV=>[(3,x)]) (fun done rest x H'=>MsA H x H' (cSs done)) (.sl .nil 7 []) (by simp(disch:=first|omega|assumption) only[cSs,go_sem]) (MsA.nil H) ?_ ?_
 ·rintro x H1 J hx hlt
  simp(disch:=first|omega|assumption) only[h1,hlt,go_sem]
  exact hQ _ _ H1 H1 [x] nofun (by simp(disch:=first|omega|assumption) only[ir9000,zG,Zk,go_sem]) (Low.refl _) hx
 ·rintro done x rest m H1 J hd hlt hlt' hm hJ
  have hg:=Y4 hd
  have hbm:=zaH done x rest
  rw[← hd] at hbm
  have h2:=ZI done
  have hdl:=congrArg List.length hd
  simp only[Al5,Al2] at hdl
  obtain⟨k,al,nm,args,dirs,on,sels⟩:=x
  simp only[bS] at hbm
  rw[yM] at hg
  simp(disch:=first|omega|assumption) only[h1,hlt,hg,go_sem]
  refine zc fun b hb=>?_
  have hm2:=hm.upd (o:=.cells [.int .i64 k,.str al,.str nm,.sl .no 6 (cMs args),.sl .no 2 (cDs dirs),.str on,.sl .no 7 (cSs sels)]) hb
  simp(disch:=first|omega|assumption) only[h1,hlt,hg,go_sem]
  refine za (zjU args (by simp only[Lim];omega)) ?_
  simp(disch:=first|omega|assumption) only[go_sem]
  refine za (zjr dirs (by simp only[Lim];omega)) ?_
  simp(disch:=first|omega|assumption) only[go_sem]
  refine za (zka sels (by simp only[Lim];omega)) ?_
  simp(disch:=first|omega|assumption) only[go_sem]
  refine zou hm2 rfl rfl (by rw[h2];omega) (by simp only[h2,maxLen];omega) fun v H3 hm3=>?_
  have e:cSs done++[[AV.int .i64 k,.str al,.str nm,.sl .no 6 (cMs args),.sl .no 2 (cDs dirs),.str on,.sl .no 7 (cSs sels)].map AV.strip1]=cSs (done++[.mk k al nm args dirs on sels]):=by simp[zaD,yM,AV.strip1]
  rw[e] at hm3
  simp(disch:=first|omega|assumption) only[wrap64,go_sem]
  exact goJ (hJ v H3 hm3) (by simp(disch:=first|omega|assumption) only[go_sem])
def cOm (o:OpD) (m:AV):List AV:=[.int .i64 o.k,.str o.nm,.sl .no 10 (cWs o.vars),.sl .no 2 (cDs o.dirs),m]
def YI (l:List OpD) (ms:List AV):List (List AV):=List.zipWith cOm l ms
structure MsV (H:zb) (f:Nat→List (List AV)) (ms:List AV):Prop where
 row:∀(i:Nat) m,ms[i]?=some m→(m=.sl .no 7 []∧f i=[])∨MsB H m (f i)
 sep:∀(i j b n k n' k':Nat),ms[i]?=some (.ms b 0 n k)→ms[j]?=some (.ms b 0 n' k')→i=j
theorem MsV.nil (H:zb) (f:Nat→List (List AV)):MsV H f []:=⟨fun i m h=>by simp at h,fun i j b n k n' k' h=>by simp at h⟩
theorem MsV.kept {H H':zb} {f:Nat→List (List AV)} {ms:List AV} (h:MsV H f ms) (hk:∀ c cs,H c=some (.cells cs)→cs.length % 7=0→H' c=some (.cells cs)):MsV H' f ms :=
 ⟨fun i m hm=>(h.row i m hm).imp id fun h1=>h1.kept hk,h.sep⟩
theorem MsV.new {H:zb} {f:Nat→List (List AV)} {ms:List AV} {b:Nat} {o:AObj} (h:MsV H f ms) (hb:H b=none):MsV (H.upd b o) f ms:=h.kept fun c cs hc _=>Zt hb hc
theorem MsV.cell {H:zb} {f:Nat→List (List AV)} {ms:List AV} {b:Nat} {o:AObj} {cs:List AV} (h:MsV H f ms) (hb:H b=some (.cells cs)) (hl:cs.length % 7≠0):MsV (H.upd b o) f ms:=h.kept fun c cs' hc h7=>by
 rw[upd_ne (fun e=>by subst e;rw[hb] at hc;cases hc;exact hl h7)];exact hc
theorem MsV.push {H H':zb} {f:Nat→List (List AV)} {ms:List AV} {m:AV} (h:MsV H f ms) (hm:MsA H m H' (f ms.length)):MsV H' f (ms++[m.strip1]):=by
 have h1:=h.kept (H':=H') fun c cs hc _=>hm.kept c _ hc
 have hin:∀ {i b n k:Nat},ms[i]?=some (.ms b 0 n k)→H b≠none:=fun {i b n k} hi e=>by
  rcases h.row i _ hi with ⟨h2,_⟩|⟨b',pad,h2,h3,_⟩
  ·cases h2
  ·cases h2;rw[e] at h3;cases h3
 have hms:∀ {b n k:Nat},m.strip1=.ms b 0 n k→m=.ms b 0 n k:=fun {b n k} e=>by
  rcases hm.own with ⟨rfl,_⟩|⟨b',pad,rfl,_⟩
  ·cases e
  ·exact e
 have hget:∀ {i:Nat} {x:AV},(ms++[m.strip1])[i]?=some x→ms[i]?=some x∨(i=ms.length∧x=m.strip1):=fun {i x} hi=>by
  rcases Nat.lt_or_ge i ms.length with h2|h2
  ·rw[zb8 h2] at hi;exact .inl hi
  ·rw[zfc h2] at hi
   have h3:=(Z4.1 hi).1
   simp only[Al2,Al3] at h3
   have h4:i-ms.length=0:=by omega
   rw[h4] at hi
   simp only[List.getElem?_cons_zero,Al1] at hi
   exact .inr ⟨by omega,hi.symm⟩
 refine⟨fun i x hi=>?_,fun i j b n k n' k' hi hj=>?_⟩
 ·rcases hget hi with h2|⟨rfl,rfl⟩
  ·exact h1.row i x h2
  ·rcases hm.own with ⟨rfl,h2⟩|h2
   ·exact .inl ⟨rfl,h2⟩
   ·obtain⟨b,pad,rfl,h3⟩:=h2
    exact .inr ⟨b,pad,rfl,h3⟩
 ·rcases hget hi with h2|⟨h2,h3⟩
  ·rcases hget hj with h4|⟨h4,h5⟩
   ·exact h.sep i j b n k n' k' h2 h4
   ·exact absurd (hm.new _ _ _ (hms h5.symm)) (hin h2)
  ·rcases hget hj with h4|⟨h4,h5⟩
   ·exact absurd (hm.new _ _ _ (hms h3.symm)) (hin h4)
   ·omega
structure DR (bo:Nat) (H:zb) (a c:List (List AV)) (o1 o2:Own):Prop where
 box:H bo=some (.cells [.sl o1 5 a,.sl o2 4 c])
 own1:zK H o1 a.length 5
 own2:zK H o2 c.length 4
 sep:∀ b x c y,o1=.tip b x→o2=.tip c y→b≠c
section
variable {bo:Nat} {H H':zb} {a c:List (List AV)} {o1 o2 o':Own}
theorem DR.kept (h:DR bo H a c o1 o2) (hk:∀ b x,H b=some x→H' b=some x):DR bo H' a c o1 o2 :=
 ⟨hk _ _ h.box,zh1 h.own1 hk,zh1 h.own2 hk,h.sep⟩
theorem DR.new {b:Nat} {x:AObj} (h:DR bo H a c o1 o2) (hb:H b=none):DR bo (H.upd b x) a c o1 o2:=h.kept fun _ _ hc=>Zt hb hc
theorem DR.cell {b:Nat} {cs:List AV} (h:DR bo H a c o1 o2) (hb:H b=some (.cells cs)) (hn:bo≠b) (x:AObj):DR bo (H.upd b x) a c o1 o2 :=
 ⟨by rw[upd_ne hn];exact h.box,zb5 h.own1 hb,zb5 h.own2 hb,h.sep⟩
theorem DR.op {x:List AV} (h:DR bo H a c o1 o2) (hs:OwnS H o1 H' o' (a++[x]).length 5) :
  DR bo (H'.upd bo (.cells [.sl o' 5 (a++[x]),.sl o2 4 c])) (a++[x]) c o' o2:=by
 have hb:=Z2 h.own1 h.box hs.kept
 refine⟨upd_same ..,zb5 hs.own hb,zb5 (znp h.own2 hs.kept h.sep) hb,fun b x c y e1 e2=>?_⟩
 rcases hs.new b x e1 with h2|⟨d0,h2⟩
 ·subst e2
  intro e
  have h5:H c=some _:=h.own2
  rw[← e,h2] at h5;cases h5
 ·exact h.sep b d0 c y h2 e2
theorem DR.frag {x:List AV} (h:DR bo H a c o1 o2) (hs:OwnS H o2 H' o' (c++[x]).length 4) :
  DR bo (H'.upd bo (.cells [.sl o1 5 a,.sl o' 4 (c++[x])])) a (c++[x]) o1 o':=by
 have hb:=Z2 h.own2 h.box hs.kept
 refine⟨upd_same ..,zb5 (znp h.own1 hs.kept fun b x c y e1 e2=>Ne.symm (h.sep c y b x e2 e1)) hb,zb5 hs.own hb,fun b x c y e1 e2=>?_⟩
 rcases hs.new c y e2 with h2|⟨d0,h2⟩
 ·subst e1
  intro e
  have h5:H b=some _:=h.own1
  rw[e,h2] at h5;cases h5
 ·exact h.sep b x c d0 e1 h2
end
def zOp:OpD:=⟨0,[],[],[],[]⟩
def zgh (l:List OpD) (i:Nat):List (List AV):=cSs (l.getD i zOp).sels
abbrev zwG (d:DocD):AEnd→zb→Prop:=fun e H'=>match e with|.ret v=>∃ o1 o2 ms,v=.agg [.sl o1 5 (YI d.ops ms),.sl o2 4 (cFs d.frags)]∧MsV H' (zgh d.ops) ms∧ms.length=d.ops.length|.pan _=>False
theorem zp4 (d:DocD) (hb:zq d≤1048576):zi Tryz.prog 7 [.agg (zP d)] zb.emp (zwG d):=by
 unfold zwG
 refine zi.goO ir7 ck7 (Al4 _) fun KP Q hQ hP=>?_
 obtain⟨ops,frags⟩:=d
 have ed:zP ⟨ops,frags⟩=[.sl .no 5 (cOs ops),.sl .no 4 (cFs frags)]:=rfl
 rw[ed]
 simp only[zq] at hb hQ ⊢
 have hlo:=y9 ops
 have hlf:=yx frags
 have hco:=Z8 ops
 have hcf:=ZW frags
 simp(disch:=first|omega|assumption) only[ir7,go_sem]
 refine zc fun b2 hb2=>?_
 simp(disch:=first|omega|assumption) only[go_sem]
 refine zc fun b3 hb3=>?_
 have h32:b3≠b2:=fun e=>by subst e;rw[upd_same] at hb3;cases hb3
 simp(disch:=first|omega|assumption) only[go_sem]
 obtain⟨H0,hH0⟩:∃ H0,H0=((zb.emp).upd b2 (.cells [.sl .nil 5 [],.sl .nil 4 []])).upd b3 (.cells [.sl .nil 5 [],.sl .nil 4 []]):=⟨_,rfl⟩
 have D0:DR b3 H0 [] [] .nil .nil:=⟨by rw[hH0,upd_same],rfl,rfl,nofun⟩
 have g20:H0 b2=some (.cells [.sl .nil 5 [],.sl .nil 4 []]):=by rw[hH0,upd_ne (Ne.symm h32),upd_same]
 try simp only[zfd]
 rw[← hH0]
 clear hH0
 refine zf ops 4 (fun x:Own×List AV=>[]) (fun done rest x H=>DR b3 H (YI done x.2) [] x.1 .nil∧H b2=some (.cells [.sl .nil 5 [],.sl .nil 4 []])∧MsV H (zgh ops) x.2∧x.2.length=done.length) (.nil,[]) (by simp(disch:=first|omega|assumption) only[go_sem]) ⟨D0,g20,MsV.nil _ _,rfl⟩ ?_ ?_
 ·rintro⟨o1,ms⟩ H1 J1 ⟨D1,g21,V1,hml⟩ hlt1
  simp only at D1 V1 hml
  simp(disch:=first|omega|assumption) only[hco,hlt1,go_sem]
  refine zf frags 6 (fun x:Own=>[]) (fun done rest x H=>DR b3 H (YI ops ms) (cFs done) o1 x∧H b2=some (.cells [.sl .nil 5 [],.sl .nil 4 []])∧MsV H (zgh ops) ms) .nil (by simp(disch:=first|omega|assumption) only[go_sem]) ⟨D1,g21,V1⟩ ?_ ?_
  ·rintro o2 H2 J2 ⟨D2,g22,V2⟩ hlt2
   have gb:=D2.box
   simp(disch:=first|omega|assumption) only[hcf,hlt2,gb,g22,h32,Ne.symm h32,go_sem]
   refine hQ _ _ _ _ [.agg [.sl o1 5 (YI ops ms),.sl o2 4 (cFs frags)]] nofun (by simp(disch:=first|omega|assumption) only[ir7,zG,Zk,go_sem]) (Low.refl _) ⟨o1,o2,ms,rfl,V2.cell g22 (by simp),hml⟩
  ·rintro done x rest o2 H2 J2 hd hlt2 hlt2' ⟨D2,g22,V2⟩ hJ
   have hg:=Yl hd
   have hbm:=zgB done x rest
   rw[← hd] at hbm
   obtain⟨nm,on,dirs,sels⟩:=x
   simp only[bF] at hbm
   rw[zpw] at hg
   have hdl:=congrArg List.length hd
   simp only[Al5,Al2] at hdl
   have hcd:=ZW done
   simp(disch:=first|omega|assumption) only[hcf,hlt2,hg,go_sem]
   refine zc fun b5 hb5=>?_
   have h53:b5≠b3:=fun e=>by subst e;rw[D2.box] at hb5;cases hb5
   have h52:b5≠b2:=fun e=>by subst e;rw[g22] at hb5;cases hb5
   simp(disch:=first|omega|assumption) only[hg,go_sem]
   have D3:=D2.new (x:=.cells [.str nm,.str on,.sl .no 2 (cDs dirs),.sl .no 7 (cSs sels)]) hb5
   have V3:=V2.new (o:=.cells [.str nm,.str on,.sl .no 2 (cDs dirs),.sl .no 7 (cSs sels)]) hb5
   refine za (zjr dirs (by simp only[Lim];omega)) ?_
   simp(disch:=first|omega|assumption) only[go_sem]
   refine za (zka sels (by simp only[Lim];omega)) ?_
   have gb3:=D2.box
   simp(disch:=first|omega|assumption) only[gb3,h53,Ne.symm h53,go_sem]
   refine zp D3.own2 (by simp only[hcd,Al2,Al3];omega) (by simp only[hcd,Al2,Al3,maxLen];omega) fun o6 H6 hs6=>?_
   have gb6:=Z2 D3.own2 D3.box hs6.kept
   have g62:=Z2 D3.own2 (show _=some (.cells _) from (upd_ne (Ne.symm h52)).trans g22) hs6.kept
   have V6:=(V3.kept (H':=H6) fun c cs hc _=>Z2 D3.own2 hc hs6.kept).cell (o:=.cells [.sl o1 5 (YI ops ms),.sl o6 4 (cFs (done++[⟨nm,on,dirs,sels⟩]))]) gb6 (by simp)
   have eF:cFs done++[[AV.str nm,.str on,.sl .no 2 (cDs dirs),.sl .no 7 (cSs sels)]]=cFs (done++[⟨nm,on,dirs,sels⟩]):=by simp[cFs,zpw]
   have D6:=D3.frag (x:=[AV.str nm,.str on,.sl .no 2 (cDs dirs),.sl .no 7 (cSs sels)]) (by simpa using hs6)
   rw[eF] at D6
   simp(disch:=first|omega|assumption) only[gb6,wrap64,eF,go_sem]
   exact goJ (hJ o6 _ ⟨D6,by rw[upd_ne (Ne.symm h32)];exact g62,V6⟩) (by simp(disch:=first|omega|assumption) only[go_sem])
 ·rintro done x rest ⟨o1,ms⟩ H1 J1 hd hlt1 hlt1' ⟨D1,g21,V1,hml⟩ hJ
  simp only at D1 V1 hml
  have hg:=Yk hd
  have hbm:=YE done x rest
  rw[← hd] at hbm
  have hcd:(YI done ms).length=done.length:=by simp[YI,hml]
  have hrow:zgh ops ms.length=cSs x.sels:=by rw[hd,hml];simp[zgh]
  obtain⟨k,nm,vars,dirs,sels⟩:=x
  simp only[bO] at hbm hrow
  have hvl:=yD vars
  have hcv:=Zj vars
  have hdl:=congrArg List.length hd
  simp only[Al5,Al2] at hdl
  rw[zv6] at hg
  simp(disch:=first|omega|assumption) only[hco,hlt1,hg,go_sem]
  refine zc fun b5 hb5=>?_
  have h53:b5≠b3:=fun e=>by subst e;rw[D1.box] at hb5;cases hb5
  have h52:b5≠b2:=fun e=>by subst e;rw[g21] at hb5;cases hb5
  simp(disch:=first|omega|assumption) only[hg,go_sem]
  obtain⟨H2,hH2⟩:∃ H2,H2=H1.upd b5 (.cells [.int .i64 k,.str nm,.sl .no 10 (cWs vars),.sl .no 2 (cDs dirs),.sl .no 7 (cSs sels)]):=⟨_,rfl⟩
  have D2:DR b3 H2 (YI done ms) [] o1 .nil:=by rw[hH2];exact D1.new hb5
  have V2:MsV H2 (zgh ops) ms:=by rw[hH2];exact V1.new hb5
  have g22:H2 b2=some (.cells [.sl .nil 5 [],.sl .nil 4 []]):=by rw[hH2,upd_ne (Ne.symm h52)];exact g21
  have g25:H2 b5=some (.cells [.int .i64 k,.str nm,.sl .no 10 (cWs vars),.sl .no 2 (cDs dirs),.sl .no 7 (cSs sels)]):=by rw[hH2,upd_same]
  try simp only[zfd]
  rw[← hH2]
  refine zp (o:=.nil) rfl (by simp only[hcv,Al3];omega) (by simp only[hcv,Al3,maxLen];omega) fun o3 H3 hs3=>?_
  have kp:∀ b x,H2 b=some x→H3 b=some x:=fun b x h=>hs3.kept b x h nofun
  have D3:=D2.kept kp
  have V3:=V2.kept (H':=H3) fun c cs hc _=>kp c _ hc
  have g32:=kp _ _ g22
  have g35:=kp _ _ g25
  simp(disch:=first|omega|assumption) only[g35,zcU,zpm,go_sem]
  refine za (zjr dirs (by simp only[Lim];omega)) ?_
  simp(disch:=first|omega|assumption) only[go_sem]
  refine yn (XP:=fun _ _=>False) (zxe sels _ (by simp only[Lim];omega)) (fun m H4 hm=>?_) (fun _ _ h=>h.elim)
  have D4:=(D3.cell g35 (Ne.symm h53) _).kept hm.kept
  have V4:=(V3.cell g35 (by simp)).push (show MsA _ _ _ (zgh ops ms.length) by rw[hrow];exact hm)
  have g42:=hm.kept _ _ ((upd_ne (Ne.symm h52)).trans g32)
  have g45:=hm.kept _ _ (upd_same ..)
  obtain⟨m1,m2⟩:=hm.one
  simp only[AV.cells] at m1
  simp only[AV.boxable,AV.one] at m2
  obtain⟨M,hM⟩:∃ M,M=m.strip1:=⟨_,rfl⟩
  rw[← hM] at V4
  have m4:M.strip1=M:=by rw[hM];cases m<;>rfl
  have m3:=hM.symm
  simp only[AV.strip1] at m3 m4
  have gb3:=D4.box
  simp(disch:=first|omega|assumption) only[gb3,g45,h53,Ne.symm h53,m1,m2,go_sem]
  have D5:=D4.cell g45 (Ne.symm h53) (.cells [.int .i64 k,.str nm,.sl o3 10 (cWs vars),.sl .no 2 (cDs dirs),m])
  have V5:=V4.cell (o:=.cells [.int .i64 k,.str nm,.sl o3 10 (cWs vars),.sl .no 2 (cDs dirs),m]) g45 (by simp)
  have gb5:=D5.box
  refine zp D5.own1 (by simp only[hcd,Al2,Al3];omega) (by simp only[hcd,Al2,Al3,maxLen];omega) fun o6 H6 hs6=>?_
  have gb6:=Z2 D5.own1 gb5 hs6.kept
  have g62:=Z2 D5.own1 (show _=some (.cells _) from (upd_ne (Ne.symm h52)).trans g42) hs6.kept
  have eO:YI done ms++[[AV.int .i64 k,.str nm,.sl .no 10 (cWs vars),.sl .no 2 (cDs dirs),M]]=YI (done++[⟨k,nm,vars,dirs,sels⟩]) (ms++[M]):=by
   rw[YI,YI,List.zipWith_append hml.symm];rfl
  have D6:=D5.op (x:=[AV.int .i64 k,.str nm,.sl .no 10 (cWs vars),.sl .no 2 (cDs dirs),M]) (by simpa using hs6)
  have V6:=(V5.kept (H':=H6) fun c cs hc _=>Z2 D5.own1 hc hs6.kept).cell (o:=.cells [.sl o6 5 (YI (done++[⟨k,nm,vars,dirs,sels⟩]) (ms++[M])),.sl .nil 4 []]) gb6 (by simp)
  rw[eO] at D6
  simp(disch:=first|omega|assumption) only[gb6,wrap64,m3,m4,eO,go_sem]
  exact goJ (hJ (o6,ms++[M]) _ ⟨D6,by rw[upd_ne (Ne.symm h32)];exact g62,V6,by simp[hml]⟩) (by simp(disch:=first|omega|assumption) only[go_sem])
inductive ItD where
 | mk (no:Nat) (x:SelD) (typ:List UInt8) (sub:List ItD)
mutual
def cIt:ItD→List AV
 | .mk no (.mk k al nm args dirs on sels) typ sub=>[.int .i64 no,.int .i64 k,.str al,.str nm,.sl .no 6 (cMs args),.sl .no 2 (cDs dirs),.str on,.sl .no 7 (cSs sels),.str typ,.sl .no 10 (yB sub)]
def yB:List ItD→List (List AV)
 | []=>[]
 | x::r=>cIt x::yB r
end
theorem ZL (no:Nat) (k:Int) (al nm:List UInt8) (args:List Mem) (dirs:List DirD) (on:List UInt8) (sels:List SelD) (typ:List UInt8) (sub:List ItD) :
  cIt (.mk no (.mk k al nm args dirs on sels) typ sub)=[.int .i64 no,.int .i64 k,.str al,.str nm,.sl .no 6 (cMs args),.sl .no 2 (cDs dirs),.str on,.sl .no 7 (cSs sels),.str typ,.sl .no 10 (yB sub)]:=by rw[cIt]
theorem zba:∀ l,yB l=l.map cIt
 | []=>by simp[yB]
 | v::r=>by rw[yB,zba r];rfl
theorem YA (l:List ItD):(yB l).length=l.length:=by rw[zba];simp
theorem zcg {l a:List ItD} {x:ItD} {b:List ItD} (h:l=a++x::b):(yB l).getD a.length []=cIt x:=by rw[zba,yN h]
theorem zpc (x:ItD):(cIt x).map AV.strip1=cIt x:=by obtain⟨no,⟨k,al,nm,args,dirs,on,sels⟩,typ,sub⟩:=x;rw[ZL];rfl
theorem zeg (l:List ItD):(yB l).map (·.map AV.strip1)=yB l:=by rw[zba,List.map_map];exact List.map_congr_left fun v _=>zpc v
theorem zdf (a b:List ItD):yB a++yB b=yB (a++b):=by simp only[zba,List.map_append]
theorem zlJ (x:ItD):yB [x]=[cIt x]:=by rw[zba];rfl
def ItD.sub:ItD→List ItD|.mk _ _ _ s=>s
def ItD.x:ItD→SelD|.mk _ x _ _=>x
def ItD.args:ItD→List Mem|.mk _ (.mk _ _ _ a _ _ _) _ _=>a
def ItD.no:ItD→Nat|.mk n _ _ _=>n
def ItD.typ:ItD→List UInt8|.mk _ _ t _=>t
def SelD.k:SelD→Int|.mk k _ _ _ _ _ _=>k
def SelD.nm:SelD→List UInt8|.mk _ _ n _ _ _ _=>n
def SelD.sels:SelD→List SelD|.mk _ _ _ _ _ _ s=>s
mutual
def itS (s:SchD):SelD→List UInt8→Nat→ItD×Nat
 | .mk k al nm args dirs on sels,typ,no =>
  let r:=zM s sels (zy s typ (.mk k al nm args dirs on sels)) (no+1)
  (.mk (no+1) (.mk k al nm args dirs on sels) typ r.1,r.2)
def zM (s:SchD):List SelD→List UInt8→Nat→List ItD×Nat
 | [],_,no=>([],no)
 | x::r,typ,no=>((itS s x typ no).1::(zM s r typ (itS s x typ no).2).1,(zM s r typ (itS s x typ no).2).2)
end
mutual
theorem zu0 (s:SchD):∀(x:SelD) (typ:List UInt8) (no:Nat),(itS s x typ no).2≤no+bS x
 | .mk k al nm args dirs on sels,typ,no=>by
  have:=zdz s sels (zy s typ (.mk k al nm args dirs on sels)) (no+1)
  simp only[itS,bS];omega
theorem zdz (s:SchD):∀(l:List SelD) (typ:List UInt8) (no:Nat),(zM s l typ no).2≤no+bSs l
 | [],typ,no=>by simp[zM]
 | x::r,typ,no=>by
  have h1:=zu0 s x typ no
  have h2:=zdz s r typ (itS s x typ no).2
  simp only[zM,bSs];omega
end
theorem zkX (s:SchD):∀(l:List SelD) (typ:List UInt8) (no:Nat),(zM s l typ no).1.length=l.length
 | [],_,_=>rfl
 | x::r,typ,no=>by simp only[zM,Al2];rw[zkX s r]
def frL (fr:List (List UInt8×List ItD)) (n:List UInt8):List ItD:=((fr.find? fun e=>decide (n=e.1)).map (·.2)).getD []
def ZN (g:List ItD→List (List UInt8)→List ItD×List (List UInt8)) (fr:List (List UInt8×List ItD)) (acc:List ItD×List (List UInt8)):ItD→List ItD×List (List UInt8)
 | .mk no (.mk k al nm args dirs on sels) typ sub =>
  if k=0 then (acc.1++[.mk no (.mk k al nm args dirs on sels) typ sub],acc.2)
  else if k=2 then (acc.1++(g sub acc.2).1,(g sub acc.2).2)
  else if k=1∧zL nm acc.2=false then (acc.1++(g (frL fr nm) (acc.2++[nm])).1,(g (frL fr nm) (acc.2++[nm])).2)
  else acc
def flF (fr:List (List UInt8×List ItD)):Nat→List ItD→List (List UInt8)→List ItD×List (List UInt8)
 | 0,_,seen=>([],seen)
 | n+1,l,seen=>l.foldl (ZN (flF fr n) fr) ([],seen)
inductive Ex (fr:List (List UInt8×List ItD)):Nat→List ItD→Prop
 | nil (n:Nat):Ex fr n []
 | cons {n i j m no:Nat} {k:Int} {al nm:List UInt8} {args:List Mem} {dirs:List DirD} {on:List UInt8} {sels:List SelD} {typ:List UInt8} {sub r:List ItD} (hle:i+j+m+1≤n)
  (h1:Ex fr i sub) (h2:k=1→Ex fr j (frL fr nm)) (h3:Ex fr m r) (ha:bMs args≤Lim):Ex fr n (.mk no (.mk k al nm args dirs on sels) typ sub::r)
theorem Ex.mono {fr:List (List UInt8×List ItD)} {n m:Nat} {l:List ItD} (h:Ex fr n l) (hm:n≤m):Ex fr m l:=by
 cases h with
 | nil=>exact .nil _
 | cons hle h1 h2 h3 ha=>exact .cons (by omega) h1 h2 h3 ha
theorem Ex.zero {fr:List (List UInt8×List ItD)} {l:List ItD} (h:Ex fr 0 l):l=[]:=by
 cases h with
 | nil=>rfl
 | cons hle h1 h2 h3 ha=>omega
theorem Ex.pre {fr:List (List UInt8×List ItD)} {b:List ItD}:∀ {a:List ItD} {n:Nat},Ex fr n (a++b)→Ex fr n a
 | [],_,_=>.nil _
 | x::a,n,h=>by
  cases h with
  | cons hle h1 h2 h3 ha=>exact .cons hle h1 h2 (Ex.pre h3) ha
theorem Ex.mid {fr:List (List UInt8×List ItD)} {no:Nat} {k:Int} {al nm:List UInt8} {args:List Mem} {dirs:List DirD} {on:List UInt8} {sels:List SelD} {typ:List UInt8} {sub b:List ItD}:∀ {a:List ItD} {n:Nat},
  Ex fr n (a++.mk no (.mk k al nm args dirs on sels) typ sub::b)→∃ i j,i+j+1≤n∧Ex fr i sub∧(k=1→Ex fr j (frL fr nm))
 | [],n,h=>by
  cases h with
  | cons hle h1 h2 h3 ha=>exact⟨_,_,by omega,h1,h2⟩
 | x::a,n,h=>by
  cases h with
  | cons hle h1 h2 h3 ha =>
   obtain⟨i,j,hij,g1,g2⟩:=Ex.mid h3
   exact⟨i,j,by omega,g1,g2⟩
theorem Ex.sub {fr:List (List UInt8×List ItD)} {n:Nat} {l:List ItD} (h:Ex fr (n+1) l) {y:ItD} (hy:y∈l):Ex fr n y.sub:=by
 obtain⟨a,b,e⟩:=List.append_of_mem hy
 obtain⟨no,⟨k,al,nm,args,dirs,on,sels⟩,typ,sub⟩:=y
 rw[e] at h
 obtain⟨i,j,hij,g1,_⟩:=Ex.mid h
 exact g1.mono (by omega)
theorem zfR {fr:List (List UInt8×List ItD)} {n f:Nat} {l:List ItD} {seen:List (List UInt8)} (h:Ex fr n l) (hf:n≤f):flF fr f l seen=l.foldl (ZN (flF fr (f-1)) fr) ([],seen):=by
 cases f with
 | zero =>
  obtain rfl:n=0:=by omega
  rw[h.zero];rfl
 | succ f=>rfl
theorem zqL {fr:List (List UInt8×List ItD)}:∀ n:Nat,∀(l:List ItD),Ex fr n l→∀(f:Nat),n≤f→∀ acc:List ItD×List (List UInt8),
  (l.foldl (ZN (flF fr (f-1)) fr) acc).1.length≤acc.1.length+n∧∀ y∈(l.foldl (ZN (flF fr (f-1)) fr) acc).1,y∈acc.1∨∃ m,m<n∧Ex fr m y.sub∧bMs y.args≤Lim:=by
 intro n
 induction n using Nat.strongRecOn with
 | _ n ih =>
 intro l h f hf acc
 cases h with
 | nil=>exact⟨by simp,fun y hy=>.inl hy⟩
 | @cons _ i j m no k al nm args dirs on sels typ sub r hle h1 h2 h3 ha =>
  rw[List.foldl_cons]
  have hst:(ZN (flF fr (f-1)) fr acc (.mk no (.mk k al nm args dirs on sels) typ sub)).1.length≤acc.1.length+(i+j+1) ∧
    ∀ y∈(ZN (flF fr (f-1)) fr acc (.mk no (.mk k al nm args dirs on sels) typ sub)).1,y∈acc.1∨∃ m,m<n∧Ex fr m y.sub∧bMs y.args≤Lim:=by
   simp only[ZN]
   split
   ·refine⟨by simp only[Al5,Al2,Al3];omega,fun y hy=>?_⟩
    rcases List.mem_append.1 hy with h|h
    ·exact .inl h
    ·simp only[List.mem_singleton] at h
     subst h
     exact .inr ⟨i,by omega,h1,ha⟩
   ·split
    ·rw[zfR h1 (by omega)]
     have:=ih i (by omega) sub h1 (f-1) (by omega) ([],acc.2)
     simp only[Al3,List.not_mem_nil,false_or] at this
     refine⟨by rw[Al5];omega,fun y hy=>?_⟩
     rcases List.mem_append.1 hy with h|h
     ·exact .inl h
     ·obtain⟨m',g1,g2⟩:=this.2 y h
      exact .inr ⟨m',by omega,g2⟩
    ·split
     ·rename_i hk
      have hj:=h2 hk.1
      rw[zfR hj (by omega)]
      have:=ih j (by omega) _ hj (f-1) (by omega) ([],acc.2++[nm])
      simp only[Al3,List.not_mem_nil,false_or] at this
      refine⟨by rw[Al5];omega,fun y hy=>?_⟩
      rcases List.mem_append.1 hy with h|h
      ·exact .inl h
      ·obtain⟨m',g1,g2⟩:=this.2 y h
       exact .inr ⟨m',by omega,g2⟩
     ·exact⟨by omega,fun y hy=>.inl hy⟩
  have hr:=ih m (by omega) r h3 f (by omega) (ZN (flF fr (f-1)) fr acc (.mk no (.mk k al nm args dirs on sels) typ sub))
  refine⟨by omega,fun y hy=>?_⟩
  rcases hr.2 y hy with h|⟨m',g1,g2⟩
  ·exact hst.2 y h
  ·exact .inr ⟨m',by omega,g2⟩
theorem zgH {fr:List (List UInt8×List ItD)} {n f:Nat} {l:List ItD} {seen:List (List UInt8)} (h:Ex fr n l) (hf:n≤f):(flF fr f l seen).1.length≤n:=by
 rw[zfR h hf]
 simpa using (zqL n l h f hf ([],seen)).1
theorem Zz {fr:List (List UInt8×List ItD)} {n f:Nat} {l:List ItD} {seen:List (List UInt8)} (h:Ex fr n l) (hf:n≤f) {y:ItD} (hy:y∈(flF fr f l seen).1):∃ m,m<n∧Ex fr m y.sub∧bMs y.args≤Lim:=by
 rw[zfR h hf] at hy
 simpa using (zqL n l h f hf ([],seen)).2 y hy
def ZG:SelD→List UInt8
 | .mk k al nm _ _ _ _=>if k=0 then (if al=[] then nm else al) else []
abbrev PrS:=List ((Nat×Nat)×Bool)
abbrev yd:=PrS×PrS
def Yz (l:PrS) (k:Nat×Nat):Option Bool:=(l.find? fun e=>decide (k=e.1)).map (·.2)
def ZH:PrS→Nat×Nat→Bool→PrS
 | [],k,v=>[(k,v)]
 | (a,u)::r,k,v=>if k=a then (k,v)::r else (a,u)::ZH r k v
def zh4 (g:ItD→ItD→yd→Bool×yd) (x:ItD):List ItD→yd→Bool×yd
 | [],S=>(true,S)
 | y::r,S=>if ZG x.x=ZG y.x then (match g x y S with|(true,S')=>zh4 g x r S'|(false,S')=>(false,S')) else zh4 g x r S
def zal (g:ItD→ItD→yd→Bool×yd):List ItD→List ItD→yd→Bool×yd
 | [],_,S=>(true,S)
 | x::r,lb,S=>match zh4 g x lb S with|(true,S')=>zal g r lb S'|(false,S')=>(false,S')
def yI (fr:List (List UInt8×List ItD)) (a:ItD):List ItD:=(flF fr 64 a.sub []).1
def zby (s:SchD) (a b:TyD):Bool :=
 decide (a.lists=b.lists)&&decide (a.musts=b.musts)&&(if Yb s a.nm||Yb s b.nm then decide (a.nm=b.nm) else ZC s a.nm&&ZC s b.nm)
def shB (s:SchD) (fr:List (List UInt8×List ItD)) (g:ItD→ItD→yd→Bool×yd) (a b:ItD) (S:yd):Bool×yd :=
 match Yz S.1 (a.no,b.no) with
 | some r=>(r,S)
 | none =>
  if zby s ((yb s a.typ a.x.nm).getD zF).t ((yb s b.typ b.x.nm).getD zF).t=true then
   ((zal g (yI fr a) (yI fr b) S).1,(ZH (zal g (yI fr a) (yI fr b) S).2.1 (a.no,b.no) (zal g (yI fr a) (yI fr b) S).1,(zal g (yI fr a) (yI fr b) S).2.2))
  else (false,(ZH S.1 (a.no,b.no) false,S.2))
def shF (s:SchD) (fr:List (List UInt8×List ItD)):Nat→ItD→ItD→yd→Bool×yd
 | 0=>shB s fr fun _ _ S=>(true,S)
 | n+1=>shB s fr (shF s fr n)
def zfs (s:SchD) (a b:ItD):Bool:=!decide (a.typ=b.typ)&&yQ s a.typ [1]&&yQ s b.typ [1]
def lD (x:DirD):Nat:=2+x.nm.length+bMs x.args
def lDs (l:List DirD):Nat:=(l.map lD).sum
mutual
def lS:SelD→Nat
 | .mk _ al nm args dirs on sels=>2+nm.length+al.length+on.length+bMs args+lDs dirs+lSs sels
def lSs:List SelD→Nat
 | []=>0
 | x::r=>lS x+lSs r
end
def lW (x:VarD):Nat:=1+bV x.d+x.nm.length
def lWs (l:List VarD):Nat:=(l.map lW).sum
def lO (x:OpD):Nat:=1+lDs x.dirs+lSs x.sels+x.nm.length+lWs x.vars
def lF (x:FragD):Nat:=1+lDs x.dirs+lSs x.sels+x.nm.length
def lOs (l:List OpD):Nat:=(l.map lO).sum
def lFs (l:List FragD):Nat:=(l.map lF).sum
def zd7 (d:DocD):Bool:=decide (lOs d.ops+lFs d.frags≤3200)
theorem zen {α:Type} {f g:α→Nat} {c:Nat} (h:∀ x,f x≤c*g x):∀ l:List α,(l.map f).sum≤c*(l.map g).sum
 | []=>Nat.zero_le _
 | x::r=>by have:=zen h r;have:=h x;simp only[List.map_cons,List.sum_cons,Nat.mul_add];omega
theorem zaZ (l:List DirD):lDs l≤2*bDs l:=zen (fun x=>by simp only[lD,bD];omega) l
mutual
theorem zxn:∀ x,lS x≤2*bS x
 | .mk k al nm args dirs on sels=>by
  have h1:=zaZ dirs
  have h2:=zdn sels
  simp only[lS,bS];omega
theorem zdn:∀ l,lSs l≤2*bSs l
 | []=>by simp[lSs]
 | x::r=>by
  have h1:=zxn x
  have h2:=zdn r
  simp only[lSs,bSs];omega
end
theorem zc4 (l:List VarD):lWs l≤2*bWs l:=zen (fun x=>by have:=zcY x.d;simp only[lW,bW];omega) l
theorem zwE (x:OpD):lO x≤2*bO x:=by
 have h1:=zaZ x.dirs
 have h2:=zdn x.sels
 have h3:=zc4 x.vars
 simp only[lO,bO];omega
theorem zwY (x:FragD):lF x≤2*bF x:=by
 have h1:=zaZ x.dirs
 have h2:=zdn x.sels
 simp only[lF,bF];omega
theorem zwl (l:List OpD):lOs l≤2*bOs l:=zen zwE l
theorem zvv (l:List FragD):lFs l≤2*bFs l:=zen zwY l
theorem zed (l:List DirD) (hb:bDs l≤Lim):zg Tryz.prog 29 [.sl .no 2 (cDs l)] (.int .i64 (lDs l)):=by
 refine zg.go ir29 ck29 (Al4 _) fun KP Q hQ=>?_
 have h1:=YG l
 have hl:=zaA l
 have hle:=zaZ l
 have hb':=hb
 simp only[Lim] at hb'
 simp(disch:=first|omega|assumption) only[ir29,h1,go_sem]
 refine zf l 4 (fun n:Int=>[(3,.int .i64 n)]) (fun done rest n H=>n+lDs rest=lDs l) 0 (by simp(disch:=first|omega|assumption) only[go_sem]) (by simp) ?_ ?_
 ·rintro n H J hn hlt
  simp only[lDs,List.map_nil,List.sum_nil] at hn
  simp(disch:=first|omega|assumption) only[h1,hlt,go_sem]
  have:n=((lDs l:Nat):Int):=by simp only[lDs];omega
  exact hQ _ _ _ _ nofun rfl (by simp[zd,ze,AV.strip,AV.strip1,this])
 ·rintro done x rest n H J hd hlt _ hn hJ
  have hg:=zaI hd
  have hbm:=zcD done x rest
  rw[← hd] at hbm
  obtain⟨nm,args⟩:=x
  simp only[bD] at hbm
  have hn':n+(2+nm.length+bMs args+lDs rest:Nat)=lDs l:=by rw[← hn];simp[lDs,lD]
  have hsz:bV (.mk 0 0 [] [] args)=1+bMs args:=by simp[bV,bVs]
  have hp:(0:Int)≤n:=by
   have:=zaZ rest
   have e:lDs l=lDs done+lDs (⟨nm,args⟩::rest):=by rw[hd];simp[lDs]
   omega
  simp(disch:=first|omega|assumption) only[h1,hlt,hg,cD,wrap64,go_sem]
  refine za (zg.low (zkL (.mk 0 0 [] [] args) (by rw[hsz];simp only[Lim];omega))) ?_
  rw[hsz]
  simp(disch:=first|omega|assumption) only[h1,hlt,hg,cD,wrap64,go_sem]
  exact goJ (hJ (n+1+nm.length+((1+bMs args:Nat):Int)) _ (by omega)) (by simp(disch:=first|omega|assumption) only[wrap64,go_sem])
theorem zl9:∀ c:Nat,∀ l:List SelD,bSs l≤c→c≤Lim→zg Tryz.prog 30 [.sl .no 7 (cSs l)] (.int .i64 (lSs l)):=by
 intro c
 induction c using Nat.strongRecOn with
 | _ c ih =>
 intro l hb hc
 refine zg.go ir30 ck30 (Al4 _) fun KP Q hQ=>?_
 have h1:=ZI l
 have hl:=Z6 l
 have hle:=zdn l
 have hb':=hc
 simp only[Lim] at hb'
 simp(disch:=first|omega|assumption) only[ir30,h1,go_sem]
 refine zf l 4 (fun n:Int=>[(3,.int .i64 n)]) (fun done rest n H=>n+lSs rest=lSs l∧0≤n) 0 (by simp(disch:=first|omega|assumption) only[go_sem]) (by simp) ?_ ?_
 ·rintro n H J ⟨hn,_⟩ hlt
  simp only[lSs] at hn
  simp(disch:=first|omega|assumption) only[h1,hlt,go_sem]
  have:n=((lSs l:Nat):Int):=by omega
  exact hQ _ _ _ _ nofun rfl (by simp[zd,ze,AV.strip,AV.strip1,this])
 ·rintro done x rest n H J hd hlt _ ⟨hn,hp⟩ hJ
  have hg:=Y4 hd
  have hbm:=zaH done x rest
  rw[← hd] at hbm
  obtain⟨k,al,nm,args,dirs,on,sels⟩:=x
  have hdl:=zaZ dirs
  have hsl:=zdn sels
  simp only[bS] at hbm
  rw[yM] at hg
  simp only[lSs,lS] at hn
  have hsz:bV (.mk 0 0 [] [] args)=1+bMs args:=by simp[bV,bVs]
  simp(disch:=first|omega|assumption) only[h1,hlt,hg,wrap64,go_sem]
  refine za (zg.low (zkL (.mk 0 0 [] [] args) (by rw[hsz];simp only[Lim];omega))) ?_
  rw[hsz]
  simp(disch:=first|omega|assumption) only[h1,hlt,hg,wrap64,go_sem]
  refine za (zed dirs (by simp only[Lim];omega)) ?_
  simp(disch:=first|omega|assumption) only[h1,hlt,hg,wrap64,go_sem]
  refine za (ih (bSs sels) (by omega) sels (Al4 _) (by omega)) ?_
  simp(disch:=first|omega|assumption) only[h1,hlt,hg,wrap64,go_sem]
  exact goJ (hJ (n+1+nm.length+al.length+on.length+((1+bMs args:Nat):Int)+lDs dirs+lSs sels) _ ⟨by omega,by omega⟩) (by simp(disch:=first|omega|assumption) only[wrap64,go_sem])
theorem zgR (l:List SelD) (hb:bSs l≤Lim):zg Tryz.prog 30 [.sl .no 7 (cSs l)] (.int .i64 (lSs l)):=zl9 (bSs l) l (Al4 _) hb
theorem zvH (d:DocD) (hb:zq d≤Lim):zg Tryz.prog 14 [.agg (zP d)] (.bool (zd7 d)):=by
 refine zg.go ir14 ck14 (Al4 _) fun KP Q hQ=>?_
 obtain⟨ops,frags⟩:=d
 simp only[zq] at hb
 have h1:=Z8 ops
 have h2:=ZW frags
 have hl1:=y9 ops
 have hl2:=yx frags
 have hle1:=zwl ops
 have hle2:=zvv frags
 have hb':=hb
 simp only[Lim] at hb'
 simp(disch:=first|omega|assumption) only[ir14,zP,go_sem]
 refine zf ops 4 (fun n:Int=>[(3,.int .i64 n)]) (fun done rest n H=>n+lOs rest=lOs ops∧0≤n) 0 (by simp(disch:=first|omega|assumption) only[go_sem]) (by simp) ?_ ?_
 ·rintro n H J ⟨hn,hp⟩ hlt
  simp only[lOs,List.map_nil,List.sum_nil] at hn
  have hn:n=((lOs ops:Nat):Int):=by simp only[lOs];omega
  subst hn
  simp(disch:=first|omega|assumption) only[h1,hlt,go_sem]
  refine zf frags 6 (fun n:Int=>[(3,.int .i64 n)]) (fun done rest n H=>n+lFs rest=(lOs ops+lFs frags:Nat)∧0≤n) (lOs ops:Nat) (by simp(disch:=first|omega|assumption) only[go_sem]) ⟨by omega,by omega⟩ ?_ ?_
  ·rintro n H J ⟨hn,_⟩ hlt
   simp only[lFs,List.map_nil,List.sum_nil] at hn
   have e:decide (n≤3200)=zd7 ⟨ops,frags⟩:=by simp only[zd7,lFs];exact decide_eq_decide.2 (by omega)
   simp(disch:=first|omega|assumption) only[h2,hlt,go_sem]
   exact hQ _ _ _ _ nofun rfl (by simp[zd,ze,AV.strip,AV.strip1,e])
  ·rintro done x rest n H J hd hlt _ ⟨hn,hp⟩ hJ
   have hg:=Yl hd
   have hbm:=zgB done x rest
   rw[← hd] at hbm
   obtain⟨nm,on,dirs,sels⟩:=x
   simp only[bF] at hbm
   have hdl:=zaZ dirs
   have hsl:=zdn sels
   have hn':n+(1+lDs dirs+lSs sels+nm.length+lFs rest:Nat)=(lOs ops+lFs frags:Nat):=by rw[← hn];simp[lFs,lF]
   simp(disch:=first|omega|assumption) only[h2,hlt,hg,cF,wrap64,go_sem]
   refine za (zed dirs (by simp only[Lim];omega)) ?_
   simp(disch:=first|omega|assumption) only[h2,hlt,hg,cF,wrap64,go_sem]
   refine za (zgR sels (by simp only[Lim];omega)) ?_
   simp(disch:=first|omega|assumption) only[h2,hlt,hg,cF,wrap64,go_sem]
   exact goJ (hJ (n+1+lDs dirs+lSs sels+nm.length) _ ⟨by omega,by omega⟩) (by simp(disch:=first|omega|assumption) only[wrap64,go_sem])
 ·rintro done x rest n H J hd hlt _ ⟨hn,hp⟩ hJ
  have hg:=Yk hd
  have hbm:=YE done x rest
  rw[← hd] at hbm
  obtain⟨k,nm,vars,dirs,sels⟩:=x
  simp only[bO] at hbm
  have hdl:=zaZ dirs
  have hsl:=zdn sels
  have hwl:=zc4 vars
  have h3:=Zj vars
  have h4:=yD vars
  have hn':n+(1+lDs dirs+lSs sels+nm.length+lWs vars+lOs rest:Nat)=lOs ops:=by rw[← hn];simp[lOs,lO]
  simp(disch:=first|omega|assumption) only[h1,hlt,hg,cO,wrap64,go_sem]
  refine za (zed dirs (by simp only[Lim];omega)) ?_
  simp(disch:=first|omega|assumption) only[h1,hlt,hg,cO,wrap64,go_sem]
  refine za (zgR sels (by simp only[Lim];omega)) ?_
  simp(disch:=first|omega|assumption) only[h1,hlt,hg,cO,wrap64,go_sem]
  refine zf vars 5 (fun n:Int=>[(3,.int .i64 n)]) (fun done' rest' n' H=>n'+lWs rest'=n+1+lDs dirs+lSs sels+nm.length+lWs vars∧0≤n') (n+1+lDs dirs+lSs sels+nm.length) (by simp(disch:=first|omega|assumption) only[go_sem]) ⟨by omega,by omega⟩ ?_ ?_
  ·rintro n2 H J' ⟨hn2,hp2⟩ hlt2
   simp only[lWs,List.map_nil,List.sum_nil] at hn2
   simp(disch:=first|omega|assumption) only[h1,h3,hlt,hg,hlt2,cO,wrap64,go_sem]
   exact goJ (hJ n2 _ ⟨by simp only[lWs] at hn';omega,by omega⟩) (by simp(disch:=first|omega|assumption) only[wrap64,go_sem])
  ·rintro done2 y rest2 n2 H J' hd2 hlt2 _ ⟨hn2,hp2⟩ hJ'
   have hg2:=Z9 hd2
   have hbm2:=zgD done2 y rest2
   rw[← hd2] at hbm2
   obtain⟨vn,⟨tn,tl,tm⟩,vh,⟨dk,dn,ds,dl,dm⟩⟩:=y
   rw[ziU,ye] at hg2
   simp only[bW] at hbm2
   have hn2':n2+(1+bV (.mk dk dn ds dl dm)+vn.length+lWs rest2:Nat)=n+1+lDs dirs+lSs sels+nm.length+lWs vars:=by rw[← hn2];simp[lWs,lW]
   simp(disch:=first|omega|assumption) only[h1,h3,hlt,hg,hg2,hlt2,cO,wrap64,go_sem]
   refine za (zkL (.mk dk dn ds dl dm) (by simp only[Lim];omega)) ?_
   simp(disch:=first|omega|assumption) only[h1,h3,hlt,hg,hg2,hlt2,cO,wrap64,go_sem]
   exact goJ (hJ' (n2+1+bV (.mk dk dn ds dl dm)+vn.length) _ ⟨by omega,by omega⟩) (by simp(disch:=first|omega|assumption) only[wrap64,go_sem])
def l8L (x:FldD):Nat:=1+x.nm.length+lWs x.ps+lDs x.dirs
def zmr (l:List FldD):Nat:=(l.map l8L).sum
def l8E (x:DefD):Nat:=1+x.nm.length+bT x.faces+bT x.parts+lWs x.ps+zmr x.flds
def zgp (l:List DefD):Nat:=(l.map l8E).sum
def zfN (s:SchD):Bool:=decide (zgp s.defs≤4000)
theorem zvC (x:FldD):l8L x≤2*bL x:=by
 have h1:=zaZ x.dirs
 have h2:=zc4 x.ps
 simp only[l8L,bL];omega
theorem zoc (l:List FldD):zmr l≤2*bLs l:=zen zvC l
theorem zqR (x:DefD):l8E x≤2*bE x:=by
 have h1:=zoc x.flds
 have h2:=zc4 x.ps
 simp only[l8E,bE];omega
theorem znK (l:List DefD):zgp l≤2*bEs l:=zen zqR l
theorem zlY (l:List DirD) (hb:bDs l≤Lim):zg Tryz.prog 28 [.sl .no 2 (cDs l)] (.int .i64 (lDs l)):=by
 refine zg.go ir28 ck28 (Al4 _) fun KP Q hQ=>?_
 have h1:=YG l
 have hl:=zaA l
 have hle:=zaZ l
 have hb':=hb
 simp only[Lim] at hb'
 simp(disch:=omega) only[ir28,h1,go_sem]
 refine zf l 4 (fun n:Int=>[(3,.int .i64 n)]) (fun done rest n H=>n+lDs rest=lDs l) 0 (by simp(disch:=omega) only[go_sem]) (by simp) ?_ ?_
 ·rintro n H J hn hlt
  simp only[lDs,List.map_nil,List.sum_nil] at hn
  simp(disch:=omega) only[h1,hlt,go_sem]
  have:n=((lDs l:Nat):Int):=by simp only[lDs];omega
  exact hQ _ _ _ _ nofun rfl (by simp[zd,ze,AV.strip,AV.strip1,this])
 ·rintro done x rest n H J hd hlt _ hn hJ
  have hg:=zaI hd
  have hbm:=zcD done x rest
  rw[← hd] at hbm
  obtain⟨nm,args⟩:=x
  simp only[bD] at hbm
  have hn':n+(2+nm.length+bMs args+lDs rest:Nat)=lDs l:=by rw[← hn];simp[lDs,lD]
  have hsz:bV (.mk 0 0 [] [] args)=1+bMs args:=by simp[bV,bVs]
  have hp:(0:Int)≤n:=by
   have:=zaZ rest
   have e:lDs l=lDs done+lDs (⟨nm,args⟩::rest):=by rw[hd];simp[lDs]
   omega
  simp(disch:=omega) only[h1,hlt,hg,cD,wrap64,go_sem]
  refine za (zg.low (zkL (.mk 0 0 [] [] args) (by rw[hsz];simp only[Lim];omega))) ?_
  rw[hsz]
  simp(disch:=omega) only[h1,hlt,hg,cD,wrap64,go_sem]
  exact goJ (hJ (n+1+nm.length+((1+bMs args:Nat):Int)) _ (by omega)) (by simp(disch:=omega) only[wrap64,go_sem])
theorem zf0 (l:List (List UInt8)) (hb:bT l≤Lim):zg Tryz.prog 26 [.sl .no 1 (cT l)] (.int .i64 (bT l)):=by
 refine zg.go ir26 ck26 (Al4 _) fun KP Q hQ=>?_
 have h1:=zD l
 have hl:=ZS l
 have hb':=hb
 simp only[Lim] at hb'
 simp(disch:=omega) only[ir26,h1,go_sem]
 refine zf l 4 (fun n:Int=>[(3,.int .i64 n)]) (fun done rest n H=>n=bT done) 0 (by simp(disch:=omega) only[go_sem]) (by simp[bT]) ?_ ?_
 ·rintro n H J hn hlt
  subst hn
  simp(disch:=omega) only[h1,hlt,go_sem]
  exact hQ _ _ _ _ nofun rfl (by simp[zd,ze,AV.strip,AV.strip1])
 ·rintro done x rest n H J hd hlt _ hn hJ
  subst hn
  have hg:=Yr hd
  have hbm:=zmg done x rest
  rw[← hd] at hbm
  simp(disch:=omega) only[h1,hlt,hg,wrap64,go_sem]
  exact goJ (hJ ((bT done:Int)+1+x.length) _ (by simp[bT];omega)) (by simp(disch:=omega) only[wrap64,go_sem])
theorem zeJ (l:List VarD) (hb:bWs l≤Lim):zg Tryz.prog 27 [.sl .no 10 (cWs l)] (.int .i64 (lWs l)):=by
 refine zg.go ir27 ck27 (Al4 _) fun KP Q hQ=>?_
 have h1:=Zj l
 have hl:=yD l
 have hle:=zc4 l
 have hb':=hb
 simp only[Lim] at hb'
 simp(disch:=omega) only[ir27,h1,go_sem]
 refine zf l 4 (fun n:Int=>[(3,.int .i64 n)]) (fun done rest n H=>n=lWs done) 0 (by simp(disch:=omega) only[go_sem]) (by simp[lWs]) ?_ ?_
 ·rintro n H J hn hlt
  subst hn
  simp(disch:=omega) only[h1,hlt,go_sem]
  exact hQ _ _ _ _ nofun rfl (by simp[zd,ze,AV.strip,AV.strip1])
 ·rintro done x rest n H J hd hlt _ hn hJ
  subst hn
  have hg:=Z9 hd
  have hbm:=zgD done x rest
  rw[← hd] at hbm
  have hld:=zc4 done
  obtain⟨vn,⟨tn,tl,tm⟩,vh,vd⟩:=x
  have hbx:bW ⟨vn,⟨tn,tl,tm⟩,vh,vd⟩=vn.length+tn.length+bV vd:=rfl
  rw[ziU] at hg
  simp only at hg
  simp(disch:=omega) only[zx,zm,zj,zv,zn,zk,zA,h1,hlt,hg,wrap64,go_sem]
  refine za (zkL vd (by simp only[Lim];omega)) ?_
  simp(disch:=omega) only[zx,zm,zj,zv,zn,zk,zA,h1,hlt,hg,wrap64,go_sem]
  exact goJ (hJ ((lWs done:Int)+1+vn.length+((bV vd:Nat):Int)) _ (by simp[lWs,lW];omega)) (by simp(disch:=omega) only[wrap64,go_sem])
theorem zr9 (s:SchD) (hb:zI s≤Lim):zg Tryz.prog 13 [.agg (zl s)] (.bool (zfN s)):=by
 refine zg.go ir13 ck13 (Al4 _) fun KP Q hQ=>?_
 obtain⟨defs,q,m⟩:=s
 simp only[zI] at hb
 have h1:=zff defs
 have hl:=ze2 defs
 have hle:=znK defs
 have hb':=hb
 simp only[Lim] at hb'
 have ed:zl ⟨defs,q,m⟩=[.sl .no 6 (cEs defs),.str q,.str m]:=rfl
 simp(disch:=omega) only[ir13,ed,h1,go_sem]
 refine zf defs 4 (fun n:Int=>[(3,.int .i64 n)]) (fun done rest n H=>n=zgp done) 0 (by simp(disch:=omega) only[go_sem]) (by simp[zgp]) ?_ ?_
 ·rintro n H J hn hlt
  subst hn
  by_cases h4:zgp defs≤4000
  ·have h4':((zgp defs:Int)≤4000)=True:=eq_true (by omega)
   simp(disch:=omega) only[h1,hlt,h4',go_sem]
   exact hQ _ _ _ _ nofun rfl (by simp[zd,ze,AV.strip,AV.strip1,zfN,h4])
  ·have h4':¬ ((zgp defs:Int)≤4000):=by omega
   simp(disch:=omega) only[h1,hlt,h4',go_sem]
   exact hQ _ _ _ _ nofun rfl (by simp[zd,ze,AV.strip,AV.strip1,zfN,h4])
 ·rintro done x rest n H J hd hlt _ hn hJ
  subst hn
  have hg:=zeV hd
  have hbm:=zmY done x rest
  rw[← hd] at hbm
  have hld:=znK done
  have hxe:=zqR x
  obtain⟨k,nm,faces,flds,parts,ps⟩:=x
  simp only[bE] at hbm
  simp only[l8E,bE] at hxe
  have hfl:=za3 flds
  have hfb:=zah flds
  have hpl:=zc4 ps
  rw[yf] at hg
  simp(disch:=omega) only[h1,hlt,hg,go_sem]
  refine zc fun b5 hb5=>?_
  obtain⟨cs,hcs⟩:∃ cs,cs=[AV.int .i64 k,.str nm,.sl .no 1 (cT faces),.sl .no 6 (cLs flds),.sl .no 1 (cT parts),.sl .no 10 (cWs ps)]:=⟨_,rfl⟩
  simp(disch:=omega) only[wrap64,go_sem]
  refine za (zf0 faces (by simp only[Lim];omega)) ?_
  simp(disch:=omega) only[wrap64,go_sem]
  refine za (zf0 parts (by simp only[Lim];omega)) ?_
  simp(disch:=omega) only[wrap64,go_sem]
  refine za (zeJ ps (by simp only[Lim];omega)) ?_
  simp(disch:=omega) only[wrap64,hfl,go_sem]
  refine zf flds 6 (fun n:Int=>[(3,.int .i64 n)]) (fun dn rs n H'=>n=(zgp done:Int)+1+nm.length+bT faces+bT parts+lWs ps+zmr dn∧H' b5=some (.cells [AV.int .i64 k,.str nm,.sl .no 1 (cT faces),.sl .no 6 (cLs flds),.sl .no 1 (cT parts),.sl .no 10 (cWs ps)])) ((zgp done:Int)+1+nm.length+bT faces+bT parts+lWs ps) (by simp(disch:=omega) only[wrap64,go_sem]) ⟨by simp[zmr],upd_same ..⟩ ?_ ?_
  ·rintro n H4 J4 ⟨hn,g4⟩ hlt4
   subst hn
   simp(disch:=omega) only[hfl,hlt4,g4,wrap64,go_sem]
   exact goJ (hJ ((zgp done:Int)+1+nm.length+bT faces+bT parts+lWs ps+zmr flds) _ (by simp[zgp,l8E];omega)) (by simp(disch:=omega) only[wrap64,go_sem])
  ·rintro dn y rs n H4 J4 hdn hlt4 _ ⟨hn,g4⟩ hJ4
   subst hn
   have hgy:=zdH hdn
   have hby:=zmZ dn y rs
   rw[← hdn] at hby
   have hldn:=zoc dn
   obtain⟨fn,fps,⟨tn,tl,tm⟩,dirs⟩:=y
   simp only[bL] at hby
   have hd1:=zaZ dirs
   have hd2:=zc4 fps
   rw[zaL] at hgy
   simp(disch:=omega) only[hfl,hlt4,g4,hgy,wrap64,go_sem]
   refine za (zeJ fps (by simp only[Lim];omega)) ?_
   simp(disch:=omega) only[hfl,hlt4,g4,hgy,wrap64,go_sem]
   refine za (zlY dirs (by simp only[Lim];omega)) ?_
   simp(disch:=omega) only[hfl,hlt4,g4,hgy,wrap64,go_sem]
   exact goJ (hJ4 ((zgp done:Int)+1+nm.length+bT faces+bT parts+lWs ps+zmr dn+1+fn.length+lWs fps+lDs dirs) _ ⟨by simp[zmr,l8L];omega,g4⟩) (by simp(disch:=omega) only[wrap64,go_sem])
def frS (d:DocD) (n:List UInt8):List SelD:=((zw d n).getD zFr).sels
mutual
def zhW (d:DocD) (g:Nat→List SelD→Nat):SelD→Nat→Nat
 | .mk k _ nm _ _ _ sels,r=>if k=1∧1+Zp d g sels r 0≤r then 1+Zp d g sels r 0+g (r-(1+Zp d g sels r 0)) (frS d nm) else 1+Zp d g sels r 0
def Zp (d:DocD) (g:Nat→List SelD→Nat):List SelD→Nat→Nat→Nat
 | [],_,n=>n
 | x::xs,most,n=>if n≤most then Zp d g xs most (n+zhW d g x (most-n)) else n
end
def few (d:DocD):Nat→Nat→List SelD→Nat
 | 0=>fun most _=>most+1
 | k+1=>fun most l=>Zp d (few d k) l most 0
theorem zg5 (d:DocD) (g:Nat→List SelD→Nat):∀(l:List SelD) (most n:Nat),n≤Zp d g l most n
 | [],_,_=>by simp[Zp]
 | x::xs,most,n=>by
  simp only[Zp]
  split
  ·exact Nat.le_trans (Nat.le_add_right _ _) (zg5 d g xs most _)
  ·exact Al4 _
inductive Sz (d:DocD):Nat→List SelD→Prop
 | nil (n:Nat):Sz d n []
 | cons {n i j m:Nat} {k:Int} {al nm:List UInt8} {args:List Mem} {dirs:List DirD} {on:List UInt8} {sels r:List SelD} (hle:i+j+m+1≤n) (h1:Sz d i sels) (h2:k=1→Sz d j (frS d nm)) (h3:Sz d m r):Sz d n (.mk k al nm args dirs on sels::r)
theorem Sz.mono {d:DocD} {n m:Nat} {l:List SelD} (h:Sz d n l) (hm:n≤m):Sz d m l:=by
 cases h with
 | nil=>exact .nil _
 | cons hle h1 h2 h3=>exact .cons (by omega) h1 h2 h3
section
variable {d:DocD} {s:SchD} {fr:List (List UInt8×List ItD)}
mutual
theorem szS {g:Nat→List SelD→Nat} (hg:∀ m n,g m (frS d n)≤m→Sz d (g m (frS d n)) (frS d n)):∀(x:SelD) (r:Nat),zhW d g x r≤r→∃ i j,i+j+1≤zhW d g x r∧Sz d i x.sels∧(x.k=1→Sz d j (frS d x.nm))
 | .mk k al nm args dirs on sels,r,h=>by
  simp only[zhW] at h ⊢
  split at h
  ·rename_i hc
   rw[if_pos hc]
   obtain⟨e,he,hx⟩:=ztp hg sels r 0 (by omega)
   exact⟨e,_,by omega,hx,fun _=>hg (r-(1+Zp d g sels r 0)) nm (by omega)⟩
  ·rename_i hc
   rw[if_neg hc]
   obtain⟨e,he,hx⟩:=ztp hg sels r 0 (by omega)
   exact⟨e,0,by omega,hx,fun hk=>absurd ⟨hk,h⟩ hc⟩
theorem ztp {g:Nat→List SelD→Nat} (hg:∀ m n,g m (frS d n)≤m→Sz d (g m (frS d n)) (frS d n)):∀(l:List SelD) (most n:Nat),Zp d g l most n≤most→∃ e,n+e≤Zp d g l most n∧Sz d e l
 | [],most,n,_=>⟨0,by simp[Zp],.nil _⟩
 | x::xs,most,n,h=>by
  simp only[Zp] at h ⊢
  split at h
  ·rename_i hc
   rw[if_pos hc]
   have h0:=zg5 d g xs most (n+zhW d g x (most-n))
   obtain⟨e,he,hx⟩:=ztp hg xs most _ h
   obtain⟨i,j,hij,hx1,hx2⟩:=szS hg x (most-n) (by omega)
   obtain⟨k,al,nm,args,dirs,on,sels⟩:=x
   exact⟨i+j+e+1,by omega,.cons (Al4 _) hx1 hx2 hx⟩
  ·omega
end
theorem zqd:∀(k most:Nat) (l:List SelD),few d k most l≤most→Sz d (few d k most l) l
 | 0,most,l,h=>by simp only[few] at h;omega
 | k+1,most,l,h=>by
  simp only[few] at h ⊢
  obtain⟨e,he,hx⟩:=ztp (g:=few d k) (fun m n hm=>zqd k m (frS d n) hm) l most 0 h
  exact hx.mono (by omega)
theorem zxE (hfr:∀ n,∃ typ no,frL fr n=(zM s (frS d n) typ no).1) (hfb:∀ n,bSs (frS d n)≤Lim) {n:Nat} {l:List SelD} (h:Sz d n l):bSs l≤Lim→∀ typ no,Ex fr n (zM s l typ no).1:=by
 induction h with
 | nil=>exact fun _ _ _=>.nil _
 | @cons n i j m k al nm args dirs on sels r hle h1 h2 h3 i1 i2 i3 =>
  intro hb typ no
  simp only[bSs,bS] at hb
  simp only[zM,itS]
  refine .cons hle (i1 (by omega) _ _) (fun hk=>?_) (i3 (by omega) _ _) (by omega)
  obtain⟨typ',no',e0⟩:=hfr nm
  rw[e0];exact i2 hk (hfb nm) _ _
end
def Zv (d:DocD):List (List SelD)→Nat→Nat
 | [],n=>n
 | x::r,n=>if n≤40 then Zv d r (n+few d 41 40 x) else n
theorem za6 (d:DocD):∀(l:List (List SelD)) (n:Nat),n≤Zv d l n
 | [],_=>Al4 _
 | x::r,n=>by
  simp only[Zv]
  split
  ·exact Nat.le_trans (Nat.le_add_right _ _) (za6 d r _)
  ·exact Al4 _
theorem zee {d:DocD}:∀(l:List (List SelD)) (n:Nat),Zv d l n≤40→∀ x∈l,few d 41 40 x≤40
 | y::r,n,h,x,hx=>by
  simp only[Zv] at h
  split at h
  ·have:=za6 d r (n+few d 41 40 y)
   rcases List.mem_cons.1 hx with rfl|hx
   ·omega
   ·exact zee r _ h x hx
  ·omega
def Y8 (s:SchD) (d:DocD):Bool:=zfN s&&zd7 d&&decide (Zv d (d.frags.map (·.sels)) (Zv d (d.ops.map (·.sels)) 0)≤40)
theorem zmE {s:SchD} {d:DocD} (h:Y8 s d=true):∀ x∈zJ d,Sz d 40 x:=by
 simp only[Y8,Al0,yH] at h
 intro x hx
 have h0:=za6 d (d.frags.map (·.sels)) (Zv d (d.ops.map (·.sels)) 0)
 have hm:few d 41 40 x≤40:=by
  rcases List.mem_append.1 hx with h1|h1
  ·exact zee (d.ops.map (·.sels)) 0 (by omega) x h1
  ·exact zee _ _ h.2 x h1
 exact(zqd 41 40 x hm).mono hm
theorem zoa:∀ xs:List (List UInt8),(cT xs).flatten=xs.map AV.str
 | []=>rfl
 | x::r=>by
  have:=zoa r
  simp only[cT,List.map_cons,List.flatten_cons] at this ⊢
  rw[this];rfl
theorem zfI.freeze {γ:Gh} {w:World} {H:zb} {lv:AV} {xs:List (List UInt8)} {v:Value} (hs:zr γ w H) (h:zfI H lv xs) (hr:Rep γ w lv v) :
  ∃ γ' H',(∀ c,γ' c=γ c∨(γ' c=.imm∧γ c=.own∧∃ n k,lv=.ms c 0 n k))∧zr γ' w H'∧(∀ c x,H c=some x→(∀ n k,lv≠.ms c 0 n k)→H' c=some x)∧(∀ c x,H' c=some x→H c=some x)∧Rep γ' w (.sl .no 1 (cT xs)) v:=by
 rcases h with ⟨rfl,rfl⟩|⟨b,cap,sp,rfl,hb,hsp⟩
 ·exact⟨γ,H,fun c=>.inl rfl,hs,fun c x hc _=>hc,fun c x hc=>hc,hr.strip1⟩
 ·cases hs b _ hb with
  | cells _ vs E hk hbb hl hone hrr =>
  cases hr with
  | ms _ _ _ _ hlt hc hm =>
  have m:Mono γ w (fun c=>if c=b then .imm else γ c) w:=⟨Al4 _,fun c q u hu hp=>⟨by by_cases e:c=b<;>simp[Yv,e] at hp ⊢;exact hp,hu⟩,fun c arr E fr hc=>⟨arr,hc,rfl⟩⟩
  obtain⟨spv,rfl,hspf⟩:=zfg (xs:=xs) (sp:=sp) (γ:=γ) (w:=w) ⟨hl,hone,hrr⟩
  refine⟨fun c=>if c=b then .imm else γ c,H.del b,fun c=>?_,fun c x hc=>?_,fun c x hc hn=>?_,fun c x hc=>?_,?_⟩
  ·by_cases e:c=b
   ·subst e;exact .inr ⟨by simp,hk,_,_,rfl⟩
   ·exact .inl (by simp[e])
  ·unfold zb.del at hc
   split at hc
   ·cases hc
   ·rename_i e
    exact(hs c x hc).kept m (by simp[e]) rfl
  ·have:c≠b:=fun e=>by subst e;exact hn _ _ rfl
   simp only[zb.del,this,if_false];exact hc
  ·unfold zb.del at hc
   split at hc
   ·cases hc
   ·exact hc
  ·have e1:=zoa xs
   have hF:=zeO (fun c=>if c=b then .imm else γ c) w xs
   have key:Rep (fun c=>if c=b then .imm else γ c) w (.sl .no 1 (cT xs)) (.slice (some ⟨b,0,none⟩) (cT xs).length cap):=by
    refine Rep.sl_flat (us:=xs.map z8) (fun x hx=>?_) (by rw[e1];simp) (fun j u hj=>?_) (fun j c u hc hj=>?_) (by rw[zD];exact hc) hm trivial
    ·rw[cT] at hx
     obtain⟨y,_,rfl⟩:=List.mem_map.1 hx;rfl
    ·refine⟨?_,by simp[Yv],hF.2.1 j u hj⟩
     rw[Nat.zero_add,zeA hbb,List.getElem?_toArray,zb8 (Z4.1 hj).1];exact hj
    ·rw[e1] at hc
     exact hF.2.2 j c u hc hj
   rw[zD] at key
   exact key
theorem zi.frozen {P:Program} {f:FuncId} {args:List AV} {H:zb} {xs:List (List UInt8)} (h:zi P f args H (fun e H'=>match e with|.ret v=>InsS H (.sl .nil 1 []) H' v xs|.pan _=>False)) :
  zi P f args H (fun e H'=>match e with|.ret v=>v=.sl .no 1 (cT xs)∧∀ c x,H c=some x→H' c=some x|.pan _=>False):=by
 intro γ w vs ht hs hv
 refine(h γ w vs ht hs hv).mono fun e w' ⟨γ',H',r,hext,hst,hkeys,hend,hq⟩=>?_
 cases r with
 | pan v=>exact hq.elim
 | ret lv =>
  simp only at hq
  cases e with
  | panicked ch=>exact hend.elim
  | outgrown=>exact hend.elim
  | returned v =>
   have hr:Rep γ' w' lv v:=hend
   obtain⟨γ2,H2,g1,g2,g3,g4,g5⟩:=hq.own.freeze hst hr
   have hnew:∀ c n k,lv=.ms c 0 n k→w.heap.size≤c:=fun c n k e=>by
    rcases hq.new c n k e with h1|⟨n0,k0,h1⟩
    ·rcases hq.own with ⟨h2,_⟩|⟨b,cap,sp,h2,hb,_⟩
     ·rw[h2] at e;cases e
     ·rw[h2] at e
      cases e
      rcases hkeys _ (by rw[hb];rfl) with h3|h3
      ·rw[h1] at h3;cases h3
      ·exact h3
    ·cases h1
   have hsame:∀ c,c<w.heap.size→γ2 c=γ' c:=fun c hc=>by
    rcases g1 c with h1|⟨_,_,n,k,h1⟩
    ·exact h1
    ·have:=hnew c n k h1;omega
   have hprot:∀ c o,Yv γ' c o→Yv γ2 c o:=fun c o hp=>by
    rcases g1 c with h1|⟨h1,h2,_⟩
    ·simpa[Yv,h1] using hp
    ·simp[Yv,h2] at hp
   refine⟨γ2,H2,.ret (.sl .no 1 (cT xs)),⟨⟨hext.mono.size,fun c o v hc hp=>?_,hext.mono.shape⟩,hext.os,hext.output,hext.frozen,fun c hc hn=>?_⟩,g2,fun c hc=>?_,g5,rfl,fun c x hc=>?_⟩
   ·obtain⟨h1,h2⟩:=hext.mono.cell c o v hc hp
    exact⟨hprot c o h1,h2⟩
   ·obtain⟨h1,h2⟩:=hext.frame c hc hn
    exact⟨(hsame c hc).trans h1,h2⟩
   ·cases hx:H2 c with
    | none=>rw[hx] at hc;cases hc
    | some x=>exact hkeys c (by rw[g4 c x hx];rfl)
   ·exact g3 c x (hq.kept c x hc fun n k e=>by cases e) fun n k e=>by have:=hnew c n k e;have:=(hs c x hc).lt;omega
theorem zfI.ne {H:zb} {lv:AV} {xs:List (List UInt8)} {b:Nat} (h:zfI H lv xs) (hb:H b=none):∀ n k,lv≠.ms b 0 n k:=fun n k e=>by
 rcases h with ⟨h,_⟩|⟨b0,cap,sp,h,h2,_⟩
 ·rw[h] at e;cases e
 ·rw[h] at e;cases e
  rw[hb] at h2;cases h2
theorem zfI.upd {H:zb} {lv:AV} {xs:List (List UInt8)} {b:Nat} {x:AObj} (h:zfI H lv xs) (hb:H b=none):zfI (H.upd b x) lv xs:=((InsS.refl h).upd hb).own
def zbF (nm:List UInt8):List (List UInt8)→Nat→Option Nat
 | [],k=>some k
 | s::r,k=>if Op.bytesLess s nm=true then zbF nm r (k+1) else if s=nm then none else some k
theorem zgX (nm:List UInt8):∀(l:List (List UInt8)) (k j:Nat),zbF nm l k=some j→j≤k+l.length
 | [],k,j,h=>by simp only[zbF,Al1] at h;simp;omega
 | s::r,k,j,h=>by
  simp only[zbF] at h
  split at h
  ·have:=zgX nm r _ _ h;simp only[Al2];omega
  ·split at h
   ·cases h
   ·simp only[Al1] at h;omega
def zeu (l:List (List UInt8)) (nm:List UInt8):List (List UInt8):=match zbF nm l 0 with|none=>l|some k=>l.take k++nm::l.drop k
theorem zlr (l:List (List UInt8)) (nm:List UInt8):(zeu l nm).length≤l.length+1:=by
 unfold zeu
 split
 ·omega
 ·rename_i k hk
  have:=zgX nm l 0 k hk
  rw[zjL l nm (by omega)];omega
abbrev zmG (H:zb) (lv:AV) (xs':List (List UInt8)):AEnd→zb→Prop:=fun e H'=>match e with|.ret v=>InsS H lv H' v xs'|.pan _=>False
theorem za4 {P:Program} {KP:AV→zb→Prop} {Q:AExit→Env→zb→Prop} {st:List Fr} {ρ:Env} {H:zb} {all l:List AItem} {d:Option Nat} {R:List Chk} {f:FuncId} {args:List AV} {lv:AV} {xs:List (List UInt8)}
  (h:zi P f args H (zmG H lv xs)) (hk:∀ v H',InsS H lv H' v xs→goR P KP Q all l st R (ρ.set d v) H'):goK P KP Q all l st d R ρ f args H :=
 yn (XP:=fun _ _=>False) h hk (fun _ _ h=>h.elim)
theorem ztb (H:zb) (lv:AV) (l:List (List UInt8)) (nm:List UInt8) (hl:zfI H lv l) (hlen:l.length≤1099511627776):zi Tryz.prog 243 [lv,.str nm] H (zmG H lv (zeu l nm)):=by
 have e0:zeu l nm=match zbF nm l 0 with|none=>l|some k=>l.take k++nm::l.drop k:=rfl
 have hle:=zgX nm l 0
 have hI:=fun(k:Nat) (b:Nat) (hk:k≤l.length) (hb:H b=none)=>zxP (H.upd b (.cells [.str nm])) lv l k nm b (hl.upd hb) hk (upd_same ..) (fun b' n c e e2=>hl.ne hb n c (by rw[← e2];exact e)) hlen
 have fin2:∀ b k v H2,H b=none→zbF nm l 0=some k→InsS (H.upd b (.cells [.str nm])) lv H2 v (l.take k++nm::l.drop k)→InsS H lv H2 v (zeu l nm):=fun b k v H2 hb hk h=>by
  rw[e0,hk]
  exact((InsS.refl hl).upd hb).trans h
 unfold zmG
 rcases hl with ⟨rfl,rfl⟩|⟨b,cap,sp,rfl,hb,hsp⟩
 ·refine zi.goO ir243 ck243 (Al4 _) fun KP Q hQ hP=>?_
  simp(disch:=omega) only[ir243,go_sem]
  refine zf ([]:List Nat) 10 (fun _:Unit=>[(5,.int .i64 0)]) (fun _ _ _ H'=>H'=H) () (by simp(disch:=omega) only[go_sem]) rfl ?_ ?_
  ·rintro _ H1 J rfl hlt
   simp(disch:=omega) only[hlt,go_sem]
   refine zc fun bv hbv=>?_
   simp(disch:=omega) only[go_sem]
   refine za4 (hI 0 bv (Al4 _) hbv) fun v H2 hI2=>?_
   simp(disch:=omega) only[go_sem]
   exact hQ _ _ H2 H2 [v] nofun rfl (Low.refl _) (fin2 bv 0 v H2 hbv rfl hI2)
  ·rintro done x rest _ H1 J hd hlt _ _ _
   simp at hd
 ·refine zi.goO ir243 ck243 (Al4 _) fun KP Q hQ hP=>?_
  simp(disch:=omega) only[ir243,go_sem]
  refine zf l 10 (fun k:Nat=>[(5,.int .i64 k)]) (fun done rest k H'=>H'=H∧k=done.length∧zbF nm rest k=zbF nm l 0) 0 (by simp(disch:=omega) only[go_sem]) ⟨rfl,rfl,rfl⟩ ?_ ?_
  ·rintro k H1 J ⟨rfl,hk,hn⟩ hlt
   simp only[zbF] at hn
   simp(disch:=omega) only[hlt,go_sem]
   refine zc fun bv hbv=>?_
   simp(disch:=omega) only[go_sem]
   refine za4 (hI k bv (by omega) hbv) fun v H2 hI2=>?_
   simp(disch:=omega) only[go_sem]
   exact hQ _ _ H2 H2 [v] nofun rfl (Low.refl _) (fin2 bv k v H2 hbv hn.symm hI2)
  ·rintro done x rest k H1 J hd hlt hlt2 ⟨rfl,hk,hn⟩ hJ
   have hg:((l.map AV.str++sp).drop (0+done.length*1)).take 1=[.str x]:=by rw[hd];simp
   have hcl:0+done.length*1+1≤(l.map AV.str++sp).length:=by simp;omega
   simp only[zbF] at hn
   cases hx:Op.bytesLess x nm with
   | true =>
    rw[hx,if_pos rfl] at hn
    simp(disch:=omega) only[hlt,hb,hg,hcl,hx,go_sem]
    exact goJ (hJ (k+1) _ ⟨rfl,by simp[hk],hn⟩) (by simp(disch:=omega) only[wrap64,hk,go_sem];simp)
   | false =>
    rw[hx,if_neg (by simp)] at hn
    by_cases hxe:x=nm
    ·have hxe':=eq_true hxe
     rw[if_pos hxe] at hn
     simp(disch:=omega) only[hlt,hb,hg,hcl,hx,hxe',go_sem]
     refine hQ _ _ H1 H1 [.ms b 0 l.length cap] nofun rfl (Low.refl _) ?_
     rw[e0,← hn]
     exact InsS.refl (.inr ⟨b,cap,sp,rfl,hb,hsp⟩)
    ·rw[if_neg hxe] at hn
     simp(disch:=omega) only[hlt,hb,hg,hcl,hx,hxe,go_sem]
     refine zc fun bv hbv=>?_
     simp(disch:=omega) only[go_sem]
     refine za4 (hI k bv (by omega) hbv) fun v H2 hI2=>?_
     simp(disch:=omega) only[go_sem]
     exact hQ _ _ H2 H2 [v] nofun rfl (Low.refl _) (fin2 bv k v H2 hbv hn.symm hI2)
theorem zro {x:Mem}:∀ {l:List Mem},x∈l→bM x≤bMs l
 | y::l,h=>by
  rcases List.mem_cons.1 h with rfl|h
  ·simp only[bMs];omega
  ·have:=zro h;simp only[bMs];omega
theorem zqU (s:SchD) (ps:List VarD) (m:Mem) (hs:zI s≤Lim) (hps:bWs ps≤Lim) (hb:bM m≤Lim):(Ym s ps m).length≤bM m∧∀ y∈Ym s ps m,y.t.nm.length≤Lim:=by
 obtain⟨n,v⟩:=m
 simp only[bM] at hb
 simp only[Ym]
 cases hp:z6 ps n with
 | none=>simp
 | some p =>
  have hpm:p∈ps:=List.mem_of_find?_eq_some hp
  have:=spC s p.t p.has v hs (by omega) (by have:=YD hpm;simp only[bW] at this;omega)
  exact⟨Nat.le_trans this.1 (by simp only[bM];omega),this.2.1⟩
noncomputable def zie (s:SchD) (ps:List VarD) (l:List Mem):List SpotD:=l.flatMap (Ym s ps)
theorem zjW (s:SchD) (ps:List VarD) (l:List Mem) (hs:zI s≤Lim) (hps:bWs ps≤Lim) (hb:bMs l≤Lim):(zie s ps l).length≤bMs l∧∀ y∈zie s ps l,y.t.nm.length≤Lim:=by
 have h:∀ x∈l,_:=fun x hx=>zqU s ps x hs hps (by have:=zro hx;omega)
 refine⟨?_,fun y hy=>?_⟩
 ·have:=zc0 (f:=Ym s ps) (g:=bM) l fun x hx=>(h x hx).1
  rw[← zb4] at this;exact this
 ·obtain⟨x,hx,hy⟩:=List.mem_flatMap.1 hy
  exact(h x hx).2 y hy
theorem znx (a b:List Mem) (x:Mem):bMs (a++x::b)=bMs (a++[x])+bMs b:=by
 simp only[zb4,List.map_append,List.map_cons,List.map_nil,List.sum_append,List.sum_cons,List.sum_nil];omega
theorem zvr (s:SchD) (ps:List VarD) (l:List Mem) (H:zb) (hs:zI s≤Lim) (hps:bWs ps≤Lim) (hb:bMs l≤Lim):zae Tryz.prog 234 [.agg (zl s),.sl .no 10 (cWs ps),.sl .no 6 (cMs l)] H .nil 5 (cPs (zie s ps l)):=by
 have hml:=y5 l
 have h1m:=yS l
 have hEl:=yD ps
 have hb':=hb
 simp only[Lim] at hb'
 have hpar:=fun n=>zeb ps n (by omega)
 have hmem:∀ n x,Mem.mk n x∈l→∀ p,z6 ps n=some p→zgY s p.t p.has x (spM s p.t p.has x):=fun n x hx p hp=>by
  have hxb:bV x≤Lim:=by have:=ze4 hx;omega
  have hpm:p∈ps:=List.mem_of_find?_eq_some hp
  have hpt:p.t.nm.length≤Lim:=by have:=YD hpm;simp only[bW] at this;omega
  exact spC s p.t p.has x hs hxb hpt
 have e0:zie s ps l=l.flatMap (Ym s ps):=rfl
 have hgl:=fun a (h:bMs a≤Lim)=>(zjW s ps a hs hps h).1
 simp only[zie] at hgl
 generalize zie s ps l=F at *
 simp only[zgY] at hmem
 obtain⟨sd,sq,sm⟩:=s
 generalize hS:(⟨sd,sq,sm⟩:SchD)=s at *
 have hcs:zl s=[.sl .no 6 (cEs sd),.str sq,.str sm]:=by rw[← hS];rfl
 simp only[hcs] at hmem ⊢
 refine zi.goO ir234 ck234 (Al4 _) fun KP Q hQ hP=>?_
 have fin:∀ r o,F=r→∀ ρ H1,zG ρ H1 ir234.res=some [.sl o 5 (cPs r)]→OwnS H .nil H1 o r.length 5→Q .ret ρ H1:=fun r o e ρ H1 h1 h2=>hQ _ ρ H1 H1 _ nofun h1 (Low.refl _) ⟨o,by rw[e];rfl,by rw[e,ya];exact h2⟩
 simp(disch:=omega) only[ir234,h1m,go_sem]
 refine zf l 14 (fun x:Own×List SpotD=>[(7,.sl x.1 5 (cPs x.2))]) (fun done rest x H'=>x.2=done.flatMap (Ym s ps)∧OwnS H .nil H' x.1 x.2.length 5) (.nil,[]) (by simp(disch:=omega) only[cPs,List.map,go_sem]) ⟨rfl,OwnS.refl (o:=.nil) (n:=0) rfl⟩ ?_ ?_
 ·rintro⟨o1,a⟩ H1 J ⟨hn,hs⟩ hlt
  simp only at hn
  subst hn
  simp(disch:=omega) only[h1m,hlt,go_sem]
  exact fin _ o1 e0 _ _ rfl hs
 ·rintro done x rest ⟨o1,a⟩ H1 J hd hlt _ ⟨hn,hs⟩ hJ
  have hg:=Zy hd
  have hxm:x∈l:=by rw[hd];simp
  simp only at hn
  replace hs:OwnS H .nil H1 o1 a.length 5:=hs
  have hfl:(done++[x]).flatMap (Ym s ps)=a++Ym s ps x:=by rw[List.flatMap_append,← hn];simp
  have hal:a.length+(Ym s ps x).length≤bMs l:=by
   have e:=znx done rest x
   rw[← hd] at e
   have:=hgl (done++[x]) (by omega)
   rw[hfl,Al5] at this
   omega
  obtain⟨xn,⟨xk,xq,xs,xl,xml⟩⟩:=x
  have hp:=hpar xn
  have hme:=hmem xn _ hxm
  rw[zA,ye] at hg
  simp only[Ym] at hal hfl
  simp(disch:=omega) only[h1m,hlt,hg,go_sem]
  refine zc fun b9 hb9=>?_
  have hu:=hs.upd (x:=.cells [.str xn,.int .i64 xk,.int .i64 xq,.str xs,.sl .no 5 (cVs xl),.sl .no 6 (cMs xml)]) hb9
  simp(disch:=omega) only[go_sem]
  refine za hp ?_
  cases hpm:z6 ps xn with
  | none =>
   rw[hpm] at hal hfl
   simp(disch:=omega) only[Option.getD,Option.isSome,zW,zV,zZ,go_sem]
   refine zc fun b10 hb10=>?_
   have hu2:=hu.upd (x:=.cells [.str [],.str [],.int .i64 0,.int .i64 0,.bool false,.int .i64 0,.int .i64 0,.str [],.sl .no 5 (cVs []),.sl .no 6 (cMs [])]) hb10
   simp(disch:=omega) only[go_sem]
   exact goJ (hJ (o1,a) _ ⟨by rw[hfl];simp,hu2⟩) (by simp(disch:=omega) only[wrap64,go_sem])
  | some p =>
   rw[hpm] at hal hfl
   simp only at hal hfl
   replace hme:=hme p hpm
   obtain⟨pn,⟨p1,p2,p3⟩,ph,⟨yk,yq,ys,yl,ym⟩⟩:=p
   simp only at hme hal hfl
   simp(disch:=omega) only[Option.getD,Option.isSome,zZ,go_sem]
   refine zc fun b10 hb10=>?_
   have hu2:=hu.upd (x:=.cells [.str pn,.str p1,.int .i64 p2,.int .i64 p3,.bool ph,.int .i64 yk,.int .i64 yq,.str ys,.sl .no 5 (cVs yl),.sl .no 6 (cMs ym)]) hb10
   have hne3:b9≠b10:=fun e=>by subst e;simp[zb.upd] at hb10
   simp(disch:=omega) only[hne3,Ne.symm hne3,go_sem]
   refine zB (hme.2.2 _) fun o2 H2 hs2=>?_
   have hu3:=YN hu2 hs2
   simp(disch:=omega) only[go_sem]
   refine zp (by rw[ya];exact hu3.own) ?_ ?_ fun o' H3 hs3=>?_
   ·simp only[ya];omega
   ·simp only[ya,maxLen];omega
   simp only[ya] at hs3
   simp(disch:=omega) only[wrap64,zci,go_sem]
   exact goJ (hJ (o',a++spM s ⟨p1,p2,p3⟩ ph (.mk xk xq xs xl xml)) H3 ⟨hfl.symm,by rw[Al5];exact hu3.trans hs3⟩) (by simp(disch:=omega) only[wrap64,go_sem])
noncomputable def zbK (s:SchD) (d:DirD):List SpotD:=zie s (yT d) d.args
noncomputable def zgZ (s:SchD) (typ:List UInt8) (k:Int) (nm:List UInt8) (args:List Mem):List SpotD:=if k=0 then zie s ((yb s typ nm).getD zF).ps args else []
mutual
noncomputable def usS (s:SchD):SelD→List UInt8→List SpotD
 | .mk k al nm args dirs on sels,typ=>zgZ s typ k nm args++dirs.flatMap (zbK s)++Yx s sels (zy s typ (.mk k al nm args dirs on sels))
noncomputable def Yx (s:SchD):List SelD→List UInt8→List SpotD
 | [],_=>[]
 | x::r,typ=>usS s x typ++Yx s r typ
end
theorem zkw (s:SchD) (typ:List UInt8):∀ a b:List SelD,Yx s (a++b) typ=Yx s a typ++Yx s b typ
 | [],b=>by simp[Yx]
 | x::a,b=>by rw[Al6,Yx,Yx,zkw s typ a b,zb0]
theorem zk3 (s:SchD) (typ:List UInt8) (k:Int) (nm:List UInt8) (args:List Mem) (hs:zI s≤Lim) (hb:bMs args≤Lim):(zgZ s typ k nm args).length≤bMs args∧∀ y∈zgZ s typ k nm args,y.t.nm.length≤Lim:=by
 unfold zgZ
 split
 ·exact zjW s _ args hs (by have:=zfB s typ nm;omega) hb
 ·simp
theorem zgS (s:SchD) (hs:zI s≤Lim):∀ l:List DirD,bDs l≤Lim→(l.flatMap (zbK s)).length≤bDs l∧∀ y∈l.flatMap (zbK s),y.t.nm.length≤Lim
 | [],_=>by simp
 | x::r,h=>by
  have e:bDs (x::r)=bD x+bDs r:=by simp[bDs]
  have e2:bD x=1+x.nm.length+bMs x.args:=rfl
  have h1:=zjW s (yT x) x.args hs (by have:=zcw x;simp only[Lim];omega) (by omega)
  have h2:=zgS s hs r (by omega)
  rw[List.flatMap_cons]
  refine⟨by rw[Al5];simp only[zbK];omega,fun y hy=>?_⟩
  rcases List.mem_append.1 hy with h|h
  ·exact h1.2 y h
  ·exact h2.2 y h
mutual
theorem zvp (s:SchD) (hs:zI s≤Lim):∀(x:SelD) (typ:List UInt8),bS x≤Lim→(usS s x typ).length≤bS x∧∀ y∈usS s x typ,y.t.nm.length≤Lim
 | .mk k al nm args dirs on sels,typ,hb=>by
  simp only[bS] at hb ⊢
  have h1:=zk3 s typ k nm args hs (by omega)
  have h2:=zgS s hs dirs (by omega)
  have h3:=zdF s hs sels (zy s typ (.mk k al nm args dirs on sels)) (by omega)
  simp only[usS]
  refine⟨by simp only[Al5];omega,fun y hy=>?_⟩
  rcases List.mem_append.1 hy with h|h
  ·rcases List.mem_append.1 h with h|h
   ·exact h1.2 y h
   ·exact h2.2 y h
  ·exact h3.2 y h
theorem zdF (s:SchD) (hs:zI s≤Lim):∀(l:List SelD) (typ:List UInt8),bSs l≤Lim→(Yx s l typ).length≤bSs l∧∀ y∈Yx s l typ,y.t.nm.length≤Lim
 | [],typ,_=>by simp[Yx]
 | x::r,typ,hb=>by
  simp only[bSs] at hb ⊢
  have h1:=zvp s hs x typ (by omega)
  have h2:=zdF s hs r typ (by omega)
  simp only[Yx]
  refine⟨by rw[Al5];omega,fun y hy=>?_⟩
  rcases List.mem_append.1 hy with h|h
  ·exact h1.2 y h
  ·exact h2.2 y h
end
theorem zuJ (s : SchD) (hs : zI s ≤ Lim) : ∀ c : Nat, ∀ (l : List SelD) (typ : List UInt8) (H : zb), bSs l ≤ c → c ≤ Lim → zae Tryz.prog 206 [.agg (zl s), .str typ, .sl .no 7 (cSs l)] H .nil 5 (cPs (Yx s l typ)) := by
  intro c
  induction c using Nat.strongRecOn with
  | _ c ih =>
  intro l typ H hb hc
  have l1 := ZI l
  have hll := Z6 l
  have hc' := hc
  simp only [Lim] at hc'
  have hfield := fun nm => zfw s typ nm hs
  have hfps := fun nm => zfB s typ nm
  have hwith := fun x => zgE s typ x hs
  have hgiv := fun ps l H h1 h2 => zvr s ps l H hs h1 h2
  have e0 : Yx s l typ = Yx s l typ := rfl
  have happ := zkw s typ
  have hok := zdF s hs
  have hfok := fun k nm args => zk3 s typ k nm args hs
  have hdok := zgS s hs
  have hSs : ∀ x, Yx s [x] typ = usS s x typ := fun x => by simp [Yx]
  have hSx : ∀ k al nm args dirs on sels, usS s (.mk k al nm args dirs on sels) typ = zgZ s typ k nm args ++ dirs.flatMap (zbK s) ++ Yx s sels (zy s typ (.mk k al nm args dirs on sels)) := fun k al nm args dirs on sels => by simp only [usS]
  have hsl : zI s ≤ 1099511627776 := hs
  generalize hF : Yx s l typ = F at e0 ⊢
  obtain ⟨sd, sq, sm⟩ := s
  generalize hS : (⟨sd, sq, sm⟩ : SchD) = s at *
  have hcs : zl s = [.sl .no 6 (cEs sd), .str sq, .str sm] := by rw [← hS]; rfl
  simp only [hcs] at hfield hwith hgiv ih ⊢
  refine zi.goO ir206 ck206 (Al4 _) fun KP Q hQ hP => ?_
  have fin : ∀ r o, F = r → ∀ ρ H1, zG ρ H1 ir206.res = some [.sl o 5 (cPs r)] → OwnS H .nil H1 o r.length 5 → Q .ret ρ H1 := fun r o e ρ H1 h1 h2 => hQ _ ρ H1 H1 _ nofun h1 (Low.refl _) ⟨o, by rw [e]; rfl, by rw [e, ya]; exact h2⟩
  simp (disch := omega) only [ir206, l1, go_sem]
  refine zf l 16 (fun x : Own × List SpotD => [(7, .sl x.1 5 (cPs x.2))]) (fun done rest x H' => x.2 = Yx s done typ ∧ OwnS H .nil H' x.1 x.2.length 5) (.nil, []) (by simp (disch := omega) only [cPs, List.map, go_sem]) ⟨by simp [Yx], OwnS.refl (o := .nil) (n := 0) rfl⟩ ?_ ?_
  · rintro ⟨o1, a⟩ H1 J ⟨hn, hs⟩ hlt
    simp only at hn
    rw [hF] at hn
    subst hn
    simp (disch := omega) only [l1, hlt, go_sem]
    exact fin _ o1 rfl _ _ rfl hs
  · rintro done x rest ⟨o1, a⟩ H1 J hd hlt _ ⟨hn, hs⟩ hJ
    have hg := Y4 hd
    have hbm := zaH done x rest
    rw [← hd] at hbm
    simp only at hn
    replace hs : OwnS H .nil H1 o1 a.length 5 := hs
    have hal := (hok done typ (by omega)).1
    rw [← hn] at hal
    have hnx : Yx s (done ++ [x]) typ = a ++ usS s x typ := by rw [happ, hSs, ← hn]
    obtain ⟨k, al, nm, args, dirs, on, sels⟩ := x
    rw [hSx] at hnx
    simp only [bS] at hbm
    have hx1 := hfield nm
    have hx2 := hwith (.mk k al nm args dirs on sels)
    have hx3 := hfps nm
    have hal2 := (hfok k nm args (by omega)).1
    have hdl := zaA dirs
    have l2 := YG dirs
    have hih := fun typ' H' => ih (bSs sels) (by omega) sels typ' H' (Al4 _) (by omega)
    have hlu := fun typ' => (hok sels typ' (by omega)).1
    rw [yM] at hg hx2
    obtain ⟨G, hG⟩ : ∃ G, G = zgZ s typ k nm args := ⟨_, rfl⟩
    rw [← hG] at hnx hal2
    have hG0 : G = if k = 0 then zie s ((yb s typ nm).getD zF).ps args else [] := hG
    generalize zy s typ (.mk k al nm args dirs on sels) = ty2 at *
    replace hlu := hlu ty2
    generalize hU : Yx s sels ty2 = U at *
    generalize (yb s typ nm).isSome = fs at *
    generalize (yb s typ nm).getD zF = w at *
    obtain ⟨fn, fp, ⟨f1, f2, f3⟩, fd⟩ := w
    rw [zaL] at hx1
    simp only at hx3 hG0
    simp (disch := omega) only [l1, hlt, hg, go_sem]
    refine zc fun b9 hb9 => ?_
    have c9 : (H1.upd b9 (.cells [.int .i64 k, .str al, .str nm, .sl .no 6 (cMs args), .sl .no 2 (cDs dirs), .str on, .sl .no 7 (cSs sels)])) b9 = some (.cells [.int .i64 k, .str al, .str nm, .sl .no 6 (cMs args), .sl .no 2 (cDs dirs), .str on, .sl .no 7 (cSs sels)]) := upd_same ..
    have hu := hs.upd (x := .cells [.int .i64 k, .str al, .str nm, .sl .no 6 (cMs args), .sl .no 2 (cDs dirs), .str on, .sl .no 7 (cSs sels)]) hb9
    by_cases hk : k = 0
    case' pos =>
      rw [if_pos hk] at hG0
      have hk' := eq_true hk
      simp (disch := omega) only [hk', go_sem]
      refine za hx1 ?_
      simp (disch := omega) only [go_sem]
      refine zc fun b10 hb10 => ?_
      have hne : b9 ≠ b10 := fun e => by subst e; simp [zb.upd] at hb10
      have hu1 := hu.upd (x := .cells [.str fn, .sl .no 10 (cWs fp), .str f1, .int .i64 f2, .int .i64 f3, .sl .no 2 (cDs fd)]) hb10
      simp (disch := omega) only [hne, Ne.symm hne, go_sem]
      refine zB (hgiv fp args _ (by omega) (by omega)) fun o2 H2 hs2 => ?_
      rw [← hG0] at hs2 ⊢
      have c9 : H2 b9 = some (.cells [.int .i64 k, .str al, .str nm, .sl .no 6 (cMs args), .sl .no 2 (cDs dirs), .str on, .sl .no 7 (cSs sels)]) := hs2.kept b9 _ (by simp [zb.upd, hne]) (fun d e => by cases e)
      have hu2 := YN hu1 hs2
      simp (disch := omega) only [go_sem]
      refine zp (by rw [ya]; exact hu2.own) ?_ ?_ fun o1 H3 hs3 => ?_
      · simp only [ya]; omega
      · simp only [ya, maxLen]; omega
      simp only [ya] at hs3
      have c9 := hs3.kept b9 _ c9 (zfT hu2.own c9)
      have hu : OwnS H .nil H3 o1 (a ++ G).length 5 := by rw [Al5]; exact hu2.trans hs3
      simp (disch := omega) only [c9, zci, l2, go_sem]
    case' neg =>
      rw [if_neg hk] at hG0
      rw [show a.length = (a ++ G).length from by rw [hG0, List.append_nil]] at hu
      simp (disch := omega) only [hk, l2, go_sem]
      rw [show cPs a = cPs (a ++ G) by rw [hG0, List.append_nil]]
    all_goals
      refine zf dirs 42 (fun x : Own × List SpotD => [(7, .sl x.1 5 (cPs x.2))]) (fun done rest x H' => H' b9 = some (.cells [.int .i64 k, .str al, .str nm, .sl .no 6 (cMs args), .sl .no 2 (cDs dirs), .str on, .sl .no 7 (cSs sels)]) ∧ x.2 = a ++ G ++ done.flatMap (zbK s) ∧ OwnS H .nil H' x.1 x.2.length 5) (o1, a ++ G) (by simp (disch := omega) only [go_sem]) ⟨c9, by simp, hu⟩ ?_ ?_
      · rintro ⟨o2, a2⟩ H4 J2 ⟨c9, hn2, hs4⟩ hlt2
        simp only at hn2
        have hal4 := (hdok dirs (by omega)).1
        replace hs4 : OwnS H .nil H4 o2 a2.length 5 := hs4
        have ha2 : a2.length = a.length + G.length + (dirs.flatMap (zbK s)).length := by rw [hn2, Al5, Al5]
        simp (disch := omega) only [l2, hlt2, c9, go_sem]
        refine za hx2 ?_
        simp (disch := omega) only [c9, go_sem]
        refine zB (hih ty2 H4) fun o5 H5 hs5 => ?_
        rw [hU] at hs5 ⊢
        have hu5 := YN hs4 hs5
        have c9' := hs5.kept b9 _ c9 (fun d e => by cases e)
        simp (disch := omega) only [c9, c9', go_sem]
        refine zp (by rw [ya]; exact hu5.own) ?_ ?_ fun o6 H6 hs6 => ?_
        · simp only [ya]; omega
        · simp only [ya, maxLen]; omega
        simp only [ya] at hs6
        simp (disch := omega) only [wrap64, zci, go_sem]
        exact goJ (hJ (o6, a2 ++ U) H6 ⟨by simp only; rw [hnx, hn2]; simp [zb0], by rw [Al5]; exact hu5.trans hs6⟩) (by simp (disch := omega) only [wrap64, go_sem])
      · rintro done2 x2 rest2 ⟨o2, a2⟩ H4 J2 hd2 hlt2 _ ⟨c9, hn2, hs4⟩ hJ2
        have hg2 := zaI hd2
        have hbd := zcD done2 x2 rest2
        rw [← hd2] at hbd
        simp only at hn2
        replace hs4 : OwnS H .nil H4 o2 a2.length 5 := hs4
        have hal4 := (hdok (done2 ++ [x2]) (by have : bDs (done2 ++ [x2]) = bDs done2 + bD x2 := by simp [bDs]
                                               omega)).1
        have eb : bDs (done2 ++ [x2]) = bDs done2 + bD x2 := by simp [bDs]
        rw [List.flatMap_append, Al5] at hal4
        have e2 : [x2].flatMap (zbK s) = zbK s x2 := by simp
        rw [e2] at hal4
        have ha2 : a2.length = a.length + G.length + (done2.flatMap (zbK s)).length := by rw [hn2, Al5, Al5]
        have hn3 : a ++ G ++ (done2 ++ [x2]).flatMap (zbK s) = a2 ++ zbK s x2 := by rw [List.flatMap_append, e2, hn2]; simp [zb0]
        have hp2 := zh6 x2
        have hpl := zcw x2
        have eD : zbK s x2 = zie s (yT x2) x2.args := rfl
        obtain ⟨dn, da⟩ := x2
        simp only [bD] at hbd eb
        simp only at eD
        have hgv := fun H => hgiv (yT ⟨dn, da⟩) da H (by simp only [Lim]; omega) (by omega)
        rw [← eD] at hgv
        generalize yT ⟨dn, da⟩ = ps at *
        generalize zbK s ⟨dn, da⟩ = D at *
        rw [zhC] at hg2 hp2
        simp (disch := omega) only [l2, hlt2, hg2, go_sem]
        refine zc fun b13 hb13 => ?_
        have hne : b9 ≠ b13 := fun e => by subst e; rw [c9] at hb13; cases hb13
        have hu1 := hs4.upd (x := .cells [.str dn, .sl .no 6 (cMs da)]) hb13
        simp (disch := omega) only [hne, Ne.symm hne, go_sem]
        refine za hp2 ?_
        simp (disch := omega) only [hne, Ne.symm hne, go_sem]
        refine zB (hgv _) fun o5 H5 hs5 => ?_
        have hu5 := YN hu1 hs5
        have c9' := hs5.kept b9 _ (by simp only [zb.upd, hne, if_false]; exact c9) (fun d e => by cases e)
        have c13 := hs5.kept b13 _ (upd_same ..) (fun d e => by cases e)
        simp (disch := omega) only [c9, c9', c13, hne, Ne.symm hne, go_sem]
        refine zp (by rw [ya]; exact hu5.own) ?_ ?_ fun o6 H6 hs6 => ?_
        · simp only [ya]; omega
        · simp only [ya, maxLen]; omega
        simp only [ya] at hs6
        have c9'' := hs6.kept b9 _ c9' (zfT hu5.own c9')
        simp (disch := omega) only [wrap64, zci, go_sem]
        exact goJ (hJ2 (o6, a2 ++ D) H6 ⟨c9'', hn3.symm, by rw [Al5]; exact hu5.trans hs6⟩) (by simp (disch := omega) only [wrap64, go_sem])
def vM:Mem→Val
 | .mk _ v=>v
def ofM (l:List (List UInt8)) (m:Mem):List (List UInt8):=(ZO (vM m) []).foldl zeu l
theorem zkk:∀(ns l:List (List UInt8)),(ns.foldl zeu l).length≤l.length+ns.length
 | [],l=>by simp
 | n::ns,l=>by
  have:=zkk ns (zeu l n)
  have:=zlr l n
  simp only[List.foldl_cons,Al2];omega
theorem zna (l:List (List UInt8)) (m:Mem):(ofM l m).length≤l.length+bM m:=by
 obtain⟨n,v⟩:=m
 have h1:=zkk (ZO v []) l
 have h2:=zb7 v []
 simp only[Al3] at h2
 simp only[ofM,vM,bM];omega
theorem zew:∀(ms:List Mem) (l:List (List UInt8)),(ms.foldl ofM l).length≤l.length+bMs ms
 | [],l=>by simp[bMs]
 | m::ms,l=>by
  have:=zew ms (ofM l m)
  have:=zna l m
  simp only[List.foldl_cons,bMs];omega
theorem zn9 (a b:List Mem):bMs (a++b)=bMs a+bMs b:=by simp[zb4]
theorem ofC (H:zb) (lv:AV) (l:List (List UInt8)) (ms:List Mem) (hl:zfI H lv l) (hlen:l.length+bMs ms≤1099511627776):zi Tryz.prog 229 [lv,.sl .no 6 (cMs ms)] H (zmG H lv (ms.foldl ofM l)):=by
 have h1m:=yS ms
 have hml:=y5 ms
 generalize hF:ms.foldl ofM l=F
 unfold zmG
 refine zi.goO ir229 ck229 (Al4 _) fun KP Q hQ hP=>?_
 simp(disch:=omega) only[ir229,h1m,go_sem]
 refine zf ms 11 (fun x:AV×List (List UInt8)=>[(0,x.1)]) (fun done rest x H'=>rest.foldl ofM x.2=F∧x.2.length≤l.length+bMs done∧InsS H lv H' x.1 x.2) (lv,l) (by simp(disch:=omega) only[go_sem]) ⟨hF,by simp,InsS.refl hl⟩ ?_ ?_
 ·rintro⟨l1,a⟩ H1 J ⟨hn,_,hs⟩ hlt
  simp only[List.foldl] at hn
  simp(disch:=omega) only[h1m,hlt,go_sem]
  exact hQ _ _ H1 H1 [l1] nofun rfl (Low.refl _) (by rw[← hn];exact hs)
 ·rintro done x rest ⟨l1,a⟩ H1 J hd hlt _ ⟨hn,hle,hs⟩ hJ
  have hg:=Zy hd
  have hbd:=znx done rest x
  rw[← hd,zn9 done [x]] at hbd
  have hb1:bMs [x]=bM x:=by simp[bMs]
  rw[List.foldl_cons] at hn
  have hol:=zna a x
  simp only at hle hn
  replace hs:InsS H lv H1 l1 a:=hs
  have eo:ofM a x=(ZO (vM x) []).foldl zeu a:=rfl
  have hvl:=zb7 (vM x) []
  obtain⟨xn,v⟩:=x
  simp only[vM,bM,Al3] at eo hb1 hvl
  have hv:=zqc v (by simp only[Lim];omega)
  generalize ZO v []=ns at *
  have l2:=zD ns
  obtain⟨xk,xq,xs,xl,xml⟩:=v
  rw[zA,ye] at hg
  rw[ye] at hv
  simp(disch:=omega) only[h1m,hlt,hg,go_sem]
  refine zc fun b6 hb6=>?_
  have hu:=hs.upd (x:=.cells [.str xn,.int .i64 xk,.int .i64 xq,.str xs,.sl .no 5 (cVs xl),.sl .no 6 (cMs xml)]) hb6
  simp(disch:=omega) only[go_sem]
  refine za hv ?_
  simp(disch:=omega) only[l2,go_sem]
  refine zf ns 19 (fun x:AV×List (List UInt8)=>[(0,x.1)]) (fun done rest x H'=>rest.foldl zeu x.2=ofM a (.mk xn (.mk xk xq xs xl xml))∧x.2.length≤a.length+done.length∧InsS H lv H' x.1 x.2) (l1,a) (by simp(disch:=omega) only[go_sem]) ⟨eo.symm,by simp,hu⟩ ?_ ?_
  ·rintro⟨l3,a3⟩ H3 J2 ⟨hn3,hle3,hs3⟩ hlt2
   simp only[List.foldl] at hn3
   simp only at hle3
   simp(disch:=omega) only[l2,hlt2,go_sem]
   exact goJ (hJ (l3,a3) H3 ⟨by rw[hn3];exact hn,by simp only[zn9,hb1];omega,hs3⟩) (by simp(disch:=omega) only[wrap64,go_sem])
  ·rintro done3 x3 rest3 ⟨l3,a3⟩ H3 J2 hd3 hlt3 _ ⟨hn3,hle3,hs3⟩ hJ2
   have hg3:=Yr hd3
   rw[List.foldl_cons] at hn3
   simp only at hle3 hn3
   have hil:=zlr a3 x3
   have hi:=ztb H3 l3 a3 x3 hs3.own (by omega)
   simp(disch:=omega) only[l2,hlt3,hg3,go_sem]
   refine za4 hi fun v H4 hs4=>?_
   simp(disch:=omega) only[go_sem]
   exact goJ (hJ2 (v,zeu a3 x3) H4 ⟨hn3,by simp only[Al5,Al2,Al3];omega,hs3.trans hs4⟩) (by simp(disch:=omega) only[wrap64,go_sem])
def ofD (l:List (List UInt8)) (d:DirD):List (List UInt8):=d.args.foldl ofM l
theorem znb (ds:List DirD):∀ l:List (List UInt8),(ds.foldl ofD l).length≤l.length+bDs ds:=by
 induction ds with
 | nil=>intro l;simp[bDs]
 | cons d r ih =>
  intro l
  have h1:=ih (ofD l d)
  have h2:=zew d.args l
  have e:bDs (d::r)=bD d+bDs r:=by simp[bDs]
  have e2:bD d=1+d.nm.length+bMs d.args:=rfl
  rw[List.foldl_cons,e]
  simp only[ofD] at h1 h2 ⊢;omega
mutual
def wrS:SelD→List (List UInt8)→List (List UInt8)
 | .mk k al nm args dirs on sels,l=>YB sels (dirs.foldl ofD (args.foldl ofM l))
def YB:List SelD→List (List UInt8)→List (List UInt8)
 | [],l=>l
 | x::r,l=>YB r (wrS x l)
end
mutual
theorem znB:∀(x:SelD) (l:List (List UInt8)),(wrS x l).length≤l.length+bS x
 | .mk k al nm args dirs on sels,l=>by
  have h1:=zbZ sels (dirs.foldl ofD (args.foldl ofM l))
  have h2:=znb dirs (args.foldl ofM l)
  have h3:=zew args l
  simp only[wrS,bS];omega
theorem zbZ:∀(r:List SelD) (l:List (List UInt8)),(YB r l).length≤l.length+bSs r
 | [],l=>by simp[YB]
 | x::r,l=>by
  have h1:=znB x l
  have h2:=zbZ r (wrS x l)
  simp only[YB,bSs];omega
end
theorem ztd (a b:List DirD):bDs (a++b)=bDs a+bDs b:=by simp[bDs]
theorem zns (a b:List SelD):bSs (a++b)=bSs a+bSs b:=by
 induction a with
 | nil=>simp[bSs]
 | cons x a ih=>simp only[Al6,bSs,ih];omega
theorem zlI:∀ c:Nat,∀(ss:List SelD) (H:zb) (lv:AV) (l:List (List UInt8)),bSs ss≤c→zfI H lv l→l.length+bSs ss≤1099511627776→zi Tryz.prog 202 [lv,.sl .no 7 (cSs ss)] H (zmG H lv (YB ss l)):=by
 intro c
 induction c using Nat.strongRecOn with
 | _ c ih =>
 intro ss H lv l hc hl hlen
 have l1:=ZI ss
 have hll:=Z6 ss
 generalize hF:YB ss l=F
 unfold zmG
 refine zi.goO ir202 ck202 (Al4 _) fun KP Q hQ hP=>?_
 simp(disch:=omega) only[ir202,l1,go_sem]
 refine zf ss 11 (fun x:AV×List (List UInt8)=>[(0,x.1)]) (fun done rest x H'=>YB rest x.2=F∧x.2.length≤l.length+bSs done∧InsS H lv H' x.1 x.2) (lv,l) (by simp(disch:=omega) only[go_sem]) ⟨hF,by simp,InsS.refl hl⟩ ?_ ?_
 ·rintro⟨l1',a⟩ H1 J ⟨hn,_,hs⟩ hlt
  simp only[YB] at hn
  simp(disch:=omega) only[l1,hlt,go_sem]
  exact hQ _ _ H1 H1 [l1'] nofun rfl (Low.refl _) (by rw[← hn];exact hs)
 ·rintro done x rest ⟨lv1,a⟩ H1 J hd hlt _ ⟨hn,hle,hs⟩ hJ
  have hg:=Y4 hd
  have hbd:=zaH done x rest
  rw[← hd] at hbd
  have hb1:bSs (done++[x])=bSs done+bS x:=by rw[zns];simp[bSs]
  simp only[YB] at hn
  have hxl:=znB x a
  simp only at hle hn
  replace hs:InsS H lv H1 lv1 a:=hs
  obtain⟨k,al,nm,args,dirs,on,sels⟩:=x
  have ex:wrS (.mk k al nm args dirs on sels) a=YB sels (dirs.foldl ofD (args.foldl ofM a)):=by simp only[wrS]
  simp only[bS] at hbd hb1 hxl
  have h2:=zew args a
  have h3:=znb dirs (args.foldl ofM a)
  have hdl:=zaA dirs
  have l2:=YG dirs
  generalize hW:wrS (.mk k al nm args dirs on sels) a=W at *
  generalize hA:args.foldl ofM a=A at *
  rw[yM] at hg
  simp(disch:=omega) only[l1,hlt,hg,go_sem]
  refine zc fun b9 hb9=>?_
  have hu:=hs.upd (x:=.cells [.int .i64 k,.str al,.str nm,.sl .no 6 (cMs args),.sl .no 2 (cDs dirs),.str on,.sl .no 7 (cSs sels)]) hb9
  have hn9:=hs.own.ne hb9
  have c9:(H1.upd b9 (.cells [.int .i64 k,.str al,.str nm,.sl .no 6 (cMs args),.sl .no 2 (cDs dirs),.str on,.sl .no 7 (cSs sels)])) b9=some (.cells [.int .i64 k,.str al,.str nm,.sl .no 6 (cMs args),.sl .no 2 (cDs dirs),.str on,.sl .no 7 (cSs sels)]):=upd_same ..
  simp(disch:=omega) only[go_sem]
  generalize hH2:(H1.upd b9 (.cells [.int .i64 k,.str al,.str nm,.sl .no 6 (cMs args),.sl .no 2 (cDs dirs),.str on,.sl .no 7 (cSs sels)]))=H2 at *
  have hO:=ofC H2 lv1 a args hu.own (by omega)
  rw[hA] at hO
  refine za4 hO fun v3 H3 hs3=>?_
  have c93:=hs3.kept b9 _ c9 hn9
  simp(disch:=omega) only[c93,l2,go_sem]
  refine zf dirs 22 (fun x:AV×List (List UInt8)=>[(0,x.1)]) (fun done rest x H'=>H' b9=some (.cells [.int .i64 k,.str al,.str nm,.sl .no 6 (cMs args),.sl .no 2 (cDs dirs),.str on,.sl .no 7 (cSs sels)])∧rest.foldl ofD x.2=dirs.foldl ofD A∧x.2.length≤A.length+bDs done∧InsS H2 lv1 H' x.1 x.2) (v3,A) (by simp(disch:=omega) only[go_sem]) ⟨c93,rfl,by simp,hs3⟩ ?_ ?_
  ·rintro⟨l4,a4⟩ H4 J2 ⟨c94,hn4,hle4,hs4⟩ hlt2
   simp only[List.foldl] at hn4
   have hih:=ih (bSs sels) (by omega) sels H4 l4 a4 (Al4 _) hs4.own (by rw[hn4];omega)
   rw[hn4,← ex] at hih
   simp(disch:=omega) only[l2,hlt2,c94,go_sem]
   refine za4 hih fun v5 H5 hs5=>?_
   simp(disch:=omega) only[go_sem]
   exact goJ (hJ (v5,W) H5 ⟨hn,by simp only;omega,hu.trans (hs4.trans hs5)⟩) (by simp(disch:=omega) only[wrap64,go_sem])
  ·rintro done4 x4 rest4 ⟨l4,a4⟩ H4 J2 hd4 hlt4 _ ⟨c94,hn4,hle4,hs4⟩ hJ2
   have hg4:=zaI hd4
   have hbd4:=zcD done4 x4 rest4
   rw[← hd4] at hbd4
   have hb4:bDs (done4++[x4])=bDs done4+bD x4:=by rw[ztd];simp[bDs]
   rw[List.foldl_cons] at hn4
   have e4:ofD a4 x4=x4.args.foldl ofM a4:=rfl
   have hl4:=zew x4.args a4
   simp only at hle4 hn4
   replace hs4:InsS H2 lv1 H4 l4 a4:=hs4
   obtain⟨dn,da⟩:=x4
   simp only[bD] at hbd4 hb4
   simp only at e4 hl4
   rw[e4] at hn4
   generalize hE:da.foldl ofM a4=E at *
   rw[zhC] at hg4
   simp(disch:=omega) only[l2,hlt4,hg4,go_sem]
   refine zc fun b8 hb8=>?_
   have hu4:=hs4.upd (x:=.cells [.str dn,.sl .no 6 (cMs da)]) hb8
   have hne:b9≠b8:=fun e=>by subst e;rw[c94] at hb8;cases hb8
   have hO4:=ofC (H4.upd b8 (.cells [.str dn,.sl .no 6 (cMs da)])) l4 a4 da hu4.own (by omega)
   rw[hE] at hO4
   have hn94:∀ n k,l4≠.ms b9 0 n k:=fun n k e=>by
    rcases hs4.new b9 n k e with h|⟨n0,k0,h⟩
    ·rw[c9] at h;cases h
    ·exact hn9 n0 k0 h
   simp(disch:=omega) only[go_sem]
   refine za4 hO4 fun v5 H5 hs5=>?_
   have c95:=hs5.kept b9 _ (by simp only[zb.upd,hne,if_false];exact c94) hn94
   simp(disch:=omega) only[go_sem]
   exact goJ (hJ2 (v5,E) H5 ⟨c95,hn4,by simp only[hb4];omega,hu4.trans hs5⟩) (by simp(disch:=omega) only[wrap64,go_sem])
def ZD (d:DocD) (sels:List SelD):List (List UInt8):=(yj d sels).foldl (fun l n=>YB ((zw d n).getD zFr).sels l) (YB sels [])
theorem znY (d:DocD) (n:List UInt8):bSs ((zw d n).getD zFr).sels≤bFs d.frags:=by
 cases h:zw d n with
 | none=>simp[zFr,bSs]
 | some f=>exact Nat.le_trans (zai f) (zaY (List.mem_of_find?_eq_some h))
theorem zea (d:DocD) (sels:List SelD):(yj d sels).length≤d.frags.length:=by
 have h:∀(R:List (List UInt8)) (fs:List FragD) (a:List (List UInt8)),(fs.foldl (yU R) a).length≤a.length+fs.length:=by
  intro R fs
  induction fs with
  | nil=>simp
  | cons f fs ih =>
   intro a
   have:=ih (yU R a f)
   have h2:(yU R a f).length≤a.length+1:=by unfold yU;split<;>simp
   simp only[List.foldl_cons,Al2];omega
 have:=h (zT d sels) d.frags []
 simpa[yj] using this
theorem zxb (d:DocD) (sels:List SelD) (H:zb) (hb:yW d≤Lim) (hb2:lenD d*zq d+zq d≤1099511627776) (hso:bSs sels≤zq d):zi Tryz.prog 160 [.agg (zP d),.sl .no 7 (cSs sels)] H (fun e H'=>match e with|.ret v=>v=.sl .no 1 (cT (ZD d sels))∧∀ c x,H c=some x→H' c=some x|.pan _=>False):=by
 refine zi.frozen ?_
 have hb3:=hb
 simp only[yW,Lim] at hb3
 have h0:bFs d.frags≤zq d:=by simp only[zq];omega
 have hfl:=yx d.frags
 have hfr:=fun n=>zi3 d n (by simp only[Lim];omega)
 have hfs:=fun n=>znY d n
 have hrch:=fun H=>zrv d sels H hb hso
 have hrl:=zea d sels
 have e0:ZD d sels=(yj d sels).foldl (fun l n=>YB ((zw d n).getD zFr).sels l) (YB sels []):=rfl
 have hw0:=zbZ sels []
 have hmul:(yj d sels).length*zq d≤lenD d*zq d:=Nat.mul_le_mul_right _ (by simp only[lenD];omega)
 have h1:=zlI (bSs sels) sels H (.sl .nil 1 []) [] (Al4 _) (.inl ⟨rfl,rfl⟩) (by simp;omega)
 simp only[Al3] at hw0
 generalize ZD d sels=F at *
 generalize yj d sels=R at *
 generalize hW0:YB sels []=W0 at *
 generalize hB:zq d=B at *
 have hcd:zP d=[.sl .no 5 (cOs d.ops),.sl .no 4 (cFs d.frags)]:=rfl
 simp only[hcd] at hfr hrch ⊢
 have l1:=zD R
 refine zi.goO ir160 ck160 (Al4 _) fun KP Q hQ hP=>?_
 simp(disch:=omega) only[ir160,go_sem]
 refine za4 h1 fun v1 H1 hs1=>?_
 simp(disch:=omega) only[go_sem]
 refine zB (hrch _) fun oR H2 hs2=>?_
 have hs12:InsS H (.sl .nil 1 []) H2 v1 W0:=by
  refine⟨?_,fun c x hc _=>hs2.kept c x (hs1.kept c x hc fun n k e=>by cases e) (fun d e=>by cases e),hs1.new⟩
  rcases hs1.own with h|⟨b,cap,sp,e,hb,hl⟩
  ·exact .inl h
  ·exact .inr ⟨b,cap,sp,e,hs2.kept b _ hb (fun d e=>by cases e),hl⟩
 simp(disch:=omega) only[l1,go_sem]
 refine zf R 16 (fun x:AV×List (List UInt8)=>[(5,x.1)]) (fun done rest x H'=>rest.foldl (fun l n=>YB ((zw d n).getD zFr).sels l) x.2=F∧x.2.length≤B+done.length*B∧InsS H (.sl .nil 1 []) H' x.1 x.2) (v1,W0) (by simp(disch:=omega) only[go_sem]) ⟨e0.symm,by simp only;omega,hs12⟩ ?_ ?_
 ·rintro⟨l1',a⟩ H3 J ⟨hn,_,hs3⟩ hlt
  simp only[List.foldl] at hn
  simp(disch:=omega) only[l1,hlt,go_sem]
  exact hQ _ _ H3 H3 [l1'] nofun rfl (Low.refl _) (by rw[← hn];exact hs3)
 ·rintro done x rest ⟨lv3,a⟩ H3 J hd hlt hlt2 ⟨hn,hle,hs3⟩ hJ
  have hg:=Yr hd
  have hfx:=hfr x
  have hfsx:=hfs x
  have hdl:(done.length+1)*B≤R.length*B:=Nat.mul_le_mul_right _ (by omega)
  rw[Nat.add_mul,Nat.one_mul] at hdl
  rw[List.foldl_cons] at hn
  simp only at hn hle
  replace hs3:InsS H (.sl .nil 1 []) H3 lv3 a:=hs3
  generalize (zw d x).isSome=fs at *
  generalize (zw d x).getD zFr=f at *
  obtain⟨fn,fo,fd,fss⟩:=f
  rw[Z7] at hfx
  simp only at hfsx hn
  have hwl:=zbZ fss a
  simp(disch:=omega) only[l1,hlt,hg,go_sem]
  refine za hfx ?_
  simp(disch:=omega) only[go_sem]
  refine zc fun b8 hb8=>?_
  have hu:=hs3.upd (x:=.cells [.str fn,.str fo,.sl .no 2 (cDs fd),.sl .no 7 (cSs fss)]) hb8
  have hW:=zlI (bSs fss) fss _ lv3 a (Al4 _) hu.own (by omega)
  simp(disch:=omega) only[go_sem]
  refine za4 hW fun v4 H4 hs4=>?_
  simp(disch:=omega) only[go_sem]
  exact goJ (hJ (v4,YB fss a) H4 ⟨hn,by simp only[Al5,Al2,Al3,Nat.add_mul,Nat.one_mul];omega,hu.trans hs4⟩) (by simp(disch:=omega) only[wrap64,go_sem])
theorem zr6 (v:VarD) (s:SchD) (hl:s.defs.length≤Lim):zg Tryz.prog 158 [.agg (cW v),.view (zl s)] (.bool (!zbM s v.t.nm)):=by
 have he:=zp3 s v.t.nm hl
 obtain⟨nm,⟨t1,t2,t3⟩,h,⟨k,q,st,l,m⟩⟩:=v
 obtain⟨sd,sq,sm⟩:=s
 simp only[zl] at he ⊢
 refine zg.go ir158 ck158 (Al4 _) fun KP Q hQ=>?_
 simp(disch:=omega) only[ir158,zZ,go_sem]
 refine za he ?_
 simp(disch:=omega) only[go_sem]
 exact hQ _ _ _ _ nofun rfl (by simp[zd,ze,AV.strip,AV.strip1])
theorem zth (n:List UInt8) (o:OpD) (hl:o.vars.length≤Lim):zg Tryz.prog 161 [.str n,.view (cO o)] (.bool (!(z6 o.vars n).isSome)):=by
 have h1:=zn4 o n hl
 generalize (z6 o.vars n).isSome=x1 at *
 generalize (z6 o.vars n).getD zW=w at *
 obtain⟨nm,⟨t1,t2,t3⟩,h,⟨k,q,st,l,m⟩⟩:=w
 obtain⟨ok,onm,vs,ds,ss⟩:=o
 rw[zap] at h1 ⊢
 rw[zZ] at h1
 refine zg.go ir161 ck161 (Al4 _) fun KP Q hQ=>?_
 simp(disch:=omega) only[ir161,go_sem]
 refine za h1 ?_
 simp(disch:=omega) only[go_sem]
 refine zc fun b4 hb4=>?_
 simp(disch:=omega) only[go_sem]
 exact hQ _ _ _ _ nofun rfl (by simp[zd,ze,AV.strip,AV.strip1])
theorem zsv (v:VarD) (us:List (List UInt8)) (b:Nat) (H:zb) (hb:H b=some (.cells [.sl .no 1 (cT us)])) (hl:us.length≤Lim):zi Tryz.prog 163 [.agg (cW v),.ptr b 0] H (At (.bool (!zL v.nm us)) H):=by
 have h1:=yE us v.nm hl
 obtain⟨nm,⟨t1,t2,t3⟩,h,⟨k,q,st,l,m⟩⟩:=v
 simp only at h1 ⊢
 generalize zL nm us=x1 at *
 refine zi.go ir163 ck163 (Al4 _) fun KP Q hQ=>?_
 simp(disch:=omega) only[ir163,zZ,hb,go_sem]
 refine za h1 ?_
 simp(disch:=omega) only[go_sem]
 exact hQ _ _ _ _ _ nofun rfl (Low.refl _) ⟨by simp[zd,ze,AV.strip,AV.strip1],rfl⟩
def YX (s:SchD) (d:DocD) (n:Int) (o:OpD):Bool :=
 if n=18 then zaS [] o.vars else if n=19 then !o.vars.any fun v=>!zbM s v.t.nm
 else if n=20 then !(ZD d o.sels).any fun n=>!(z6 o.vars n).isSome
 else !o.vars.any fun v=>!zL v.nm (ZD d o.sels)
theorem zoQ (d:DocD) (sels:List SelD):(ZD d sels).length≤bSs sels+d.frags.length*zq d:=by
 have h0:bFs d.frags≤zq d:=by simp only[zq];omega
 have h1:=zea d sels
 have h:∀(R l:List (List UInt8)),(R.foldl (fun l n=>YB ((zw d n).getD zFr).sels l) l).length≤l.length+R.length*zq d:=by
  intro R
  induction R with
  | nil=>simp
  | cons n R ih =>
   intro l
   have h1:=ih (YB ((zw d n).getD zFr).sels l)
   have h2:=zbZ ((zw d n).getD zFr).sels l
   have h3:=znY d n
   rw[List.foldl_cons,Al2,Nat.add_mul,Nat.one_mul];omega
 have h2:=h (yj d sels) (YB sels [])
 have h3:=zbZ sels []
 have h4:(yj d sels).length*zq d≤d.frags.length*zq d:=Nat.mul_le_mul_right _ h1
 simp only[Al3] at h3
 simp only[ZD];omega
theorem zuO (s:SchD) (d:DocD) (o:OpD) (n:Int) (hs:zI s≤Lim) (hb:yW d≤Lim) (hb2:lenD d*zq d+zq d≤1099511627776) (ho:bO o≤zq d):zg Tryz.prog 82 [.agg (zl s),.agg (zP d),.agg (cO o),.int .i64 n] (.bool (YX s d n o)):=by
 have hb3:=hb
 simp only[yW,Lim] at hb3
 have ho':=ho
 simp only[bO] at ho'
 have hvl:=yD o.vars
 have hfl:=yx d.frags
 have h0:bFs d.frags≤zq d:=by simp only[zq];omega
 have hmul:d.frags.length*zq d≤lenD d*zq d:=Nat.mul_le_mul_right _ (by simp only[lenD];omega)
 have hul:=zoQ d o.sels
 have r1:=zrE o (by simp only[Lim];omega)
 have r2:=zoh cW zaP o.vars 158 [.view (zl s)] (fun v=>!zbM s v.t.nm) (by simp only[Lim];omega) (by kernel_rfl) fun v _=>zr6 v s (z7 hs)
 have r3:=fun H=>zxb d o.sels H hb hb2 (by omega)
 have r4:=zl7 (fun n:List UInt8=>AV.str n) (ZD d o.sels) 161 [.view (cO o)] (fun n=>!(z6 o.vars n).isSome) (by simp only[Lim];omega) (by kernel_rfl) fun n _=>zth n o (by simp only[Lim];omega)
 have r5:=fun b H (h:H b=some (.cells [.sl .no 1 (cT (ZD d o.sels))]))=>zg2 cW zaP o.vars 163 [.ptr b 0] (fun v=>!zL v.nm (ZD d o.sels)) H (by simp only[Lim];omega) (by kernel_rfl) fun v _=>zsv v (ZD d o.sels) b H h (by simp only[Lim];omega)
 have e0:YX s d n o=if n=18 then zaS [] o.vars else if n=19 then !o.vars.any fun v=>!zbM s v.t.nm
  else if n=20 then !(ZD d o.sels).any fun n=>!(z6 o.vars n).isSome else !o.vars.any fun v=>!zL v.nm (ZD d o.sels):=rfl
 generalize YX s d n o=F at *
 generalize zaS [] o.vars=x1 at *
 generalize (o.vars.any fun v=>!zbM s v.t.nm)=x2 at *
 generalize ((ZD d o.sels).any fun n=>!(z6 o.vars n).isSome)=x3 at *
 generalize (o.vars.any fun v=>!zL v.nm (ZD d o.sels))=x4 at *
 generalize ZD d o.sels=U at *
 obtain⟨ok,onm,vs,ds,ss⟩:=o
 obtain⟨sd,sq,sm⟩:=s
 have hcd:zP d=[.sl .no 5 (cOs d.ops),.sl .no 4 (cFs d.frags)]:=rfl
 simp only[zl,hcd,zap] at r1 r2 r3 r4 r5 ⊢
 refine zg.go ir82 ck82 (Al4 _) fun KP Q hQ=>?_
 by_cases h1:n=18
 ·subst h1
  rw[if_pos rfl] at e0
  subst e0
  simp(disch:=omega) only[ir82,go_sem]
  refine za r1 ?_
  simp(disch:=omega) only[go_sem]
  exact hQ _ _ _ _ nofun rfl (by simp[zd,ze,AV.strip,AV.strip1])
 rw[if_neg h1] at e0
 by_cases h2:n=19
 ·subst h2
  rw[if_pos rfl] at e0
  subst e0
  simp(disch:=omega) only[ir82,go_sem]
  refine za r2 ?_
  simp(disch:=omega) only[go_sem]
  exact hQ _ _ _ _ nofun rfl (by simp[zd,ze,AV.strip,AV.strip1])
 rw[if_neg h2] at e0
 by_cases h3:n=20
 ·subst h3
  rw[if_pos rfl] at e0
  subst e0
  simp(disch:=omega) only[ir82,go_sem]
  refine yn (XP:=fun _ _=>False) (r3 _) (fun v H2 ⟨e,hk⟩=>?_) (fun _ _ h=>h.elim)
  subst e
  simp(disch:=omega) only[go_sem]
  refine za r4 ?_
  simp(disch:=omega) only[go_sem]
  exact hQ _ _ _ _ nofun rfl (by simp[zd,ze,AV.strip,AV.strip1])
 rw[if_neg h3] at e0
 subst e0
 simp(disch:=omega) only[ir82,h1,h2,h3,go_sem]
 refine yn (XP:=fun _ _=>False) (r3 _) (fun v H2 ⟨e,hk⟩=>?_) (fun _ _ h=>h.elim)
 subst e
 simp(disch:=omega) only[go_sem]
 refine zc fun b9 hb9=>?_
 simp(disch:=omega) only[go_sem]
 refine zY (r5 b9 _ (upd_same ..)) ?_
 rintro _ _ ⟨_,rfl,rfl,rfl⟩
 simp(disch:=omega) only[ZU,go_sem]
 exact hQ _ _ _ _ nofun rfl (by simp[zd,ze,AV.strip,AV.strip1])
theorem ztl (o:OpD) (s:SchD) (d:DocD) (n:Int) (hs:zI s≤Lim) (hb:yW d≤Lim) (hb2:lenD d*zq d+zq d≤1099511627776) (ho:bO o≤zq d):zg Tryz.prog 81 [.agg (cO o),.view (zl s),.view (zP d),.view [.int .i64 n]] (.bool (!YX s d n o)):=by
 have h1:=zuO s d o n hs hb hb2 ho
 generalize YX s d n o=x1 at *
 obtain⟨ok,onm,vs,ds,ss⟩:=o
 obtain⟨sd,sq,sm⟩:=s
 have hcd:zP d=[.sl .no 5 (cOs d.ops),.sl .no 4 (cFs d.frags)]:=rfl
 simp only[zl,hcd,zap] at h1 ⊢
 refine zg.go ir81 ck81 (Al4 _) fun KP Q hQ=>?_
 simp(disch:=omega) only[ir81,go_sem]
 refine za h1 ?_
 simp(disch:=omega) only[go_sem]
 exact hQ _ _ _ _ nofun rfl (by simp[zd,ze,AV.strip,AV.strip1])
def zbk (s:SchD) (d:DocD) (n:Int):Bool:=decide (18≤n)&&decide (n≤21)&&!d.ops.any fun o=>!YX s d n o
theorem zvj (s:SchD) (d:DocD) (n:Int) (hs:zI s≤Lim) (hb:yW d≤Lim) (hb2:lenD d*zq d+zq d≤1099511627776):zg Tryz.prog 38 [.agg (zl s),.agg (zP d),.int .i64 n] (.bool (zbk s d n)):=by
 have hb3:=hb
 simp only[yW,Lim] at hb3
 have hb0:bOs d.ops≤zq d:=by simp only[zq];omega
 have hol:=y9 d.ops
 have r1:=anyOp cO (fun _=>rfl) d.ops 81 [.view (zl s),.view (zP d),.view [.int .i64 n]] (fun o=>!YX s d n o) (by simp only[Lim];omega) (by kernel_rfl) fun o ho=>ztl o s d n hs hb hb2 (by
  obtain⟨a,b,hd⟩:=List.append_of_mem ho
  have:=YE a o b
  rw[← hd] at this
  omega)
 unfold zbk
 generalize (d.ops.any fun o=>!YX s d n o)=x1 at *
 obtain⟨sd,sq,sm⟩:=s
 have hcd:zP d=[.sl .no 5 (cOs d.ops),.sl .no 4 (cFs d.frags)]:=rfl
 simp only[zl,hcd] at r1 ⊢
 refine zg.go ir38 ck38 (Al4 _) fun KP Q hQ=>?_
 by_cases h1:18≤n
 case neg =>
  simp(disch:=omega) only[ir38,h1,go_sem]
  exact hQ _ _ _ _ nofun rfl (by simp[zd,ze,AV.strip,AV.strip1,h1])
 by_cases h2:n≤21
 case neg =>
  simp(disch:=omega) only[ir38,h1,h2,go_sem]
  exact hQ _ _ _ _ nofun rfl (by simp[zd,ze,AV.strip,AV.strip1,h1,h2])
 simp(disch:=omega) only[ir38,h1,h2,go_sem]
 refine za r1 ?_
 simp(disch:=omega) only[go_sem]
 exact hQ _ _ _ _ nofun rfl (by simp[zd,ze,AV.strip,AV.strip1,h1,h2])
end Go.Proofs.YtbjofkamhijjlaaGreatDoor
