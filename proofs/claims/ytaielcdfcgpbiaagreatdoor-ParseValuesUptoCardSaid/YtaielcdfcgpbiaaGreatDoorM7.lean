import Derived.Shelf.Strings.IndexAnyAll
import Derived.Shelf.Small.Utf8
import Derived.Laws.RangeAny
import Derived.Laws.Runes
import Derived.WalkMore
import Derived.Shelf.RegionOpenPlain
import Derived.BigQuiet
import Derived.Test.YtaielcdfcgpbiaaGreatDoorM1
import Derived.Test.YtaielcdfcgpbiaaGreatDoorM2
import Derived.Test.YtaielcdfcgpbiaaGreatDoorM3
import Derived.Test.YtaielcdfcgpbiaaGreatDoorM4
import Derived.Test.YtaielcdfcgpbiaaGreatDoorM5
import Derived.Test.YtaielcdfcgpbiaaGreatDoorM6
set_option maxRecDepth 100000
set_option linter.all false
namespace Go.Proofs.YtaielcdfcgpbiaaGreatDoor
open Go.Ab Go.Lib
def ye (l:List (List UInt8)):List AV:=l.map AV.str
theorem yS (l:List (List UInt8)):(ye l).length=l.length:=by simp[ye]
def MsT (H:Heap) (b cap:Nat) (l:List (List UInt8)):Prop:=∃ tl,H b=some (.cells (ye l++tl))∧l.length+tl.length=cap
theorem zew (z:AV):∀ n,(madeA [z] n).length=n
 | 0=>rfl
 | n+1=>by simp[madeA,zew z n]
section
variable {KP:AV→Heap→Prop} {Q:AExit→Env→Heap→Prop} {st:List Fr} {ρ:Env} {H:Heap} {all items:List AItem} {d:Option Nat} {R:List Chk}
theorem zi0 {b cap:Nat} {l:List (List UInt8)} {x:List UInt8} {o2:Own} (h:MsT H b cap l) (h1:(l.length+1)*16≤140737488355328) (h2:l.length+1≤maxLen)
  (k:∀ b' cap' H',MsT H' b' cap' (l++[x])→goR Tryz.prog KP Q all items st R (ρ.set d (.ms b' 0 (l.length+1) cap')) H') :
  goPm Tryz.prog KP Q all items st d R ρ 1 16 [.str []] (.ms b 0 l.length cap) (.sl o2 1 [[.str x]]) H:=by
 obtain⟨tl,hb,hc⟩:=h
 refine goPm_ms hb rfl (by simpa using h1) (by simpa using h2) (fun hfit=>⟨?_,?_⟩) (fun hnf=>⟨?_,fun b' cap' hb' hcap' hm'=>?_⟩)
 ·have hfit:l.length+1≤cap:=hfit
  simp[yS];omega
 ·have hfit:l.length+1≤cap:=hfit
  obtain⟨t0,tl,rfl⟩:∃ t0 t1,tl=t0::t1:=by
   cases tl with
   | nil=>simp at hc;omega
   | cons a b=>exact⟨a,b,rfl⟩
  refine k b cap _ ⟨tl,?_,by simp at hc ⊢;omega⟩
  rw[upd_same]
  simp only[splice,List.flatten_cons,List.flatten_nil,List.append_nil,List.map_cons,List.map_nil,AV.strip1,Al2,Al3,Nat.zero_add,Nat.mul_one]
  rw[List.take_left' (yS l),List.drop_append,List.drop_eq_nil_of_le (by rw[yS];omega),yS,Nat.add_sub_cancel_left]
  simp[ye]
 ·simp[yS]
 ·refine k b' cap' _ ⟨madeA [.str []] (cap'-(l.length+1)),?_,?_⟩
  ·rw[upd_same]
   simp only[List.drop_zero,Nat.mul_one,List.flatten_cons,List.flatten_nil,List.append_nil,List.map_cons,List.map_nil,AV.strip1,Al2,Al3,Nat.zero_add]
   rw[List.take_left' (yS l)]
   simp[ye]
  ·have hcap':l.length+1≤cap':=hcap'
   rw[zew];simp;omega
theorem zhr {x:List UInt8} {o2:Own} (k:∀ b' cap' H',MsT H' b' cap' [x]→goR Tryz.prog KP Q all items st R (ρ.set d (.ms b' 0 1 cap')) H') :
  goPm Tryz.prog KP Q all items st d R ρ 1 16 [.str []] (.sl .nil 1 []) (.sl o2 1 [[.str x]]) H:=by
 refine goPm_nil rfl (by simp) (by simp[maxLen]) (fun h=>by simp at h) fun _ b cap hb h1 h2=>?_
 have h1:1≤cap:=h1
 refine k b cap _ ⟨madeA [.str []] (cap-1),?_,by rw[zew];simp;omega⟩
 rw[upd_same]
 simp[ye,AV.strip1]
end
theorem Yn {cur r:List UInt8} {c:UInt8} (h:¬ (c=10∨c=13)):zz cur (c::r)=zz (cur++[c]) r:=by
 have h10:c≠10:=fun e=>h (.inl e)
 have h13:c≠13:=fun e=>h (.inr e)
 cases r with
 | nil=>simp[zz,h10,h13]
 | cons d r=>simp[zz,h10,h13]
theorem zbp (cur r:List UInt8):zz cur (10::r)=cur::zz [] r:=by cases r<;>simp[zz]
theorem zbm {cur r:List UInt8} (h:r.head?≠some 10):zz cur (13::r)=cur::zz [] r:=by
 cases r with
 | nil=>simp[zz]
 | cons d r =>
  have:d≠10:=by simpa using h
  simp[zz,this]
theorem zan (cur r:List UInt8):zz cur (13::10::r)=cur::zz [] r:=by simp[zz]
def zgj (b cap:Nat) (l:List (List UInt8)):AV:=if l=[] then .sl .nil 1 [] else .ms b 0 l.length cap
theorem zb0 (b cap:Nat):zgj b cap []=.sl .nil 1 []:=rfl
theorem Zq {b cap:Nat} {l:List (List UInt8)} (h:l≠[]):zgj b cap l=.ms b 0 l.length cap:=if_neg h
def zhc (s:List UInt8):AEnd→Heap→Prop:=zi5 fun v H'=>∃ b cap,v=.ms b 0 (zg s).length cap∧MsT H' b cap (zg s)
section
variable {KP:AV→Heap→Prop} {Q:AExit→Env→Heap→Prop} {st:List Fr} {ρ:Env} {H:Heap} {all items:List AItem} {d:Option Nat} {R:List Chk}
theorem ZU {b cap:Nat} {l:List (List UInt8)} {x:List UInt8} {o2:Own} (h:l≠[]→MsT H b cap l) (h1:(l.length+1)*16≤140737488355328) (h2:l.length+1≤maxLen)
  (k:∀ b' cap' H',MsT H' b' cap' (l++[x])→goR Tryz.prog KP Q all items st R (ρ.set d (.ms b' 0 (l.length+1) cap')) H') :
  goPm Tryz.prog KP Q all items st d R ρ 1 16 [.str []] (zgj b cap l) (.sl o2 1 [[.str x]]) H:=by
 by_cases hl:l=[]
 ·subst hl
  rw[zb0]
  exact zhr fun b' cap' H' hm=>k b' cap' H' hm
 ·rw[Zq hl]
  exact zi0 (h hl) h1 h2 k
end
theorem zho (s:List UInt8) (hs:s.length≤Lim):ACalls Tryz.prog 216 [.str s] Heap.emp (zhc s):=by
 refine ACalls.go ir216 ck216 (Al4 _) fun KP Q hQ=>?_
 have hs':=hs
 simp only[Lim] at hs'
 simp(disch:=first|omega|assumption) only[ir216,go_sem]
 refine goL_st (fun x:Nat×Nat×List (List UInt8)×Nat×Nat=>[(3,zgj x.2.2.2.1 x.2.2.2.2 x.2.2.1),(4,.int .i64 x.2.1),(5,.int .i64 x.1)]) (fun x H'=>x.2.1≤x.1∧x.1≤s.length∧x.2.2.1.length≤x.1∧x.2.2.1++zz ((s.take x.1).drop x.2.1) (s.drop x.1)=zg s∧(x.2.2.1≠[]→MsT H' x.2.2.2.1 x.2.2.2.2 x.2.2.1)) (fun x=>s.length-x.1) (0,0,[],0,0) (by simp(disch:=first|omega|assumption) only[zb0,go_sem]) ⟨Al4 _,Nat.zero_le _,Al4 _,by simp[zg],fun h=>absurd rfl h⟩ ?_
 rintro⟨i,fr,l,b,cap⟩ H1 J ⟨h1,h2,h3,h4,h5⟩ hJ
 simp only at h1 h2 h3 h4 h5
 by_cases hlt:i<s.length
 case neg =>
  obtain rfl:i=s.length:=by omega
  have hlt':¬ ((s.length:Int)<s.length):=by omega
  have hb1:((fr:Int)≤s.length)=True:=eq_true (by omega)
  rw[List.drop_length,List.take_length] at h4
  simp only[zz] at h4
  simp(disch:=first|omega|assumption) only[hlt',hb1,go_sem]
  refine ZU h5 (by omega) (by simp only[maxLen];omega) fun b' cap' H2 hm=>?_
  simp(disch:=first|omega|assumption) only[go_sem]
  exact hQ _ _ H2 H2 [_] nofun rfl (Low.refl _) ⟨b',cap',by rw[← h4];simp[tupOf,envOf,AV.strip,AV.strip1],by rw[← h4];exact hm⟩
 have hlt':((i:Int)<s.length)=True:=eq_true (by omega)
 obtain⟨c,r,hd⟩:∃ c r,s.drop i=c::r:=by
  cases hx:s.drop i with
  | nil=>have:=congrArg List.length hx;simp at this;omega
  | cons c r=>exact⟨c,r,rfl⟩
 have hc:s.getD i 0=c:=by
  have:(s.drop i).getD 0 0=c:=by rw[hd];rfl
  simpa[List.getD_eq_getElem?_getD] using this
 have hr:s.drop (i+1)=r:=by rw[← List.drop_drop,hd];rfl
 have htk:s.take (i+1)=s.take i++[c]:=by
  rw[List.take_add,hd];rfl
 have hcur:((s.take (i+1)).drop fr)=(s.take i).drop fr++[c]:=by
  rw[htk,zaz (by simp;omega)]
 rw[hd] at h4
 have hb1:((fr:Int)≤(i:Int))=True:=eq_true (by omega)
 have hne9:l++[(s.take i).drop fr]≠[]:=by simp
 have hb2:((i:Int)≤s.length)=True:=eq_true (by omega)
 by_cases e10:c=10
 case pos =>
  subst e10
  rw[zbp] at h4
  have hcn:((10:UInt8).toNat:Int)=10:=rfl
  simp(disch:=first|omega|assumption) only[hlt',hc,hcn,hb1,hb2,go_sem]
  refine ZU h5 (by omega) (by simp only[maxLen];omega) fun b' cap' H2 hm=>?_
  simp(disch:=first|omega|assumption) only[hc,hcn,wrap64,go_sem]
  refine goJ (hJ (i+1,i+1,l++[(s.take i).drop fr],b',cap') H2 (by simp only;omega) ⟨Al4 _,by simp only;omega,by simp;omega,?_,fun _=>hm⟩) (by simp(disch:=first|omega|assumption) only[Zq hne9,Al5,Al2,Al3,Nat.zero_add,Int.natCast_add,go_sem])
  rw[hr]
  simpa using h4
 by_cases e13:c=13
 case neg =>
  rw[Yn (by simp[e10,e13])] at h4
  have c10:¬ ((c.toNat:Int)=10):=fun e=>e10 (UInt8.toNat_inj.1 (by simpa using (by omega:c.toNat=10)))
  have c13:¬ ((c.toNat:Int)=13):=fun e=>e13 (UInt8.toNat_inj.1 (by simpa using (by omega:c.toNat=13)))
  simp(disch:=first|omega|assumption) only[hlt',hc,c10,c13,wrap64,go_sem]
  refine goJ (hJ (i+1,fr,l,b,cap) H1 (by simp only;omega) ⟨by simp only;omega,by simp only;omega,by simp only;omega,?_,h5⟩) (by simp(disch:=first|omega|assumption) only[Int.natCast_add,go_sem])
  rw[hr,hcur];exact h4
 subst e13
 have hcn:((13:UInt8).toNat:Int)=13:=rfl
 by_cases h10:r.head?=some 10
 case neg =>
  rw[zbm h10] at h4
  by_cases hi2:i+1<s.length
  case neg =>
   have hi2':¬ ((i:Int)+1<s.length):=by omega
   simp(disch:=first|omega|assumption) only[hlt',hc,hcn,hb1,hb2,go_sem]
   refine ZU h5 (by omega) (by simp only[maxLen];omega) fun b' cap' H2 hm=>?_
   simp(disch:=first|omega|assumption) only[hc,hcn,wrap64,hi2',go_sem]
   refine goJ (hJ (i+1,i+1,l++[(s.take i).drop fr],b',cap') H2 (by simp only;omega) ⟨Al4 _,by simp only;omega,by simp;omega,?_,fun _=>hm⟩) (by simp(disch:=first|omega|assumption) only[Zq hne9,Al5,Al2,Al3,Nat.zero_add,Int.natCast_add,go_sem])
   rw[hr]
   simpa using h4
  have hi2':((i:Int)+1<s.length)=True:=eq_true (by omega)
  obtain⟨e,r',hre⟩:∃ e r',r=e::r':=by
   cases r with
   | nil=>have:=congrArg List.length hr;simp at this;omega
   | cons e r'=>exact⟨e,r',rfl⟩
  have hge:s.getD (i+1) 0=e:=by
   have:(s.drop (i+1)).getD 0 0=e:=by rw[hr,hre];rfl
   simpa[List.getD_eq_getElem?_getD] using this
  have hne:e≠10:=by rw[hre] at h10;simpa using h10
  have hgn:¬ ((e.toNat:Int)=10):=fun x=>hne (UInt8.toNat_inj.1 (by simpa using (by omega:e.toNat=10)))
  have hg1:((i:Int)+1).toNat=i+1:=by omega
  simp(disch:=first|omega|assumption) only[hlt',hc,hcn,hb1,hb2,go_sem]
  refine ZU h5 (by omega) (by simp only[maxLen];omega) fun b' cap' H2 hm=>?_
  simp(disch:=first|omega|assumption) only[hc,hcn,wrap64,hi2',hg1,hge,hgn,go_sem]
  refine goJ (hJ (i+1,i+1,l++[(s.take i).drop fr],b',cap') H2 (by simp only;omega) ⟨Al4 _,by simp only;omega,by simp;omega,?_,fun _=>hm⟩) (by simp(disch:=first|omega|assumption) only[Zq hne9,Al5,Al2,Al3,Nat.zero_add,Int.natCast_add,go_sem])
  rw[hr]
  simpa using h4
 obtain⟨r',hre⟩:∃ r',r=10::r':=by
  cases r with
  | nil=>cases h10
  | cons e r'=>simp only[List.head?_cons,Al1] at h10;subst h10;exact⟨r',rfl⟩
 rw[hre,zan] at h4
 have hi2:i+1<s.length:=by
  have:=congrArg List.length hr;rw[hre] at this;simp at this;omega
 have hi2':((i:Int)+1<s.length)=True:=eq_true (by omega)
 have hge:s.getD (i+1) 0=10:=by
  have:(s.drop (i+1)).getD 0 0=10:=by rw[hr,hre];rfl
  simpa[List.getD_eq_getElem?_getD] using this
 have hgn:((10:UInt8).toNat:Int)=10:=rfl
 have hg1:((i:Int)+1).toNat=i+1:=by omega
 have hr2:s.drop (i+1+1)=r':=by rw[← List.drop_drop,hr,hre];rfl
 simp(disch:=first|omega|assumption) only[hlt',hc,hcn,hb1,hb2,go_sem]
 refine ZU h5 (by omega) (by simp only[maxLen];omega) fun b' cap' H2 hm=>?_
 simp(disch:=first|omega|assumption) only[hc,hcn,wrap64,hi2',hg1,hge,hgn,go_sem]
 refine goJ (hJ (i+1+1,i+1+1,l++[(s.take i).drop fr],b',cap') H2 (by simp only;omega) ⟨Al4 _,by simp only;omega,by simp;omega,?_,fun _=>hm⟩) (by simp(disch:=first|omega|assumption) only[Zq hne9,Al5,Al2,Al3,Nat.zero_add,Int.natCast_add,go_sem])
 rw[hr2]
 simpa using h4
theorem zhW (s:List UInt8) (hs:s.length≤Lim):ACalls Tryz.prog 239 [.str s] Heap.emp (zhc s):=by
 refine ACalls.go ir239 ck239 (Al4 _) fun KP Q hQ=>?_
 have hs':=hs
 simp only[Lim] at hs'
 simp(disch:=first|omega|assumption) only[ir239,go_sem]
 refine goL_st (fun x:Nat×Nat×List (List UInt8)×Nat×Nat=>[(3,zgj x.2.2.2.1 x.2.2.2.2 x.2.2.1),(4,.int .i64 x.2.1),(5,.int .i64 x.1)]) (fun x H'=>x.2.1≤x.1∧x.1≤s.length∧x.2.2.1.length≤x.1∧x.2.2.1++zz ((s.take x.1).drop x.2.1) (s.drop x.1)=zg s∧(x.2.2.1≠[]→MsT H' x.2.2.2.1 x.2.2.2.2 x.2.2.1)) (fun x=>s.length-x.1) (0,0,[],0,0) (by simp(disch:=first|omega|assumption) only[zb0,go_sem]) ⟨Al4 _,Nat.zero_le _,Al4 _,by simp[zg],fun h=>absurd rfl h⟩ ?_
 rintro⟨i,fr,l,b,cap⟩ H1 J ⟨h1,h2,h3,h4,h5⟩ hJ
 simp only at h1 h2 h3 h4 h5
 by_cases hlt:i<s.length
 case neg =>
  obtain rfl:i=s.length:=by omega
  have hlt':¬ ((s.length:Int)<s.length):=by omega
  have hb1:((fr:Int)≤s.length)=True:=eq_true (by omega)
  rw[List.drop_length,List.take_length] at h4
  simp only[zz] at h4
  simp(disch:=first|omega|assumption) only[hlt',hb1,go_sem]
  refine ZU h5 (by omega) (by simp only[maxLen];omega) fun b' cap' H2 hm=>?_
  simp(disch:=first|omega|assumption) only[go_sem]
  exact hQ _ _ H2 H2 [_] nofun rfl (Low.refl _) ⟨b',cap',by rw[← h4];simp[tupOf,envOf,AV.strip,AV.strip1],by rw[← h4];exact hm⟩
 have hlt':((i:Int)<s.length)=True:=eq_true (by omega)
 obtain⟨c,r,hd⟩:∃ c r,s.drop i=c::r:=by
  cases hx:s.drop i with
  | nil=>have:=congrArg List.length hx;simp at this;omega
  | cons c r=>exact⟨c,r,rfl⟩
 have hc:s.getD i 0=c:=by
  have:(s.drop i).getD 0 0=c:=by rw[hd];rfl
  simpa[List.getD_eq_getElem?_getD] using this
 have hr:s.drop (i+1)=r:=by rw[← List.drop_drop,hd];rfl
 have htk:s.take (i+1)=s.take i++[c]:=by
  rw[List.take_add,hd];rfl
 have hcur:((s.take (i+1)).drop fr)=(s.take i).drop fr++[c]:=by
  rw[htk,zaz (by simp;omega)]
 rw[hd] at h4
 have hb1:((fr:Int)≤(i:Int))=True:=eq_true (by omega)
 have hne9:l++[(s.take i).drop fr]≠[]:=by simp
 have hb2:((i:Int)≤s.length)=True:=eq_true (by omega)
 by_cases e10:c=10
 case pos =>
  subst e10
  rw[zbp] at h4
  have hcn:((10:UInt8).toNat:Int)=10:=rfl
  simp(disch:=first|omega|assumption) only[hlt',hc,hcn,hb1,hb2,go_sem]
  refine ZU h5 (by omega) (by simp only[maxLen];omega) fun b' cap' H2 hm=>?_
  simp(disch:=first|omega|assumption) only[hc,hcn,wrap64,go_sem]
  refine goJ (hJ (i+1,i+1,l++[(s.take i).drop fr],b',cap') H2 (by simp only;omega) ⟨Al4 _,by simp only;omega,by simp;omega,?_,fun _=>hm⟩) (by simp(disch:=first|omega|assumption) only[Zq hne9,Al5,Al2,Al3,Nat.zero_add,Int.natCast_add,go_sem])
  rw[hr]
  simpa using h4
 by_cases e13:c=13
 case neg =>
  rw[Yn (by simp[e10,e13])] at h4
  have c10:¬ ((c.toNat:Int)=10):=fun e=>e10 (UInt8.toNat_inj.1 (by simpa using (by omega:c.toNat=10)))
  have c13:¬ ((c.toNat:Int)=13):=fun e=>e13 (UInt8.toNat_inj.1 (by simpa using (by omega:c.toNat=13)))
  simp(disch:=first|omega|assumption) only[hlt',hc,c10,c13,wrap64,go_sem]
  refine goJ (hJ (i+1,fr,l,b,cap) H1 (by simp only;omega) ⟨by simp only;omega,by simp only;omega,by simp only;omega,?_,h5⟩) (by simp(disch:=first|omega|assumption) only[Int.natCast_add,go_sem])
  rw[hr,hcur];exact h4
 subst e13
 have hcn:((13:UInt8).toNat:Int)=13:=rfl
 by_cases h10:r.head?=some 10
 case neg =>
  rw[zbm h10] at h4
  by_cases hi2:i+1<s.length
  case neg =>
   have hi2':¬ ((i:Int)+1<s.length):=by omega
   simp(disch:=first|omega|assumption) only[hlt',hc,hcn,hb1,hb2,go_sem]
   refine ZU h5 (by omega) (by simp only[maxLen];omega) fun b' cap' H2 hm=>?_
   simp(disch:=first|omega|assumption) only[hc,hcn,wrap64,hi2',go_sem]
   refine goJ (hJ (i+1,i+1,l++[(s.take i).drop fr],b',cap') H2 (by simp only;omega) ⟨Al4 _,by simp only;omega,by simp;omega,?_,fun _=>hm⟩) (by simp(disch:=first|omega|assumption) only[Zq hne9,Al5,Al2,Al3,Nat.zero_add,Int.natCast_add,go_sem])
   rw[hr]
   simpa using h4
  have hi2':((i:Int)+1<s.length)=True:=eq_true (by omega)
  obtain⟨e,r',hre⟩:∃ e r',r=e::r':=by
   cases r with
   | nil=>have:=congrArg List.length hr;simp at this;omega
   | cons e r'=>exact⟨e,r',rfl⟩
  have hge:s.getD (i+1) 0=e:=by
   have:(s.drop (i+1)).getD 0 0=e:=by rw[hr,hre];rfl
   simpa[List.getD_eq_getElem?_getD] using this
  have hne:e≠10:=by rw[hre] at h10;simpa using h10
  have hgn:¬ ((e.toNat:Int)=10):=fun x=>hne (UInt8.toNat_inj.1 (by simpa using (by omega:e.toNat=10)))
  have hg1:((i:Int)+1).toNat=i+1:=by omega
  simp(disch:=first|omega|assumption) only[hlt',hc,hcn,hb1,hb2,go_sem]
  refine ZU h5 (by omega) (by simp only[maxLen];omega) fun b' cap' H2 hm=>?_
  simp(disch:=first|omega|assumption) only[hc,hcn,wrap64,hi2',hg1,hge,hgn,go_sem]
  refine goJ (hJ (i+1,i+1,l++[(s.take i).drop fr],b',cap') H2 (by simp only;omega) ⟨Al4 _,by simp only;omega,by simp;omega,?_,fun _=>hm⟩) (by simp(disch:=first|omega|assumption) only[Zq hne9,Al5,Al2,Al3,Nat.zero_add,Int.natCast_add,go_sem])
  rw[hr]
  simpa using h4
 obtain⟨r',hre⟩:∃ r',r=10::r':=by
  cases r with
  | nil=>cases h10
  | cons e r'=>simp only[List.head?_cons,Al1] at h10;subst h10;exact⟨r',rfl⟩
 rw[hre,zan] at h4
 have hi2:i+1<s.length:=by
  have:=congrArg List.length hr;rw[hre] at this;simp at this;omega
 have hi2':((i:Int)+1<s.length)=True:=eq_true (by omega)
 have hge:s.getD (i+1) 0=10:=by
  have:(s.drop (i+1)).getD 0 0=10:=by rw[hr,hre];rfl
  simpa[List.getD_eq_getElem?_getD] using this
 have hgn:((10:UInt8).toNat:Int)=10:=rfl
 have hg1:((i:Int)+1).toNat=i+1:=by omega
 have hr2:s.drop (i+1+1)=r':=by rw[← List.drop_drop,hr,hre];rfl
 simp(disch:=first|omega|assumption) only[hlt',hc,hcn,hb1,hb2,go_sem]
 refine ZU h5 (by omega) (by simp only[maxLen];omega) fun b' cap' H2 hm=>?_
 simp(disch:=first|omega|assumption) only[hc,hcn,wrap64,hi2',hg1,hge,hgn,go_sem]
 refine goJ (hJ (i+1+1,i+1+1,l++[(s.take i).drop fr],b',cap') H2 (by simp only;omega) ⟨Al4 _,by simp only;omega,by simp;omega,?_,fun _=>hm⟩) (by simp(disch:=first|omega|assumption) only[Zq hne9,Al5,Al2,Al3,Nat.zero_add,Int.natCast_add,go_sem])
 rw[hr2]
 simpa using h4
theorem zaH (c:UInt8):zal c=true↔(c.toNat:Int)=9∨(c.toNat:Int)=32:=by
 simp only[zal,zaW,zm]
 constructor
 ·rintro(rfl|rfl)
  ·exact .inl rfl
  ·exact .inr rfl
 ·rintro(h|h)
  ·exact .inl (UInt8.toNat_inj.1 (by simpa using (by omega:c.toNat=9)))
  ·exact .inr (UInt8.toNat_inj.1 (by simpa using (by omega:c.toNat=32)))
theorem zcA {a r:List UInt8} {c:UInt8} (ha:∀ x∈a,zal x=true) (hc:zal c=false):yv (a++c::r)=a.length∧zr (a++c::r)=false:=by
 refine⟨?_,?_⟩
 ·unfold yv
  induction a with
  | nil=>simp[hc]
  | cons x a ih=>simp[ha x (.head _),ih fun y hy=>ha y (.tail _ hy)]
 ·simp[zr,hc]
theorem zdH {a:List UInt8} (ha:∀ x∈a,zal x=true):yv a=a.length∧zr a=true:=by
 have hb:zr a=true:=ZW.2 ha
 exact⟨zcL hb,hb⟩
theorem Z5 (s:List UInt8) (hs:s.length≤Lim):Pure Tryz.prog 246 [.str s] (.tup [.int .i64 (yv s),.bool (!zr s)]):=by
 refine Pure.go ir246 ck246 (Al4 _) fun KP Q hQ=>?_
 have hs':=hs
 simp only[Lim] at hs'
 simp(disch:=first|omega|assumption) only[ir246,go_sem]
 refine goL_range s 7 (fun _:AV=>[]) (fun done rest _ H'=>∀ x∈done,zal x=true) (.int .i64 0) (by simp(disch:=first|omega|assumption) only[go_sem]) (fun x hx=>nomatch hx) ?_ ?_
 ·rintro y H1 J hdn hlt
  obtain⟨g1,g2⟩:=zdH hdn
  simp(disch:=first|omega|assumption) only[hlt,go_sem]
  exact hQ _ _ _ _ nofun rfl (by simp[tupOf,envOf,AV.strip,AV.strip1,g1,g2])
 ·rintro done c rest y H1 J hd hlt hlt2 hdn hJ
  have hc:s.getD done.length 0=c:=by rw[hd];simp
  cases hb:zal c with
  | false =>
   obtain⟨g1,g2⟩:=zcA (r:=rest) hdn hb
   rw[← hd] at g1 g2
   have hn:¬ ((c.toNat:Int)=9∨(c.toNat:Int)=32):=fun h=>by rw[(zaH c).2 h] at hb;cases hb
   have n9:¬ ((c.toNat:Int)=9):=fun h=>hn (.inl h)
   have n32:¬ ((c.toNat:Int)=32):=fun h=>hn (.inr h)
   simp(disch:=first|omega|assumption) only[hlt,hc,n9,n32,go_sem]
   exact hQ _ _ _ _ nofun rfl (by simp[tupOf,envOf,AV.strip,AV.strip1,g1,g2])
  | true =>
   have hall:∀ x∈done++[c],zal x=true:=fun x hx=>by
    rcases List.mem_append.1 hx with h|h
    ·exact hdn x h
    ·simp at h;subst h;exact hb
   rcases(zaH c).1 hb with h9|h32
   ·simp(disch:=first|omega|assumption) only[hlt,hc,h9,wrap64,go_sem]
    exact goJ (hJ (.int .i64 0) _ hall) (by simp(disch:=first|omega|assumption) only[go_sem])
   ·have n9:¬ ((c.toNat:Int)=9):=by omega
    simp(disch:=first|omega|assumption) only[hlt,hc,n9,h32,wrap64,go_sem]
    exact goJ (hJ (.int .i64 0) _ hall) (by simp(disch:=first|omega|assumption) only[go_sem])
theorem zbU (s:List UInt8) (hs:s.length≤Lim):Pure Tryz.prog 260 [.str s] (.tup [.int .i64 (yv s),.bool (!zr s)]):=by
 refine Pure.go ir260 ck260 (Al4 _) fun KP Q hQ=>?_
 have hs':=hs
 simp only[Lim] at hs'
 simp(disch:=first|omega|assumption) only[ir260,go_sem]
 refine goL_range s 4 (fun _:AV=>[]) (fun done rest _ H'=>∀ x∈done,zal x=true) (.int .i64 0) (by simp(disch:=first|omega|assumption) only[go_sem]) (fun x hx=>nomatch hx) ?_ ?_
 ·rintro y H1 J hdn hlt
  obtain⟨g1,g2⟩:=zdH hdn
  simp(disch:=first|omega|assumption) only[hlt,go_sem]
  exact hQ _ _ _ _ nofun rfl (by simp[tupOf,envOf,AV.strip,AV.strip1,g1,g2])
 ·rintro done c rest y H1 J hd hlt hlt2 hdn hJ
  have hc:s.getD done.length 0=c:=by rw[hd];simp
  cases hb:zal c with
  | false =>
   obtain⟨g1,g2⟩:=zcA (r:=rest) hdn hb
   rw[← hd] at g1 g2
   have hn:¬ ((c.toNat:Int)=9∨(c.toNat:Int)=32):=fun h=>by rw[(zaH c).2 h] at hb;cases hb
   have n9:¬ ((c.toNat:Int)=9):=fun h=>hn (.inl h)
   have n32:¬ ((c.toNat:Int)=32):=fun h=>hn (.inr h)
   simp(disch:=first|omega|assumption) only[hlt,hc,n9,n32,go_sem]
   exact hQ _ _ _ _ nofun rfl (by simp[tupOf,envOf,AV.strip,AV.strip1,g1,g2])
  | true =>
   have hall:∀ x∈done++[c],zal x=true:=fun x hx=>by
    rcases List.mem_append.1 hx with h|h
    ·exact hdn x h
    ·simp at h;subst h;exact hb
   rcases(zaH c).1 hb with h9|h32
   ·simp(disch:=first|omega|assumption) only[hlt,hc,h9,wrap64,go_sem]
    exact goJ (hJ (.int .i64 0) _ hall) (by simp(disch:=first|omega|assumption) only[go_sem])
   ·have n9:¬ ((c.toNat:Int)=9):=by omega
    simp(disch:=first|omega|assumption) only[hlt,hc,n9,h32,wrap64,go_sem]
    exact goJ (hJ (.int .i64 0) _ hall) (by simp(disch:=first|omega|assumption) only[go_sem])
theorem YA (s:List UInt8) (hs:s.length≤Lim):Pure Tryz.prog 218 [.str s] (.bool (zr s)):=by
 refine Pure.go ir218 ck218 (Al4 _) fun KP Q hQ=>?_
 simp(disch:=first|omega|assumption) only[ir218,go_sem]
 refine goK_pure (Z5 s hs) ?_
 simp(disch:=first|omega|assumption) only[go_sem]
 exact hQ _ _ _ _ nofun rfl (by simp[tupOf,envOf,AV.strip,AV.strip1])
theorem YN (s:List UInt8) (hs:s.length≤Lim):Pure Tryz.prog 241 [.str s] (.bool (zr s)):=by
 refine Pure.go ir241 ck241 (Al4 _) fun KP Q hQ=>?_
 simp(disch:=first|omega|assumption) only[ir241,go_sem]
 refine goK_pure (zbU s hs) ?_
 simp(disch:=first|omega|assumption) only[go_sem]
 exact hQ _ _ _ _ nofun rfl (by simp[tupOf,envOf,AV.strip,AV.strip1])
theorem Yr {l a:List (List UInt8)} {x:List UInt8} {b:List (List UInt8)} (h:l=a++x::b) (tl:List AV):((ye l++tl).drop (0+a.length*1)).take 1=[.str x]:=by
 subst h;simp[ye]
theorem zaE {l a:List (List UInt8)} {x:List UInt8} {b:List (List UInt8)} (h:l=a++x::b) (tl:List AV):0+a.length*1+1≤(ye l++tl).length:=by
 subst h;simp[ye]
theorem zgw {H:Heap} {b cap:Nat} {l:List (List UInt8)} (h:MsT H b cap l) (hx:∀ s∈l,s.length≤Lim) (hl:l.length≤Lim) :
  ACalls Tryz.prog 217 [.ms b 0 l.length cap] H (zi5 fun v H'=>v=.int .i64 (indM l)∧H'=H):=by
 obtain⟨tl,hb,hc⟩:=h
 refine ACalls.go ir217 ck217 (Al4 _) fun KP Q hQ=>?_
 have hl':=hl
 simp only[Lim] at hl'
 simp(disch:=first|omega|assumption) only[ir217,go_sem]
 refine goL_range l 10 (fun n:Int=>[(3,.int .i64 n)]) (fun done rest n H'=>H'=H∧((done=[]∧n=-1)∨(done≠[]∧Yl rest n=indM l))) (-1) (by simp(disch:=first|omega|assumption) only[go_sem]) ⟨rfl,.inl ⟨rfl,rfl⟩⟩ ?_ ?_
 ·rintro n H1 J ⟨rfl,hi⟩ hlt
  have e:n=indM l:=by
   rcases hi with ⟨h1,h2⟩|⟨_,h2⟩
   ·subst h1;subst h2;rfl
   ·simpa[Yl] using h2
  simp(disch:=first|omega|assumption) only[hlt,go_sem]
  exact hQ _ _ _ _ [_] nofun rfl (Low.refl _) ⟨by simp[tupOf,envOf,AV.strip,AV.strip1,e],rfl⟩
 ·rintro done x rest n H1 J hd hlt hlt2 ⟨rfl,hi⟩ hJ
  have hg:=Yr hd tl
  have hle:=zaE hd tl
  have hxl:=hx x (by rw[hd];simp)
  have hne:done++[x]≠[]:=by simp
  by_cases h0:done.length=0
  ·have h0':((done.length:Int)=0)=True:=eq_true (by omega)
   have hdn:=zfT.1 h0
   have e1:n=-1:=by
    rcases hi with ⟨_,h2⟩|⟨h1,_⟩
    ·exact h2
    ·exact absurd hdn h1
   have e2:rest=l.tail:=by rw[hd,hdn];rfl
   simp(disch:=first|omega|assumption) only[hlt,hb,hg,hle,go_sem]
   refine goK_pure (Z5 x hxl) ?_
   simp(disch:=first|omega|assumption) only[h0',wrap64,go_sem]
   exact goJ (hJ n _ ⟨rfl,.inr ⟨hne,by rw[e1,e2];rfl⟩⟩) (by simp(disch:=first|omega|assumption) only[go_sem])
  have h0':¬ ((done.length:Int)=0):=by omega
  have e1:Yl (x::rest) n=indM l:=by
   rcases hi with ⟨h1,_⟩|⟨_,h2⟩
   ·rw[h1] at h0;exact absurd rfl h0
   ·exact h2
  simp only[Yl] at e1
  cases hbr:zr x with
  | true =>
   rw[hbr,if_pos rfl] at e1
   simp(disch:=first|omega|assumption) only[hlt,hb,hg,hle,go_sem]
   refine goK_pure (Z5 x hxl) ?_
   simp(disch:=first|omega|assumption) only[h0',hbr,wrap64,go_sem]
   exact goJ (hJ n _ ⟨rfl,.inr ⟨hne,e1⟩⟩) (by simp(disch:=first|omega|assumption) only[go_sem])
  | false =>
   rw[hbr,if_neg (by decide)] at e1
   by_cases hn:n<0
   ·rw[if_pos (.inl hn)] at e1
    simp(disch:=first|omega|assumption) only[hlt,hb,hg,hle,go_sem]
    refine goK_pure (Z5 x hxl) ?_
    simp(disch:=first|omega|assumption) only[h0',hbr,hn,wrap64,go_sem]
    exact goJ (hJ (yv x) _ ⟨rfl,.inr ⟨hne,e1⟩⟩) (by simp(disch:=first|omega|assumption) only[go_sem])
   ·by_cases hn2:(yv x:Int)<n
    ·rw[if_pos (.inr hn2)] at e1
     simp(disch:=first|omega|assumption) only[hlt,hb,hg,hle,go_sem]
     refine goK_pure (Z5 x hxl) ?_
     simp(disch:=first|omega|assumption) only[h0',hbr,hn,hn2,wrap64,go_sem]
     exact goJ (hJ (yv x) _ ⟨rfl,.inr ⟨hne,e1⟩⟩) (by simp(disch:=first|omega|assumption) only[go_sem])
    ·rw[if_neg (by rintro(h|h)<;>contradiction)] at e1
     simp(disch:=first|omega|assumption) only[hlt,hb,hg,hle,go_sem]
     refine goK_pure (Z5 x hxl) ?_
     simp(disch:=first|omega|assumption) only[h0',hbr,hn,hn2,wrap64,go_sem]
     exact goJ (hJ n _ ⟨rfl,.inr ⟨hne,e1⟩⟩) (by simp(disch:=first|omega|assumption) only[go_sem])
theorem zfk {α:Type} {l:List α} {i:Nat} (h:i<l.length):∃ a x b,l=a++x::b∧a.length=i:=⟨l.take i,l[i],l.drop (i+1),by simp,by simp;omega⟩
theorem zg3 {H:Heap} {b cap:Nat} {l:List (List UInt8)} (h:MsT H b cap l) (hx:∀ s∈l,s.length≤Lim) (hl:l.length≤Lim) :
  ACalls Tryz.prog 240 [.ms b 0 l.length cap] H (zi5 fun v H'=>v=.int .i64 (indM l)∧H'=H):=by
 obtain⟨tl,hb,hc⟩:=h
 refine ACalls.go ir240 ck240 (Al4 _) fun KP Q hQ=>?_
 have hl':=hl
 simp only[Lim] at hl'
 simp(disch:=first|omega|assumption) only[ir240,go_sem]
 refine goL_st (fun x:Nat×Int=>[(3,.int .i64 x.2),(4,.int .i64 ((x.1:Int)+1))]) (fun x H'=>H'=H∧Yl (l.drop (x.1+1)) x.2=indM l) (fun x=>l.length-x.1) (0,-1) (by simp(disch:=first|omega|assumption) only[go_sem]) ⟨rfl,by simp[indM]⟩ ?_
 rintro⟨i,n⟩ H1 J ⟨rfl,hi⟩ hJ
 simp only at hi
 by_cases hlt:i+1<l.length
 case neg =>
  have hlt':¬ ((i:Int)+1<l.length):=by omega
  rw[List.drop_eq_nil_of_le (by omega)] at hi
  have e:n=indM l:=by simpa[Yl] using hi
  simp(disch:=first|omega|assumption) only[hlt',go_sem]
  exact hQ _ _ _ _ [_] nofun rfl (Low.refl _) ⟨by simp[tupOf,envOf,AV.strip,AV.strip1,e],rfl⟩
 have hlt':((i:Int)+1<l.length)=True:=eq_true (by omega)
 obtain⟨a,x,r,hd,ha⟩:=zfk hlt
 have hg:=Yr hd tl
 have hle:=zaE hd tl
 rw[ha] at hg hle
 have hxl:=hx x (by rw[hd];simp)
 have h1:((i:Int)+1).toNat=i+1:=by omega
 have hdr:l.drop (i+1)=x::r:=by rw[hd,← ha];simp
 have hdr2:l.drop (i+1+1)=r:=by rw[← List.drop_drop,hdr];rfl
 rw[hdr] at hi
 simp only[Yl] at hi
 cases hbr:zr x with
 | true =>
  rw[hbr,if_pos rfl] at hi
  simp(disch:=first|omega|assumption) only[hlt',h1,hb,hg,hle,go_sem]
  refine goK_pure (zbU x hxl) ?_
  simp(disch:=first|omega|assumption) only[hbr,wrap64,go_sem]
  exact goJ (hJ (i+1,n) _ (by simp only;omega) ⟨rfl,by simp only;rw[hdr2];exact hi⟩) (by simp(disch:=first|omega|assumption) only[Int.natCast_add,go_sem])
 | false =>
  rw[hbr,if_neg (by decide)] at hi
  by_cases hn:n<0
  ·rw[if_pos (.inl hn)] at hi
   simp(disch:=first|omega|assumption) only[hlt',h1,hb,hg,hle,go_sem]
   refine goK_pure (zbU x hxl) ?_
   simp(disch:=first|omega|assumption) only[hbr,hn,wrap64,go_sem]
   exact goJ (hJ (i+1,yv x) _ (by simp only;omega) ⟨rfl,by simp only;rw[hdr2];exact hi⟩) (by simp(disch:=first|omega|assumption) only[Int.natCast_add,go_sem])
  ·by_cases hn2:(yv x:Int)<n
   ·rw[if_pos (.inr hn2)] at hi
    simp(disch:=first|omega|assumption) only[hlt',h1,hb,hg,hle,go_sem]
    refine goK_pure (zbU x hxl) ?_
    simp(disch:=first|omega|assumption) only[hbr,hn,hn2,wrap64,go_sem]
    exact goJ (hJ (i+1,yv x) _ (by simp only;omega) ⟨rfl,by simp only;rw[hdr2];exact hi⟩) (by simp(disch:=first|omega|assumption) only[Int.natCast_add,go_sem])
   ·rw[if_neg (by rintro(h|h)<;>contradiction)] at hi
    simp(disch:=first|omega|assumption) only[hlt',h1,hb,hg,hle,go_sem]
    refine goK_pure (zbU x hxl) ?_
    simp(disch:=first|omega|assumption) only[hbr,hn,hn2,wrap64,go_sem]
    exact goJ (hJ (i+1,n) _ (by simp only;omega) ⟨rfl,by simp only;rw[hdr2];exact hi⟩) (by simp(disch:=first|omega|assumption) only[Int.natCast_add,go_sem])
theorem zcj (s cur:List UInt8):zz cur s≠[]:=by
 cases s with
 | nil=>simp[zz]
 | cons c s =>
  by_cases h:c=10∨c=13
  ·rcases h with rfl|rfl
   ·rw[zbp];simp
   ·by_cases h10:s.head?=some 10
    ·cases s with
     | nil=>cases h10
     | cons d s=>simp only[List.head?_cons,Al1] at h10;subst h10;rw[zan];simp
    ·rw[zbm h10];simp
  ·rw[Yn h];exact zcj s _
termination_by s.length
theorem Z4:∀(s cur:List UInt8),((zz cur s).map fun x=>x.length+1).sum≤cur.length+s.length+1
 | [],cur=>by simp[zz]
 | [c],cur=>by simp only[zz];split<;>simp
 | c::d::r,cur=>by
  have h1:=Z4 (d::r)
  have h2:=Z4 r
  simp only[zz]
  repeat' split
  all_goals simp only[Al2,List.map_cons,List.sum_cons] at h1 ⊢
  ·have:=h1 [];simp only[Al3] at this;omega
  ·have:=h2 [];simp only[Al3] at this;omega
  ·have:=h1 [];simp only[Al3] at this;omega
  ·have:=h1 (cur++[c]);simp only[Al5,Al2,Al3] at this;omega
termination_by s=>s.length
theorem zh2 {l:List (List UInt8)} {x:List UInt8} (h:x∈l):x.length+1≤(l.map fun x=>x.length+1).sum:=by
 obtain⟨a,b,rfl⟩:=List.append_of_mem h
 simp;omega
def AtR (cells:List AV) (off:Nat) (cur:List (List UInt8)):Prop:=∃ pre post,cells=pre++(ye cur++post)∧pre.length=off
theorem AtR.get {cells:List AV} {off:Nat} {cur a:List (List UInt8)} {x:List UInt8} {r:List (List UInt8)} (h:AtR cells off cur) (hc:cur=a++x::r):(cells.drop (off+a.length*1)).take 1=[.str x]∧off+a.length*1+1≤cells.length:=by
 obtain⟨pre,post,rfl,rfl⟩:=h
 subst hc
 refine⟨?_,by simp[ye];omega⟩
 rw[Nat.mul_one,← List.drop_drop,List.drop_left]
 simp[ye]
theorem AtR.le {cells:List AV} {off:Nat} {cur:List (List UInt8)} (h:AtR cells off cur):off+cur.length≤cells.length:=by
 obtain⟨pre,post,rfl,rfl⟩:=h
 simp[ye]
theorem AtR.front {cells:List AV} {b off cap:Nat} {x:List UInt8} {r:List (List UInt8)} (h:AtR cells off (x::r)) (hc:r.length+1≤cap) :
  ∃ off2,msCut 1 b off (r.length+1) cap (some 1) (some ((r.length+1:Nat):Int))=some (.ms b off2 r.length (cap-1))∧AtR cells off2 r:=by
 obtain⟨pre,post,rfl,rfl⟩:=h
 have e:(((r.length+1:Nat):Int)).toNat-(1:Int).toNat=r.length:=by omega
 by_cases h1:cap=1
 ·obtain rfl:r=[]:=zfT.1 (by omega)
  exact⟨pre.length,by simp[msCut,h1],pre,.str x::post,by simp[ye],rfl⟩
 ·refine⟨pre.length+1,?_,pre++[.str x],post,by simp[ye],by simp⟩
  unfold msCut
  simp only
  rw[if_pos (by omega),if_neg (by simpa using h1),e]
  simp
theorem zcg {b off cap len k:Nat} (h:k≤len):msCut 1 b off len cap (some 0) (some (k:Int))=some (.ms b off k cap):=by
 unfold msCut
 simp only
 rw[if_pos (by omega)]
 simp
theorem AtR.back {cells:List AV} {off:Nat} {x:List UInt8} {r:List (List UInt8)} (h:AtR cells off (r++[x])):AtR cells off r:=by
 obtain⟨pre,post,rfl,rfl⟩:=h
 exact⟨pre,.str x::post,by simp[ye],rfl⟩
theorem zcw:∀(cur:List (List UInt8)) (post:List AV),rowsA 1 cur.length (ye cur++post)=cT cur
 | [],_=>rfl
 | x::r,post=>by
  have:=zcw r post
  simp only[ye] at this
  simp[rowsA,ye,cT,AV.strip1,this]
theorem AtR.rows {cells:List AV} {off:Nat} {cur:List (List UInt8)} (h:AtR cells off cur):rowsA 1 cur.length (cells.drop off)=cT cur:=by
 obtain⟨pre,post,rfl,rfl⟩:=h
 rw[List.drop_left,zcw]
def wL (l:List (List UInt8)):Nat:=(l.map fun x=>x.length+1).sum
theorem Zh {l:List (List UInt8)} {x:List UInt8} (h:x∈l):x.length+1≤wL l:=zh2 h
theorem YJ:∀ l:List (List UInt8),l.length≤wL l
 | []=>by simp
 | x::r=>by have:=YJ r;simp only[wL,List.map_cons,List.sum_cons,Al2] at this ⊢;omega
theorem zae (a b:List (List UInt8)):wL (a++b)=wL a+wL b:=by simp[wL]
theorem yw (x:List UInt8) (b:List (List UInt8)):wL (x::b)=x.length+1+wL b:=by simp[wL]
theorem zbB (n:Nat):∀ l:List (List UInt8),wL (l.map fun s=>s.drop n)≤wL l
 | []=>by simp[wL]
 | x::r=>by have:=zbB n r;simp only[List.map_cons,yw,zI];omega
theorem YV:∀ l:List (List UInt8),(Lib.join l [10]).length≤wL l
 | []=>by simp[Lib.join]
 | [x]=>by simp[Lib.join,wL]
 | x::y::r=>by
  have:=YV (y::r)
  have e:Lib.join (x::y::r) [10]=x++10::Lib.join (y::r) [10]:=by simp[Lib.join]
  rw[e,yw]
  simp only[Al5,Al2];omega
theorem y5 (r:List (List UInt8)) (x:List UInt8):yG (r++[x])=if zr x then yG r else r++[x]:=by
 unfold yG
 rw[List.reverse_append,List.reverse_singleton,List.singleton_append,List.dropWhile_cons]
 split
 ·rfl
 ·simp
theorem zfm {α:Type} {l:List α} (h:l≠[]):∃ r x,l=r++[x]:=⟨l.dropLast,l.getLast h,(List.dropLast_concat_getLast h).symm⟩
theorem zdW (a:List (List UInt8)) (x y:List UInt8) (r:List (List UInt8)) (tl:List AV):splice (ye (a++x::r)++tl) (0+a.length*1) [.str y]=ye (a++y::r)++tl:=by
 have e:ye (a++x::r)++tl=ye a++(.str x::(ye r++tl)):=by simp[ye]
 rw[e]
 simp only[splice,Al2,Al3,Nat.zero_add,Nat.mul_one]
 rw[List.take_left' (yS a),List.drop_append,List.drop_eq_nil_of_le (by rw[yS];omega),yS,Nat.add_sub_cancel_left]
 simp[ye]
theorem zhz (raw:List UInt8) (hs:raw.length≤1099511600000):Pure Tryz.prog 175 [.str raw] (.str (zy raw)):=by
 refine Pure.go ir175 ck175 (Al4 _) fun KP Q hQ=>?_
 have hw0:wL (zg raw)≤raw.length+1:=by have:=Z4 raw [];simpa[wL,zg] using this
 obtain⟨x0,T,hL⟩:∃ x T,zg raw=x::T:=by
  cases hx:zg raw with
  | nil=>exact absurd hx (zcj raw [])
  | cons x T=>exact⟨x,T,rfl⟩
 have hLl:=YJ (zg raw)
 simp(disch:=first|omega|assumption) only[ir175,go_sem]
 refine goK_ret (zho raw (by simp only[Lim];omega)) fun v H1 ⟨b,cap,hv,hm⟩=>?_
 subst hv
 have hm0:=hm
 obtain⟨tl,hb,hcap⟩:=hm
 simp(disch:=first|omega|assumption) only[go_sem]
 refine goK_ret (zgw hm0 (fun s hsm=>by have:=Zh hsm;simp only[Lim];omega) (by simp only[Lim];omega)) fun v H2 ⟨hv,hH⟩=>?_
 subst hv;subst hH
 by_cases hn:0<indM (zg raw)
 case neg =>
  have hn0:(indM (zg raw)).toNat=0:=by omega
  obtain⟨D,hDd⟩:∃ D,D=zg raw:=⟨_,rfl⟩
  have hDM:ZL (zg raw)=D:=by
   rw[hDd]
   conv=>lhs;rw[hL]
   simp only[ZL]
   rw[← hL,hn0]
   simp[hL]
  have hDl:D.length=(zg raw).length:=by rw[hDd]
  have hbX:H2 b=some (.cells (ye D++tl)):=by rw[hDd];exact hb
  obtain⟨cells,hcells⟩:∃ cells,cells=ye D++tl:=⟨_,rfl⟩
  rw[← hcells] at hbX
  have hwD:wL D≤1099511627777:=by rw[hDd];omega
  rw[← hDd] at hcap
  simp(disch:=first|omega|assumption) only[hn,go_sem]
  refine goL_st (fun x:Nat×Nat×List (List UInt8)=>[(3,.ms b x.1 x.2.2.length x.2.1)]) (fun x H'=>H'=H2∧AtR cells x.1 x.2.2∧x.2.2.length≤x.2.1∧x.2.2.dropWhile zr=D.dropWhile zr∧wL x.2.2≤wL D) (fun x=>x.2.2.length) (0,cap,D) (by simp(disch:=first|omega|assumption) only[hDl,go_sem]) ⟨rfl,⟨[],tl,by rw[hcells,Y2],rfl⟩,by simp only;omega,rfl,Al4 _⟩ ?_
  rintro⟨off,cp,cur⟩ H3 J ⟨rfl,ha,hcp,hdw,hw⟩ hJ
  simp only at ha hcp hdw hw
  have stage2:∀ K:Unit,cur=D.dropWhile zr→True:=fun _ _=>trivial
  by_cases hcur:cur=[]
  case pos =>
   subst hcur
   have hD:D.dropWhile zr=[]:=by rw[← hdw];rfl
   simp(disch:=first|omega|assumption) only[Al3,go_sem]
   refine goL_st (fun x:Unit=>[]) (fun x H'=>H'=H3) (fun x=>0) () (by simp(disch:=first|omega|assumption) only[Al3,go_sem]) rfl ?_
   rintro⟨⟩ H4 J4 rfl hJ4
   simp(disch:=first|omega|assumption) only[Al3,go_sem]
   refine goZ_ms hbX (by decide) (by have:=ha.le;simpa using this) ?_
   have hr:=ha.rows
   simp only[Al3] at hr
   simp(disch:=first|omega|assumption) only[hr,go_sem]
   refine goK_pure (Z3 [] [10] (by simp[Lib.join]) (by simp)) ?_
   have e:zy raw=Lib.join [] [10]:=by
    unfold zy;rw[hDM,hD];rfl
   simp(disch:=first|omega|assumption) only[go_sem]
   exact hQ _ _ _ _ nofun rfl (by simp[tupOf,envOf,AV.strip,AV.strip1,e])
  obtain⟨x,r,hxr⟩:∃ x r,cur=x::r:=by cases cur with|nil=>exact absurd rfl hcur|cons x r=>exact⟨x,r,rfl⟩
  have hxl:x.length≤Lim:=by have:=Zh (l:=cur) (x:=x) (by rw[hxr];simp);simp only[Lim];omega
  obtain⟨hg,hle⟩:=ha.get (a:=[]) (x:=x) (r:=r) hxr
  simp only[Al3,Nat.zero_mul,Nat.add_zero] at hg hle
  have hcl:cur.length=r.length+1:=by rw[hxr];rfl
  have hpos:((0:Int)<(cur.length:Int))=True:=eq_true (by omega)
  have h1l:((1:Int)≤(cur.length:Int))=True:=eq_true (by omega)
  cases hbr:zr x with
  | true =>
   obtain⟨off2,hcut,hat⟩:=AtR.front (b:=b) (cap:=cp) (by rw[← hxr];exact ha) (by omega)
   rw[← hcl] at hcut
   simp(disch:=first|omega|assumption) only[hpos,hbX,hg,hle,Nat.zero_mul,Nat.add_zero,go_sem]
   refine goK_pure (YA x hxl) ?_
   simp(disch:=first|omega|assumption) only[hbr,hpos,h1l,hcut,go_sem]
   refine goJ (hJ (off2,cp-1,r) H3 (by simp only;omega) ⟨rfl,hat,by simp only;omega,by rw[← hdw,hxr];simp[hbr],by rw[hxr,yw] at hw;simp only;omega⟩) (by simp(disch:=first|omega|assumption) only[go_sem])
  | false =>
   have hDc:D.dropWhile zr=cur:=by rw[← hdw,hxr];simp[hbr]
   simp(disch:=first|omega|assumption) only[hpos,hbX,hg,hle,Nat.zero_mul,Nat.add_zero,go_sem]
   refine goK_pure (YA x hxl) ?_
   simp(disch:=first|omega|assumption) only[hbr,go_sem]
   refine goL_st (fun x:List (List UInt8)=>[(3,.ms b off x.length cp)]) (fun x H'=>H'=H3∧AtR cells off x∧yG x=yG cur∧wL x≤wL D∧x.length≤cp) (fun x=>x.length) cur (by simp(disch:=first|omega|assumption) only[go_sem]) ⟨rfl,ha,rfl,hw,hcp⟩ ?_
   rintro u H4 J4 ⟨rfl,ha4,ht4,hw4,hc4⟩ hJ4
   by_cases hu:u=[]
   ·subst hu
    simp(disch:=first|omega|assumption) only[Al3,go_sem]
    refine goZ_ms hbX (by decide) (by have:=ha4.le;simpa using this) ?_
    have hr:=ha4.rows
    simp only[Al3] at hr
    simp(disch:=first|omega|assumption) only[hr,go_sem]
    refine goK_pure (Z3 [] [10] (by simp[Lib.join]) (by simp)) ?_
    have e:zy raw=Lib.join [] [10]:=by
     unfold zy;rw[hDM,hDc,← ht4];rfl
    simp(disch:=first|omega|assumption) only[go_sem]
    exact hQ _ _ _ _ nofun rfl (by simp[tupOf,envOf,AV.strip,AV.strip1,e])
   obtain⟨q,y,hqy⟩:=zfm hu
   have hyl:y.length≤Lim:=by have:=Zh (l:=u) (x:=y) (by rw[hqy];simp);simp only[Lim];omega
   obtain⟨hg4,hle4⟩:=ha4.get (a:=q) (x:=y) (r:=[]) hqy
   have hul:u.length=q.length+1:=by rw[hqy];simp
   have hpos4:((0:Int)<(u.length:Int))=True:=eq_true (by omega)
   have wq:IntKind.wrap .i64 ((u.length:Int)-1)=(q.length:Int):=by rw[wrap64 (by omega) (by have:=YJ u;omega)];omega
   have h1q:((q.length:Int)<(u.length:Int))=True:=eq_true (by omega)
   have h2q:((q.length:Int)≤(u.length:Int))=True:=eq_true (by omega)
   cases hby:zr y with
   | true =>
    simp(disch:=first|omega|assumption) only[hpos4,wq,h1q,hbX,hg4,hle4,go_sem]
    refine goK_pure (YA y hyl) ?_
    have hcut:=zcg (b:=b) (off:=off) (cap:=cp) (show q.length≤u.length by omega)
    simp(disch:=first|omega|assumption) only[hby,wq,h1q,h2q,hcut,go_sem]
    refine goJ (hJ4 q H4 (by omega) ⟨rfl,AtR.back (x:=y) (by rw[← hqy];exact ha4),by rw[← ht4,hqy,y5,hby];rfl,by rw[hqy,zae] at hw4;omega,by omega⟩) (by simp(disch:=first|omega|assumption) only[go_sem])
   | false =>
    have hlen:=YJ u
    simp(disch:=first|omega|assumption) only[hpos4,wq,h1q,hbX,hg4,hle4,go_sem]
    refine goK_pure (YA y hyl) ?_
    simp(disch:=first|omega|assumption) only[hby,go_sem]
    refine goZ_ms hbX (by decide) (by have:=ha4.le;omega) ?_
    have hr:=ha4.rows
    have hj:=YV u
    simp(disch:=first|omega|assumption) only[hr,go_sem]
    refine goK_pure (Z3 u [10] (by omega) (by omega)) ?_
    have e:zy raw=Lib.join u [10]:=by
     unfold zy;rw[hDM,hDc,← ht4,hqy,y5,hby];rfl
    simp(disch:=first|omega|assumption) only[go_sem]
    exact hQ _ _ _ _ nofun rfl (by simp[tupOf,envOf,AV.strip,AV.strip1,e])
 case pos =>
  obtain⟨n,hne⟩:∃ n:Nat,indM (zg raw)=n:=⟨(indM (zg raw)).toNat,by omega⟩
  have hnl:n≤1099511627777:=by
   by_cases hall:∀ s∈(zg raw).tail,zr s=true
   ·have:∀(l:List (List UInt8)),(∀ s∈l,zr s=true)→Yl l (-1)=-1:=by
     intro l
     induction l with
     | nil=>intro _;rfl
     | cons a l ih=>intro h;simp only[Yl,h a (.head _),if_true];exact ih fun s hs=>h s (.tail _ hs)
    have:=this _ hall
    have e:indM (zg raw)=Yl (zg raw).tail (-1):=rfl
    omega
   ·obtain⟨s,hs⟩:=Classical.not_forall.1 hall
    obtain⟨hs,hb2⟩:=Classical.not_imp.1 hs
    have h1:=(zdb (zg raw).tail (-1)).2 s hs (by simpa using hb2)
    have h2:=Zh (List.mem_of_mem_tail hs)
    have h3:yv s≤s.length:=(List.takeWhile_sublist _).length_le
    have e:indM (zg raw)=Yl (zg raw).tail (-1):=rfl
    omega
  have hL2:=hL
  rw[hL] at hLl hw0
  have hcap0:=hcap
  rw[hL] at hb hcap0
  have hn':((0:Int)<(n:Int))=True:=eq_true (by omega)
  rw[hne]
  simp(disch:=first|omega|assumption) only[hn',go_sem]
  refine goL_st (fun x:List (List UInt8)×List (List UInt8)=>[(5,.int .i64 ((x.1.length:Int)+1))]) (fun x H'=>T=x.1++x.2∧H' b=some (.cells (ye (x0::(x.1.map (fun s=>s.drop n)++x.2))++tl))) (fun x=>x.2.length) ([],T) (by simp(disch:=first|omega|assumption) only[Al3,go_sem]) ⟨rfl,by simpa using hb⟩ ?_
  rintro⟨dn,rest⟩ H3 J3 ⟨hT,hb3⟩ hJ3
  simp only at hT hb3
  have hll:(zg raw).length=dn.length+rest.length+1:=by rw[hL,hT];simp
  cases rest with
  | nil =>
   have hlt:¬ ((dn.length:Int)+1<((zg raw).length:Int)):=by simp at hll;omega
   obtain⟨D,hDd⟩:∃ D,D=x0::T.map fun s=>s.drop n:=⟨_,rfl⟩
   have hDM:ZL (zg raw)=D:=by
    conv=>lhs;rw[hL]
    simp only[ZL]
    rw[← hL,hne,hDd];rfl
   have hDl:D.length=(zg raw).length:=by rw[hDd,hL];simp
   have hbX:H3 b=some (.cells (ye D++tl)):=by
    rw[hb3,hDd,hT];simp
   obtain⟨cells,hcells⟩:∃ cells,cells=ye D++tl:=⟨_,rfl⟩
   rw[← hcells] at hbX
   have hwD:wL D≤1099511627777:=by
    have:=zbB n T
    rw[hDd,yw];rw[yw] at hw0;omega
   have hcap:D.length+tl.length=cap:=by rw[hDl];exact hcap
   clear hJ3 hb3
   simp(disch:=first|omega|assumption) only[hlt,go_sem]
   refine goL_st (fun x:Nat×Nat×List (List UInt8)=>[(3,.ms b x.1 x.2.2.length x.2.1)]) (fun x H'=>H'=H3∧AtR cells x.1 x.2.2∧x.2.2.length≤x.2.1∧x.2.2.dropWhile zr=D.dropWhile zr∧wL x.2.2≤wL D) (fun x=>x.2.2.length) (0,cap,D) (by simp(disch:=first|omega|assumption) only[hDl,go_sem]) ⟨rfl,⟨[],tl,by rw[hcells,Y2],rfl⟩,by simp only;omega,rfl,Al4 _⟩ ?_
   rintro⟨off,cp,cur⟩ H5 J5 ⟨rfl,ha,hcp,hdw,hw⟩ hJ5
   simp only at ha hcp hdw hw
   have stage2:∀ K:Unit,cur=D.dropWhile zr→True:=fun _ _=>trivial
   by_cases hcur:cur=[]
   case pos =>
    subst hcur
    have hD:D.dropWhile zr=[]:=by rw[← hdw];rfl
    simp(disch:=first|omega|assumption) only[Al3,go_sem]
    refine goL_st (fun x:Unit=>[]) (fun x H'=>H'=H5) (fun x=>0) () (by simp(disch:=first|omega|assumption) only[Al3,go_sem]) rfl ?_
    rintro⟨⟩ H4 J4 rfl hJ4
    simp(disch:=first|omega|assumption) only[Al3,go_sem]
    refine goZ_ms hbX (by decide) (by have:=ha.le;simpa using this) ?_
    have hr:=ha.rows
    simp only[Al3] at hr
    simp(disch:=first|omega|assumption) only[hr,go_sem]
    refine goK_pure (Z3 [] [10] (by simp[Lib.join]) (by simp)) ?_
    have e:zy raw=Lib.join [] [10]:=by
     unfold zy;rw[hDM,hD];rfl
    simp(disch:=first|omega|assumption) only[go_sem]
    exact hQ _ _ _ _ nofun rfl (by simp[tupOf,envOf,AV.strip,AV.strip1,e])
   obtain⟨x,r,hxr⟩:∃ x r,cur=x::r:=by cases cur with|nil=>exact absurd rfl hcur|cons x r=>exact⟨x,r,rfl⟩
   have hxl:x.length≤Lim:=by have:=Zh (l:=cur) (x:=x) (by rw[hxr];simp);simp only[Lim];omega
   obtain⟨hg,hle⟩:=ha.get (a:=[]) (x:=x) (r:=r) hxr
   simp only[Al3,Nat.zero_mul,Nat.add_zero] at hg hle
   have hcl:cur.length=r.length+1:=by rw[hxr];rfl
   have hpos:((0:Int)<(cur.length:Int))=True:=eq_true (by omega)
   have h1l:((1:Int)≤(cur.length:Int))=True:=eq_true (by omega)
   cases hbr:zr x with
   | true =>
    obtain⟨off2,hcut,hat⟩:=AtR.front (b:=b) (cap:=cp) (by rw[← hxr];exact ha) (by omega)
    rw[← hcl] at hcut
    simp(disch:=first|omega|assumption) only[hpos,hbX,hg,hle,Nat.zero_mul,Nat.add_zero,go_sem]
    refine goK_pure (YA x hxl) ?_
    simp(disch:=first|omega|assumption) only[hbr,hpos,h1l,hcut,go_sem]
    refine goJ (hJ5 (off2,cp-1,r) H5 (by simp only;omega) ⟨rfl,hat,by simp only;omega,by rw[← hdw,hxr];simp[hbr],by rw[hxr,yw] at hw;simp only;omega⟩) (by simp(disch:=first|omega|assumption) only[go_sem])
   | false =>
    have hDc:D.dropWhile zr=cur:=by rw[← hdw,hxr];simp[hbr]
    simp(disch:=first|omega|assumption) only[hpos,hbX,hg,hle,Nat.zero_mul,Nat.add_zero,go_sem]
    refine goK_pure (YA x hxl) ?_
    simp(disch:=first|omega|assumption) only[hbr,go_sem]
    refine goL_st (fun x:List (List UInt8)=>[(3,.ms b off x.length cp)]) (fun x H'=>H'=H5∧AtR cells off x∧yG x=yG cur∧wL x≤wL D∧x.length≤cp) (fun x=>x.length) cur (by simp(disch:=first|omega|assumption) only[go_sem]) ⟨rfl,ha,rfl,hw,hcp⟩ ?_
    rintro u H4 J4 ⟨rfl,ha4,ht4,hw4,hc4⟩ hJ4
    by_cases hu:u=[]
    ·subst hu
     simp(disch:=first|omega|assumption) only[Al3,go_sem]
     refine goZ_ms hbX (by decide) (by have:=ha4.le;simpa using this) ?_
     have hr:=ha4.rows
     simp only[Al3] at hr
     simp(disch:=first|omega|assumption) only[hr,go_sem]
     refine goK_pure (Z3 [] [10] (by simp[Lib.join]) (by simp)) ?_
     have e:zy raw=Lib.join [] [10]:=by
      unfold zy;rw[hDM,hDc,← ht4];rfl
     simp(disch:=first|omega|assumption) only[go_sem]
     exact hQ _ _ _ _ nofun rfl (by simp[tupOf,envOf,AV.strip,AV.strip1,e])
    obtain⟨q,y,hqy⟩:=zfm hu
    have hyl:y.length≤Lim:=by have:=Zh (l:=u) (x:=y) (by rw[hqy];simp);simp only[Lim];omega
    obtain⟨hg4,hle4⟩:=ha4.get (a:=q) (x:=y) (r:=[]) hqy
    have hul:u.length=q.length+1:=by rw[hqy];simp
    have hpos4:((0:Int)<(u.length:Int))=True:=eq_true (by omega)
    have wq:IntKind.wrap .i64 ((u.length:Int)-1)=(q.length:Int):=by rw[wrap64 (by omega) (by have:=YJ u;omega)];omega
    have h1q:((q.length:Int)<(u.length:Int))=True:=eq_true (by omega)
    have h2q:((q.length:Int)≤(u.length:Int))=True:=eq_true (by omega)
    cases hby:zr y with
    | true =>
     simp(disch:=first|omega|assumption) only[hpos4,wq,h1q,hbX,hg4,hle4,go_sem]
     refine goK_pure (YA y hyl) ?_
     have hcut:=zcg (b:=b) (off:=off) (cap:=cp) (show q.length≤u.length by omega)
     simp(disch:=first|omega|assumption) only[hby,wq,h1q,h2q,hcut,go_sem]
     refine goJ (hJ4 q H4 (by omega) ⟨rfl,AtR.back (x:=y) (by rw[← hqy];exact ha4),by rw[← ht4,hqy,y5,hby];rfl,by rw[hqy,zae] at hw4;omega,by omega⟩) (by simp(disch:=first|omega|assumption) only[go_sem])
    | false =>
     have hlen:=YJ u
     simp(disch:=first|omega|assumption) only[hpos4,wq,h1q,hbX,hg4,hle4,go_sem]
     refine goK_pure (YA y hyl) ?_
     simp(disch:=first|omega|assumption) only[hby,go_sem]
     refine goZ_ms hbX (by decide) (by have:=ha4.le;omega) ?_
     have hr:=ha4.rows
     have hj:=YV u
     simp(disch:=first|omega|assumption) only[hr,go_sem]
     refine goK_pure (Z3 u [10] (by omega) (by omega)) ?_
     have e:zy raw=Lib.join u [10]:=by
      unfold zy;rw[hDM,hDc,← ht4,hqy,y5,hby];rfl
     simp(disch:=first|omega|assumption) only[go_sem]
     exact hQ _ _ _ _ nofun rfl (by simp[tupOf,envOf,AV.strip,AV.strip1,e])
  | cons y r =>
   have hlt:((dn.length:Int)+1<((zg raw).length:Int))=True:=eq_true (by simp at hll;omega)
   have hcur:x0::(dn.map (fun s=>s.drop n)++y::r)=(x0::dn.map (fun s=>s.drop n))++y::r:=rfl
   have hg:=Yr hcur tl
   have hle:=zaE hcur tl
   have hal:(x0::dn.map (fun s=>s.drop n)).length=dn.length+1:=by simp
   have hst:∀ z,splice (ye (x0::(dn.map (fun s=>s.drop n)++y::r))++tl) (0+(dn.length+1)*1) [.str z]=ye (x0::(dn.map (fun s=>s.drop n)++z::r))++tl:=fun z=>by
    have:=zdW (x0::dn.map (fun s=>s.drop n)) y z r tl
    rw[hal] at this
    exact this
   rw[hal] at hg hle
   have h1:((dn.length:Int)+1).toNat=dn.length+1:=by omega
   have hy0:((0:Int)≤(y.length:Int))=True:=eq_true (by omega)
   have hln:dn.length≤1099511627777:=by omega
   by_cases hmin:(y.length:Int)<(n:Int)
   ·have hdr:y.drop y.length=y.drop n:=by rw[List.drop_length,List.drop_eq_nil_of_le (by omega)]
    simp(disch:=first|omega|assumption) only[hlt,h1,hb3,hg,hle,hst,hmin,hy0,List.drop_length,go_sem]
    refine goJ (hJ3 (dn++[y],r) _ (by simp) ⟨by rw[hT];simp,?_⟩) (by simp(disch:=first|omega|assumption) only[wrap64,Al5,Al2,Al3,Int.natCast_add,go_sem])
    rw[upd_same]
    simp[List.drop_eq_nil_of_le (show y.length≤n by omega)]
   ·have hny:((n:Int)≤(y.length:Int))=True:=eq_true (by omega)
    have hn0:((0:Int)≤(n:Int))=True:=eq_true (by omega)
    simp(disch:=first|omega|assumption) only[hlt,h1,hb3,hg,hle,hst,hmin,hny,hn0,go_sem]
    refine goJ (hJ3 (dn++[y],r) _ (by simp) ⟨by rw[hT];simp,?_⟩) (by simp(disch:=first|omega|assumption) only[wrap64,Al5,Al2,Al3,Int.natCast_add,go_sem])
    rw[upd_same]
    simp
end Go.Proofs.YtaielcdfcgpbiaaGreatDoor
set_option maxRecDepth 1000000
namespace Go.Proofs.YtaielcdfcgpbiaaGreatDoor
open Go.Shelf Go.RowKit Go.Lib
section
variable {P:Program} {ρ:Ren}
def eol:ByteArray:=⟨#[13,10]⟩
theorem zdA (w:World) (k:Nat) (s:ByteArray) (pos:Nat) (ty:TypeId) (hk:w.heap[k]?=some (.stringIter s pos)) (h:pos<s.size) :
  (Instr.next (.pointer (some ⟨k,0,none⟩)) true ty).run P w =
   .ok (.tuple #[.bool true,.int .i64 pos,.int .i32 (Utf8.decode s pos).1]) { w with heap:=w.heap.setIfInBounds k (.stringIter s (pos+(Utf8.decode s pos).2)) }:=by
 simp only[Instr.next,getObj,setObj,Sem.run_bind,Sem.run,hk,Result.andThen,h,if_true]
 simp[goInt]
theorem zcn (w:World) (k:Nat) (s:ByteArray) (pos:Nat) (ty:TypeId) (hk:w.heap[k]?=some (.stringIter s pos)) (h:¬ pos<s.size) :
  (Instr.next (.pointer (some ⟨k,0,none⟩)) true ty).run P w=.ok (.tuple #[.bool false]) w:=by
 simp[Instr.next,getObj,Sem.run,hk,h]
set_option maxHeartbeats 4000000 in
theorem zda (L:Lays.n152 P ρ) (w:World) :
  Calls P (ρ.f 152) #[.string eol,.int .i32 65533] w fun e w'=>e=.returned (.int .i64 (-1))∧Below w.heap.size w w':=by
 have t3:=L.t3;have a3:=L.a3;have z3:=L.z3;have v3:=L.v3
 have t4:=L.t4;have a4:=L.a4;have z4:=L.z4;have v4:=L.v4
 have t5:=L.t5;have a5:=L.a5;have z5:=L.z5;have v5:=L.v5
 have t9:=L.t9;have a9:=L.a9;have z9:=L.z9;have v9:=L.v9
 have t21:=L.t21;have a21:=L.a21;have z21:=L.z21;have v21:=L.v21
 have hsz:eol.size=2:=rfl
 go_enter L.f152,Body.n152_ntmps ρ
 go_wp2
 go_loopg [5,6] 2 (fun g _ _ wx=>∃ i:Nat,i+g=2∧wx=w.iter eol i)
 case atStart=>exact⟨0,by omega,rfl⟩
 case round =>
  obtain⟨i,hig,rfl⟩:=hrel
  cases gk with
  | zero =>
   obtain rfl:i=2:=by omega
   have hnx:=fun ty=>run_next_end (P:=P) w eol 2 ty (by decide)
   go_wp2
   go_ret
   exact⟨rfl,(Below.refl _ _).alloc (Al4 _) _⟩
  | succ g =>
   obtain⟨x,hx⟩:∃ x:UInt8,eol[i]'(by rw[hsz];omega)=x:=⟨_,rfl⟩
   have hxl:x.toNat=13∨x.toNat=10:=by
    rcases(by omega:i=0∨i=1) with rfl|rfl
    ·left;rw[← hx];rfl
    ·right;rw[← hx];rfl
   have hnx:=fun ty=>run_next_ascii (P:=P) w eol i ty (by rw[hsz];omega) (by rw[hx];omega)
   rw[hx] at hnx
   have hne:¬ ((x.toNat:Int)=65533):=by omega
   clear hx hxl
   go_wp2
   go_roundg g
   case measure=>omega
   case rel=>exact⟨i+1,by omega,rfl⟩
set_option maxHeartbeats 8000000 in
theorem zcm (L:Lays.n152 P ρ) (r:Int) (h0:128≤r) (h1:r≠65533) (w:World) :
  Calls P (ρ.f 152) #[.string eol,.int .i32 r] w fun e w'=>e=.returned (.int .i64 (-1))∧Below w.heap.size w w':=by
 have t3:=L.t3;have a3:=L.a3;have z3:=L.z3;have v3:=L.v3
 have t4:=L.t4;have a4:=L.a4;have z4:=L.z4;have v4:=L.v4
 have t5:=L.t5;have a5:=L.a5;have z5:=L.z5;have v5:=L.v5
 have t9:=L.t9;have a9:=L.a9;have z9:=L.z9;have v9:=L.v9
 have t21:=L.t21;have a21:=L.a21;have z21:=L.z21;have v21:=L.v21
 have hsz:eol.size=2:=rfl
 have mixed:=L.mixed
 have u21:=run_underlying L.t21;have u9:=run_underlying L.t9
 have e137:∀ args w,(callFunc (ρ.f 137) args).run P w=.ok (.enter (ρ.f 137) args) w:=enters_of L.f137 (by kernel_rfl) rfl
 have e119:∀ args w,(callFunc (ρ.f 119) args).run P w=.ok (.enter (ρ.f 119) args) w:=enters_of L.f119 (by kernel_rfl) rfl
 have hr1:¬ (r<128):=by omega
 cases hv:Lib.validRune r with
 | false =>
  go_enter L.f152,Body.n152_ntmps ρ
  go_wp2_with (go_at_fn (ρ.f 119);refine(Any.utf8_ValidRune { L with } _ _).mono ?_;rintro e w' ⟨rfl,hw⟩;rw[hw,hv])
  go_ret
  exact⟨rfl,Below.refl _ _⟩
 | true =>
  have hv':Utf8.valid r=true:=by
   unfold Lib.validRune at hv
   unfold Utf8.valid
   simp only[zaW,Al0,zm] at hv ⊢
   omega
  obtain⟨f1,f2,f3⟩:=encode_facts r hv' h0
  clear hv'
  obtain⟨rs,hrs⟩:∃ rs,Utf8.encode r=rs:=⟨_,rfl⟩
  rw[hrs] at f1 f2 f3
  have hconv:∀ w,(convert (ρ.t 21) (ρ.t 9) (.int .i32 r)).run P w=.ok (.string rs) w:=fun w=>by
   rw[run_convert_int_string w _ _ _ _ (by rw[t21];rfl) t9,hrs]
  have hlast:IntKind.i64.wrap ((rs.size:Int)-1)=(rs.size:Int)-1:=wrap_small _ (by omega) (by omega)
  clear hrs
  by_cases h2:rs.size=2
  ·obtain⟨b0,b1,rfl⟩:∃ b0 b1,rs=⟨#[b0,b1]⟩:=by
    obtain⟨⟨l⟩⟩:=rs
    match l,h2 with
    | [x,y],_=>exact⟨x,y,rfl⟩
   have hb:128≤b1.toNat:=f3 (by show 1<2;decide)
   have hz:(⟨#[b0,b1]⟩:ByteArray).size=2:=rfl
   have hne:¬ ((10:Int)=(b1.toNat:Int)):=by omega
   clear f1 f2 f3 h2
   rw[hz] at hlast
   go_enter L.f152,Body.n152_ntmps ρ
   go_wp2_with (go_at_fn (ρ.f 119);refine(Any.utf8_ValidRune { L with } _ _).mono ?_;rintro e w' ⟨rfl,hw⟩;rw[hw,hv])
   go_step3
   go_wp2
   go_loopg [9,10] 0 (fun g s9 s10 wx=>s9=.int .i64 1∧s10=.int .i64 0∧wx=w)
   case atStart=>exact⟨rfl,rfl,rfl⟩
   case round =>
    obtain⟨rfl,rfl,rfl⟩:=hrel
    go_wp2
    go_step3
    have hx:eol[1]'(by decide)=10:=rfl
    have hy:(⟨#[b0,b1]⟩:ByteArray)[1]'(by show 1<2;decide)=b1:=rfl
    go_wp2
    go_quiet_o (fail)
    go_wp2
    have hsl:∀ w,(Instr.slice (ρ.t 9) (.string eol) (some (.int .i64 2)) none none).run P w=.ok (.string ⟨#[]⟩) w:=fun w=>by
     rw[run_slice_string_from_if w _ eol .i64 2 t9]
     rfl
    generalize hW:World.drewN _ _=W
    have HW:Aside (∃ n,W=wr.drewN n):=⟨_,hW.symm⟩
    clear hW
    have hw2:IntKind.i64.wrap 2=2:=by decide
    go_quiet_o (first|(go_at_fn (ρ.f 137);refine Calls.quiet_of_same (Any.strings_IndexByte { L with } _ _ _)))
    go_wp2
    rw[Exit.noGoto_ret]
    go_wp2
    (try rw[Exit.noGoto_ret])
    (try go_wp2)
    go_ret
    obtain⟨n,rfl⟩:=HW.out
    exact⟨rfl,⟨rfl,rfl,rfl,Al4 _,fun _ _=>rfl⟩⟩
  ·have hlt:¬ ((rs.size:Int)-1<2):=by omega
   go_enter L.f152,Body.n152_ntmps ρ
   go_wp2_with (go_at_fn (ρ.f 119);refine(Any.utf8_ValidRune { L with } _ _).mono ?_;rintro e w' ⟨rfl,hw⟩;rw[hw,hv])
   go_step3
   go_wp2
   go_loopg [9,10] 0 (fun g s9 s10 wx=>s9=.int .i64 ((rs.size:Int)-1)∧s10=.int .i64 0∧wx=w)
   case atStart=>exact⟨rfl,rfl,rfl⟩
   case round =>
    obtain⟨rfl,rfl,rfl⟩:=hrel
    go_wp2
    rw[Exit.noGoto_ret];go_wp2
    go_ret
    exact⟨rfl,Below.refl _ _⟩
theorem zei (s:ByteArray) (i:Nat) (h:i<s.size):s.data.toList[i]?=some (s.get! i):=by
 rw[Lib.data_getElem? s i h]
 simp[ByteArray.get!,getElem!_pos,h]
 rfl
theorem zbe (s:ByteArray) (pos:Nat) (h:pos<s.size) (ha:128≤(s.get! pos).toNat) :
  128≤(Utf8.decode s pos).1∧1≤(Utf8.decode s pos).2∧pos+(Utf8.decode s pos).2≤s.size∧∀ j,j<(Utf8.decode s pos).2→128≤(s.get! (pos+j)).toNat:=by
 have hn:¬ (s.get! (pos+0)).toNat<128:=by simpa using ha
 have h1:∀(c:Nat),128≤c→128≤(c,1).1∧1≤(c,1).2∧pos+(c,1).2≤s.size∧∀ j,j<(c,1).2→128≤(s.get! (pos+j)).toNat:=fun c hc =>
  ⟨hc,Al4 _,by show pos+1≤s.size;omega,fun j hj=>by
   have hj:j<1:=hj
   obtain rfl:j=0:=by omega
   simpa using ha⟩
 have hb:∀ k,(s.get! (pos+k)).toNat / 64=2→128≤(s.get! (pos+k)).toNat:=fun k hk=>by omega
 simp only[Utf8.decode,hn,if_false,Utf8.runeError]
 split
 ·rename_i hc
  simp only[Al0,beq_iff_eq,zm] at hc
  split
  ·rename_i h2
   refine⟨h2,by show 1≤2;omega,by show pos+2≤s.size;omega,fun j hj=>?_⟩
   have hj:j<2:=hj
   rcases(by omega:j=0∨j=1) with rfl|rfl
   ·simpa using ha
   ·exact hb 1 hc.2.2
  ·exact h1 _ (by decide)
 split
 ·rename_i hc
  simp only[Al0,beq_iff_eq,zm] at hc
  split
  ·rename_i h2
   simp only[Al0,zm] at h2
   refine⟨by have:=h2.1;show 128≤_;simp only;omega,by show 1≤3;omega,by show pos+3≤s.size;omega,fun j hj=>?_⟩
   have hj:j<3:=hj
   rcases(by omega:j=0∨j=1∨j=2) with rfl|rfl|rfl
   ·simpa using ha
   ·exact hb 1 hc.1.2.2
   ·exact hb 2 hc.2.2
  ·exact h1 _ (by decide)
 split
 ·rename_i hc
  simp only[Al0,beq_iff_eq,zm] at hc
  split
  ·rename_i h2
   simp only[Al0,zm] at h2
   refine⟨by have:=h2.1;show 128≤_;simp only;omega,by show 1≤4;omega,by show pos+4≤s.size;omega,fun j hj=>?_⟩
   have hj:j<4:=hj
   rcases(by omega:j=0∨j=1∨j=2∨j=3) with rfl|rfl|rfl|rfl
   ·simpa using ha
   ·exact hb 1 hc.1.1.2.2
   ·exact hb 2 hc.1.2.2
   ·exact hb 3 hc.2.2
  ·exact h1 _ (by decide)
 ·exact h1 _ (by decide)
theorem zhJ {s:ByteArray} {i k:Nat} (h:NoAny s.data.toList eol.data.toList i) (hk:i+k≤s.size) (hb:∀ j,j<k→128≤(s.get! (i+j)).toNat):NoAny s.data.toList eol.data.toList (i+k):=fun j b hj hjb=>by
 by_cases hlt:j<i
 ·exact h j b hlt hjb
 ·have h1:=hb (j-i) (by omega)
  rw[show i+(j-i)=j by omega] at h1
  rw[zei s j (by omega)] at hjb
  cases hjb
  show ([13,10]:List UInt8).contains _=false
  simp only[List.contains_cons,List.contains_nil,Bool.or_false,Bool.or_eq_false_iff,beq_eq_false_iff_ne]
  refine⟨fun e=>?_,fun e=>?_⟩<;>(rw[e] at h1;simp at h1)
set_option maxHeartbeats 8000000 in
theorem zap (L:Lays.n153 P ρ) (s:ByteArray) (w:World) (h8:s.size≤8) :
  Calls P (ρ.f 153) #[.string s,.string eol] w fun e w'=>e=.returned (.int .i64 (Lib.indexAny s.data.toList eol.data.toList))∧Below w.heap.size w w':=by
 have hemp:eol.toList.isEmpty=false:=by rw[Lib.toList_data];rfl
 have hn0:(eol.size:Int)=2:=rfl
 have hn1:((eol.size:Int)==1)=false:=rfl
 have h8z:decide ((8:Int)<(s.size:Int))=false:=decide_eq_false (by omega)
 have t3:=L.t3;have a3:=L.a3;have z3:=L.z3;have v3:=L.v3
 have t4:=L.t4;have a4:=L.a4;have z4:=L.z4;have v4:=L.v4
 have t5:=L.t5;have a5:=L.a5;have z5:=L.z5;have v5:=L.v5
 have t9:=L.t9;have a9:=L.a9;have z9:=L.z9;have v9:=L.v9
 have t21:=L.t21;have a21:=L.a21;have z21:=L.z21;have v21:=L.v21
 have e152:∀ args w,(callFunc (ρ.f 152) args).run P w=.ok (.enter (ρ.f 152) args) w:=enters_of L.f152 (by kernel_rfl) rfl
 have e226:∀ args w,(callFunc (ρ.f 226) args).run P w=.ok (.enter (ρ.f 226) args) w:=enters_of L.f226 (by kernel_rfl) rfl
 go_enter L.f153,Body.n153_ntmps ρ
 go_wp2_with (go_at_fn (ρ.f 226);refine(Any.strings_shouldUseASCIISet { L with } _ _).mono ?_;rintro e w' ⟨rfl,hw⟩;rw[hw,h8z])
 go_loopg [9,10] s.size (fun g _ _ wx=>∃ i:Nat,i+g=s.size∧(wx.heap[w.heap.size]?=some (.stringIter s i)∧Below w.heap.size w wx)∧Lib.NoAny s.data.toList eol.data.toList i)
 case atStart=>exact⟨0,by omega,⟨World.iter_heap w s 0,(Below.refl _ _).alloc (Al4 _) _⟩,Lib.NoAny.zero _ _⟩
 case round =>
  obtain⟨i,hig,hst,hno⟩:=hrel
  obtain⟨hit,hbe⟩:=hst
  have HN:Aside (Lib.NoAny s.data.toList eol.data.toList i∧Below w.heap.size w wr):=⟨hno,hbe⟩
  clear hno hbe
  cases gk with
  | zero =>
   obtain rfl:i=s.size:=by omega
   have hnx:=fun ty=>zcn (P:=P) wr w.heap.size s s.size ty hit (by omega)
   go_wp2
   go_ret
   exact⟨by rw[Lib.indexAny_none (by rw[← Lib.size_eq];exact HN.out.1)];rfl,HN.out.2⟩
  | succ g =>
   have hi:i<s.size:=by omega
   have hnx:=fun ty=>zdA (P:=P) wr w.heap.size s i ty hit hi
   have hwlt:w.heap.size<wr.heap.size:=(Zp.1 hit).1
   have hst2:∀ k,({ wr with heap:=wr.heap.setIfInBounds w.heap.size (.stringIter s k) }:World).heap[w.heap.size]?=some (.stringIter s k):=fun k=>by
    show (wr.heap.setIfInBounds w.heap.size (.stringIter s k))[w.heap.size]?=_
    simp[hwlt]
   have hbl2:∀ k,Below w.heap.size w ({ wr with heap:=wr.heap.setIfInBounds w.heap.size (.stringIter s k) }:World):=fun k=>by
    have hb:=HN.out.2
    refine⟨hb.os,hb.tape,hb.output,by simpa using hb.size,fun n hn=>?_⟩
    show (wr.heap.setIfInBounds w.heap.size (.stringIter s k))[n]?=_
    rw[Array.getElem?_setIfInBounds_ne (by omega)]
    exact hb.block n hn
   have HB:Aside ((∀ k,({ wr with heap:=wr.heap.setIfInBounds w.heap.size (.stringIter s k) }:World).heap[w.heap.size]?=some (.stringIter s k))∧(∀ k,Below w.heap.size w ({ wr with heap:=wr.heap.setIfInBounds w.heap.size (.stringIter s k) }:World))∧w.heap.size<wr.heap.size):=⟨hst2,hbl2,hwlt⟩
   clear hst2 hbl2 hwlt hit
   by_cases ha:128≤(s.get! i).toNat
   ·obtain⟨d1,d2,d3,d4⟩:=zbe s i hi ha
    have HD:Aside (1≤(Utf8.decode s i).2∧i+(Utf8.decode s i).2≤s.size∧∀ j,j<(Utf8.decode s i).2→128≤(s.get! (i+j)).toNat):=⟨d2,d3,d4⟩
    clear d2 d3 d4 ha
    generalize hr:(Utf8.decode s i).1=r at hnx d1
    generalize hk:(Utf8.decode s i).2=k at hnx HD
    clear hr hk
    generalize hW:({ wr with heap:=wr.heap.setIfInBounds w.heap.size (.stringIter s (i+k)) }:World)=W at hnx
    have HW:Aside (W.heap[w.heap.size]?=some (.stringIter s (i+k))∧Below w.heap.size w W):=⟨by rw[← hW];exact HB.out.1 _,by rw[← hW];exact HB.out.2.1 _⟩
    clear hW
    have hru:Calls P (ρ.f 152) #[.string eol,.int .i32 (r:Int)] W fun e w'=>e=.returned (.int .i64 (-1))∧Below W.heap.size W w':=by
     by_cases he:(r:Int)=65533
     ·rw[he];exact zda { L with } W
     ·exact zcm { L with } _ (by omega) he W
    go_wp2_with (go_at_fn (ρ.f 152);refine hru.mono ?_;rintro e w' ⟨rfl,hw⟩)
    go_roundg (s.size-(i+k))
    case measure=>have:=HD.out.1;omega
    case rel =>
     obtain⟨g1,g2⟩:=HW.out
     obtain⟨f1,f2,f3⟩:=HD.out
     have hlt:w.heap.size<W.heap.size:=(Zp.1 g1).1
     exact⟨i+k,by omega,⟨by rw[hw.block _ hlt];exact g1,g2.trans (hw.mono (by omega))⟩,zhJ HN.out.1 f2 f3⟩
   ·have hx128:(s[i]'hi).toNat<128:=by
     have e:s.get! i=s[i]'hi:=get_at s i hi
     rw[← e];omega
    have hde:Utf8.decode s i=((s[i]'hi).toNat,1):=decode_ascii s i hi hx128
    obtain⟨x,hx⟩:∃ x:UInt8,s[i]'hi=x:=⟨_,rfl⟩
    have hxl:s.data.toList[i]?=some x:=by rw[← hx];exact Lib.data_getElem? s i hi
    have Hx:Aside (s.data.toList[i]?=some x):=hxl
    rw[hde,hx] at hnx
    rw[hx] at hx128
    clear hxl hx ha hde
    have hcon:=Lib.contains_iff_indexByte eol.data.toList x
    have hback:((x.toNat:Int)).toNat.toUInt8=x:=by simp
    generalize hW:({ wr with heap:=wr.heap.setIfInBounds w.heap.size (.stringIter s (i+1)) }:World)=W at hnx
    have HW:Aside (W.heap[w.heap.size]?=some (.stringIter s (i+1))∧Below w.heap.size w W):=⟨by rw[← hW];exact HB.out.1 _,by rw[← hW];exact HB.out.2.1 _⟩
    clear hW
    cases hin:eol.data.toList.contains x
    ·rw[hin] at hcon
     have hlt:¬ ((0:Int)≤Lib.indexByte eol.data.toList x):=of_decide_eq_false hcon.symm
     clear hcon
     go_wp2_with (go_at_fn (ρ.f 152);refine(Any.strings_IndexRune_ascii { L with } _ _ _ (by omega) (by omega)).mono ?_;rintro e w' ⟨rfl,hw⟩;rw[hw,hback])
     go_roundg g
     case measure=>omega
     case rel=>exact⟨i+1,by omega,HW.out,HN.out.1.succ Hx.out hin⟩
    ·rw[hin] at hcon
     have hge:(0:Int)≤Lib.indexByte eol.data.toList x:=of_decide_eq_true hcon.symm
     clear hcon
     go_wp2_with (go_at_fn (ρ.f 152);refine(Any.strings_IndexRune_ascii { L with } _ _ _ (by omega) (by omega)).mono ?_;rintro e w' ⟨rfl,hw⟩;rw[hw,hback])
     go_ret
     exact⟨by rw[Lib.indexAny_hit HN.out.1 Hx.out hin];rfl,HW.out.2⟩
end
end Go.Proofs.YtaielcdfcgpbiaaGreatDoor
namespace Go.Proofs.YtaielcdfcgpbiaaGreatDoor
open Go.Ab Go.Lib
theorem zhn (s:List UInt8) (hs:s.length≤4294967000):Pure Tryz.prog 118 [.str s,.str [13,10]] (.int .i64 (Lib.indexAny s [13,10])):=by
 refine Pure.of_below fun γ w vs ht hv=>?_
 obtain⟨hlv,hr⟩:=hv
 match vs,hlv with
 | [v,u],_ =>
  cases hr 0 _ _ rfl rfl
  cases hr 1 _ _ rfl rfl
  by_cases h8:s.length≤8
  ·exact(zap (P:=Tryz.prog) Tryz.lays153 ⟨s.toArray⟩ w (by simpa[ByteArray.size] using h8)).mono fun e w' ⟨he,hw⟩=>⟨hw,_,he,.int _ _⟩
  ·refine(Tryz.strings_IndexAny_long (zero_of_info (n:=256) (by kernel_rfl)).1 ⟨s.toArray⟩ ⟨#[13,10]⟩ w (by decide) (by simp only[ByteArray.size,List.size_toArray];omega) (by simp only[ByteArray.size,List.size_toArray];omega) (by decide) (fun j b hj=>?_)).mono fun e w' ⟨he,hw⟩=>⟨?_,_,he,.int _ _⟩
   ·have hj:([13,10]:List UInt8)[j]?=some b:=hj
    match j,hj with
    | 0,hj=>cases hj;decide
    | 1,hj=>cases hj;decide
    | j+2,hj=>simp at hj
   ·rw[hw]
    exact((Go.RowKit.Below.refl _ _).alloc (Al4 _) _).alloc (by simp) _
theorem zg4 (r:List UInt8):Lib.indexAny r [13,10]=if r.all zx then -1 else ((r.takeWhile zx).length:Int):=by
 induction r with
 | nil=>rfl
 | cons c r ih =>
  rw[Lib.indexAny,ih]
  by_cases hc:zx c=true
  ·have h1:([13,10]:List UInt8).contains c=false:=by
    unfold zx at hc
    simp at hc
    simp[hc.1,hc.2]
   rw[h1]
   by_cases ha:r.all zx=true
   ·simp[ha,hc]
   ·have h2:¬ (((r.takeWhile zx).length:Int)=-1):=by omega
    simp[ha,hc,h2]
  ·have h1:([13,10]:List UInt8).contains c=true:=by
    unfold zx at hc
    simp at hc
    simp
    rcases Classical.em (c=13) with h|h
    ·exact .inl h
    ·exact .inr (Classical.byContradiction fun h10=>h (hc h10))
   rw[h1]
   simp[hc]
theorem zdJ {p:UInt8→Bool}:∀ r:List UInt8,r.all p=true→r.takeWhile p=r
 | [],_=>rfl
 | c::r,h=>by
  simp only[List.all_cons,Al0] at h
  rw[List.takeWhile_cons,if_pos h.1,zdJ r h.2]
theorem yy (c:UInt8) (r:List UInt8):yB (c::r)=if c=9∨c=10∨c=13∨c=32∨c=44 then 1 else if zde.isPrefixOf (c::r) then 3 else if c=35 then 1+(r.takeWhile zx).length else 0:=rfl
theorem zj8 (c:UInt8) (r:List UInt8) (hs:(c::r).length≤1000000):Pure Tryz.prog 59 [.str (c::r)] (.int .i64 (yB (c::r))):=by
 refine Pure.go ir59 ck59 (Al4 _) fun KP Q hQ=>?_
 have hl:((0:Int)<((c::r).length:Int))=True:=eq_true (by simp only[Al2];omega)
 by_cases hw:c=9∨c=10∨c=13∨c=32∨c=44
 ·have e:yB (c::r)=1:=by rw[yy,if_pos hw]
  rw[e] at hQ
  rcases hw with rfl|rfl|rfl|rfl|rfl
  ·have hc:((9:UInt8).toNat:Int)=9:=rfl
   simp(disch:=first|omega|assumption) only[ir59,hl,List.getD_cons_zero,hc,go_sem]
   exact hQ _ _ _ _ nofun rfl (by simp[tupOf,envOf,AV.strip,AV.strip1])
  ·have hc:((10:UInt8).toNat:Int)=10:=rfl
   simp(disch:=first|omega|assumption) only[ir59,hl,List.getD_cons_zero,hc,go_sem]
   exact hQ _ _ _ _ nofun rfl (by simp[tupOf,envOf,AV.strip,AV.strip1])
  ·have hc:((13:UInt8).toNat:Int)=13:=rfl
   simp(disch:=first|omega|assumption) only[ir59,hl,List.getD_cons_zero,hc,go_sem]
   exact hQ _ _ _ _ nofun rfl (by simp[tupOf,envOf,AV.strip,AV.strip1])
  ·have hc:((32:UInt8).toNat:Int)=32:=rfl
   simp(disch:=first|omega|assumption) only[ir59,hl,List.getD_cons_zero,hc,go_sem]
   exact hQ _ _ _ _ nofun rfl (by simp[tupOf,envOf,AV.strip,AV.strip1])
  ·have hc:((44:UInt8).toNat:Int)=44:=rfl
   simp(disch:=first|omega|assumption) only[ir59,hl,List.getD_cons_zero,hc,go_sem]
   exact hQ _ _ _ _ nofun rfl (by simp[tupOf,envOf,AV.strip,AV.strip1])
 have nat:∀ k:Nat,(c.toNat:Int)=k→k<256→c=UInt8.ofNat k:=fun k h hk=>UInt8.toNat_inj.1 (by rw[UInt8.toNat_ofNat'];omega)
 have g9:¬ ((c.toNat:Int)=9):=fun e=>hw (.inl (nat 9 e (by decide)))
 have g10:¬ ((c.toNat:Int)=10):=fun e=>hw (.inr (.inl (nat 10 e (by decide))))
 have g13:¬ ((c.toNat:Int)=13):=fun e=>hw (.inr (.inr (.inl (nat 13 e (by decide)))))
 have g32:¬ ((c.toNat:Int)=32):=fun e=>hw (.inr (.inr (.inr (.inl (nat 32 e (by decide))))))
 have g44:¬ ((c.toNat:Int)=44):=fun e=>hw (.inr (.inr (.inr (.inr (nat 44 e (by decide))))))
 simp(disch:=first|omega|assumption) only[ir59,hl,List.getD_cons_zero,g9,g10,g13,g32,g44,go_sem]
 refine goK_pure (ZK (c::r) [239,187,191]) ?_
 by_cases hb:([239,187,191]:List UInt8).isPrefixOf (c::r)=true
 ·have e:yB (c::r)=3:=by rw[yy,if_neg hw];exact if_pos hb
  rw[e] at hQ
  simp(disch:=first|omega|assumption) only[hb,go_sem]
  exact hQ _ _ _ _ nofun rfl (by simp[tupOf,envOf,AV.strip,AV.strip1])
 have hb':([239,187,191]:List UInt8).isPrefixOf (c::r)=false:=Bool.eq_false_iff.2 hb
 by_cases h35:c=35
 ·subst h35
  have e:yB (35::r)=1+(r.takeWhile zx).length:=by rw[yy,if_neg hw,if_neg (show ¬ (zde.isPrefixOf _=true) from hb),if_pos rfl]
  rw[e] at hQ
  have hc:((35:UInt8).toNat:Int)=35:=rfl
  simp(disch:=first|omega|assumption) only[hb',hc,go_sem]
  have hp:=zhn (35::r) (by omega)
  rw[zg4] at hp
  have n35:zx 35=true:=rfl
  by_cases ha:r.all zx=true
  ·have e2:=zdJ r ha
   have e3:(35::r).all zx=true:=by rw[List.all_cons,n35,ha];rfl
   rw[if_pos e3] at hp
   refine goK_pure hp ?_
   have h0:¬ ((0:Int)≤-1):=by decide
   simp(disch:=first|omega|assumption) only[h0,go_sem]
   exact hQ _ _ _ _ nofun rfl (by simp[tupOf,envOf,AV.strip,AV.strip1,e2,Int.add_comm])
  ·have e3:¬ ((35::r).all zx=true):=by rw[List.all_cons,n35,Bool.true_and];exact ha
   have e2:((35::r).takeWhile zx).length=1+(r.takeWhile zx).length:=by rw[List.takeWhile_cons,if_pos n35];simp;omega
   rw[if_neg e3,e2] at hp
   refine goK_pure hp ?_
   have h0:((0:Int)≤((1+(r.takeWhile zx).length:Nat):Int))=True:=eq_true (by omega)
   simp(disch:=first|omega|assumption) only[h0,go_sem]
   exact hQ _ _ _ _ nofun rfl (by simp[tupOf,envOf,AV.strip,AV.strip1])
 ·have e:yB (c::r)=0:=by rw[yy,if_neg hw,if_neg (show ¬ (zde.isPrefixOf _=true) from hb),if_neg h35]
  rw[e] at hQ
  have g35:¬ ((c.toNat:Int)=35):=fun e=>h35 (nat 35 e (by decide))
  simp(disch:=first|omega|assumption) only[hb',g35,go_sem]
  exact hQ _ _ _ _ nofun rfl (by simp[tupOf,envOf,AV.strip,AV.strip1])
theorem zac (c:UInt8) (r:List UInt8):zM (c::r)=if (isL c||isD c)=true then 1+zM r else 0:=by
 unfold zM
 rw[List.takeWhile_cons]
 split
 ·simp;omega
 ·rfl
theorem ziF (s:List UInt8) (hs:s.length≤Lim) (h0:isL (s.getD 0 0)=true):Pure Tryz.prog 124 [.str s] (.int .i64 (zM s)):=by
 refine Pure.go ir124 ck124 (Al4 _) fun KP Q hQ=>?_
 simp only[Lim] at hs
 have hr1:=zaI s
 simp(disch:=first|omega|assumption) only[ir124,go_sem]
 refine goL_st (fun n:Nat=>[(3,.int .i64 n)]) (fun n H=>zM s=n+zM (s.drop n)∧n≤s.length) (fun n=>s.length-n) 0 (by simp(disch:=first|omega|assumption) only[go_sem]) ⟨by simp,by omega⟩ ?_
 rintro n H J ⟨hn,hle⟩ hJ
 rcases zH s n with ⟨h1,h2⟩|⟨h1,h2⟩
 ·have hlt:¬ ((n:Int)<s.length):=by omega
  rw[h1] at hn
  simp only[zM,List.takeWhile_nil,Al3,Nat.add_zero] at hn
  simp(disch:=first|omega|assumption) only[hlt,go_sem]
  exact hQ _ _ _ _ nofun rfl (by simp[tupOf,envOf,AV.strip,AV.strip1,zM,hn])
 ·have hlt:((n:Int)<s.length):=by omega
  rw[h2,zac] at hn
  simp(disch:=first|omega|assumption) only[hlt,go_sem]
  refine goK_pure (zdi (s.getD n 0)) ?_
  cases hl:isL (s.getD n 0) with
  | true =>
   simp only[hl,Bool.true_or,if_true] at hn
   simp(disch:=first|omega|assumption) only[hl,go_sem]
   exact goJ (hJ (n+1) _ (by omega) ⟨by omega,by omega⟩) (by simp(disch:=first|omega|assumption) only[wrap64,Int.natCast_add,Int.natCast_one,go_sem])
  | false =>
   have hn0:((0:Int)<(n:Int))=True:=eq_true (by
    rcases Nat.eq_zero_or_pos n with e|e
    ·subst e;rw[h0] at hl;cases hl
    ·omega)
   simp(disch:=first|omega|assumption) only[hl,hn0,hlt,go_sem]
   refine goK_pure (zek (s.getD n 0)) ?_
   cases hd:isD (s.getD n 0) with
   | true =>
    simp only[hl,hd,Bool.or_true,if_true] at hn
    simp(disch:=first|omega|assumption) only[hd,go_sem]
    exact goJ (hJ (n+1) _ (by omega) ⟨by omega,by omega⟩) (by simp(disch:=first|omega|assumption) only[wrap64,Int.natCast_add,Int.natCast_one,go_sem])
   | false =>
    simp only[hl,hd,Bool.or_false,Al7,if_false,Nat.add_zero] at hn
    simp(disch:=first|omega|assumption) only[hd,go_sem]
    exact hQ _ _ _ _ nofun rfl (by simp[tupOf,envOf,AV.strip,AV.strip1,hn])
def zhd (n:Nat) (x:Option (List UInt8×List UInt8)):AV:=match x with
 | some (raw,t)=>.tup [.str (zy raw),.int .i64 ((n-t.length:Nat):Int)]
 | none=>.tup [.str [],.int .i64 0]
theorem Zu:∀(n m:Nat) (raw t:List UInt8),t.length<n→t.length<m→yd n raw t=yd m raw t
 | 0,_,_,_,h,_=>absurd h (Nat.not_lt_zero _)
 | _,0,_,_,_,h=>absurd h (Nat.not_lt_zero _)
 | n+1,m+1,raw,[],_,_=>rfl
 | n+1,m+1,raw,c::r,h1,h2=>by
  simp only[Al2] at h1 h2
  simp only[yd]
  rw[Zu n m (raw++zu) (r.drop 3) (by simp;omega) (by simp;omega),Zu n m (raw++[c]) r (by omega) (by omega)]
theorem zci:∀(n:Nat) (raw t b t':List UInt8),yd n raw t=some (b,t')→b.length+t'.length≤raw.length+t.length∧t'.length≤t.length
 | 0,_,_,_,_,h=>by cases h
 | n+1,raw,[],_,_,h=>by cases h
 | n+1,raw,c::r,b,t',h=>by
  simp only[yd] at h
  split at h
  ·cases h;simp;omega
  split at h
  ·rename_i h2
   have hl:=z7 _ _ h2
   simp only[zbR,Al2,Al3] at hl
   have:=zci n _ _ _ _ h
   simp[zu] at this ⊢;omega
  ·have:=zci n _ _ _ _ h
   simp at this ⊢;omega
theorem zhh (s:List UInt8) (h3:3≤s.length) (hs:s.length≤yp):Pure Tryz.prog 119 [.str s] (zhd s.length (yd (s.length-2) [] (s.drop 3))):=by
 refine Pure.go ir119 ck119 (Al4 _) fun KP Q hQ=>?_
 simp only[yp] at hs
 obtain⟨R,hR⟩:∃ R,yd (s.length-2) [] (s.drop 3)=R:=⟨_,rfl⟩
 rw[hR] at hQ
 simp(disch:=first|omega|assumption) only[ir119,go_sem]
 refine goL_st (fun x:Own×List UInt8×Nat=>[(4,.sl x.1 1 (bytesOf x.2.1)),(5,.int .i64 x.2.2)]) (fun x H=>3≤x.2.2∧x.2.2≤s.length∧x.2.1.length+3≤x.2.2∧yd ((s.drop x.2.2).length+1) x.2.1 (s.drop x.2.2)=R∧Owned H x.1 x.2.1.length 1) (fun x=>s.length-x.2.2) (.nil,[],3) (by simp(disch:=first|omega|assumption) only[bytesOf,go_sem]) ⟨Al4 _,h3,Al4 _,by rw[← hR];simp only[zI];rw[show s.length-3+1=s.length-2 by omega],rfl⟩ ?_
 rintro⟨o,raw,i⟩ H J ⟨hi3,hi,hrl,hrw,ho⟩ hJ
 simp only at hi3 hi hrl hrw ho
 have hbl:=zC raw
 by_cases hge:s.length≤i
 ·obtain rfl:i=s.length:=by omega
  rw[List.drop_length] at hrw
  have e:R=none:=by rw[← hrw];rfl
  have h1:((s.length:Int)≤(s.length:Int))=True:=eq_true (Int.le_refl _)
  simp(disch:=first|omega|assumption) only[h1,go_sem]
  exact hQ _ _ _ _ nofun rfl (by simp[tupOf,envOf,AV.strip,AV.strip1,zhd,e])
 have hge':¬ ((s.length:Int)≤(i:Int)):=by omega
 have hle:((i:Int)≤(s.length:Int))=True:=eq_true (by omega)
 have hlt:((i:Int)<(s.length:Int))=True:=eq_true (by omega)
 obtain⟨c,r,hd⟩:∃ c r,s.drop i=c::r:=by
  cases hx:s.drop i with
  | nil=>have:=congrArg List.length hx;simp at this;omega
  | cons c r=>exact⟨c,r,rfl⟩
 have hc:s.getD i 0=c:=by
  have:(s.drop i).getD 0 0=c:=by rw[hd];rfl
  simpa[List.getD_eq_getElem?_getD] using this
 have hdl:s.length=i+(r.length+1):=by have:=congrArg List.length hd;simp at this;omega
 rw[hd] at hrw
 simp only[yd] at hrw
 simp(disch:=first|omega|assumption) only[hge',hle,go_sem]
 refine goK_pure (ZK (s.drop i) [34,34,34]) ?_
 rw[hd]
 by_cases p1:zu.isPrefixOf (c::r)=true
 ·have p1':([34,34,34]:List UInt8).isPrefixOf (c::r)=true:=p1
  have hl3:=z7 _ _ p1
  simp only[zu,Al2,Al3] at hl3
  rw[if_pos p1] at hrw
  simp(disch:=first|omega|assumption) only[p1',ZN,go_sem]
  refine goK_pure (zhz raw (by omega)) ?_
  have e:((s.length-(r.length-2):Nat):Int)=(i:Int)+3:=by omega
  simp(disch:=first|omega|assumption) only[wrap64,go_sem]
  exact hQ _ _ _ _ nofun rfl (by simp[tupOf,envOf,AV.strip,AV.strip1,zhd,← hrw,e])
 have p1':([34,34,34]:List UInt8).isPrefixOf (c::r)=false:=Bool.eq_false_iff.2 p1
 rw[if_neg p1] at hrw
 simp(disch:=first|omega|assumption) only[p1',hle,go_sem]
 refine goK_pure (ZK (s.drop i) [92,34,34,34]) ?_
 rw[hd]
 by_cases p2:zbR.isPrefixOf (c::r)=true
 ·have p2':([92,34,34,34]:List UInt8).isPrefixOf (c::r)=true:=p2
  have hl4:=z7 _ _ p2
  simp only[zbR,Al2,Al3] at hl4
  rw[if_pos p2] at hrw
  simp(disch:=first|omega|assumption) only[p2',go_sem]
  refine goP_ownS (by rw[hbl];exact ho) (by simp[hbl,bytesOf];omega) (by simp[hbl,bytesOf,maxLen];omega) fun o' H' hs2=>?_
  have hdr:s.drop (i+4)=r.drop 3:=by rw[← List.drop_drop,hd];rfl
  simp(disch:=first|omega|assumption) only[wrap64,go_sem]
  refine goJ (hJ (o',raw++zu,i+4) _ (by simp only;omega) ⟨by simp only;omega,by simp only;omega,by simp[zu];omega,?_,?_⟩) (by simp(disch:=first|omega|assumption) only[← ya,Int.natCast_add,zu,yH,go_sem])
  ·simp only
   rw[hdr,← hrw]
   exact Zu _ _ _ _ (Nat.lt_succ_self _) (by simp;omega)
  ·have h:=hs2.own
   simpa[hbl,bytesOf,zu] using h
 ·have p2':([92,34,34,34]:List UInt8).isPrefixOf (c::r)=false:=Bool.eq_false_iff.2 p2
  rw[if_neg p2] at hrw
  simp(disch:=first|omega|assumption) only[p2',hlt,hc,go_sem]
  refine goP_ownS (by rw[hbl];exact ho) (by simp[hbl];omega) (by simp[hbl,maxLen];omega) fun o' H' hs2=>?_
  have hdr:s.drop (i+1)=r:=by rw[← List.drop_drop,hd];rfl
  simp(disch:=first|omega|assumption) only[wrap64,go_sem]
  refine goJ (hJ (o',raw++[c],i+1) _ (by simp only;omega) ⟨by simp only;omega,by simp only;omega,by simp;omega,?_,?_⟩) (by simp(disch:=first|omega|assumption) only[← zbu,Int.natCast_add,go_sem])
  ·simp only
   rw[hdr,← hrw]
   rfl
  ·have h:=hs2.own
   simpa[hbl] using h
theorem ziH (c:UInt8):Pure Tryz.prog 121 [.int .u8 (c.toNat:Int)] (.bool (zJ c)):=by
 refine Pure.go ir121 ck121 (Al4 _) fun KP Q hQ=>?_
 by_cases h10:c=10
 ·subst h10
  have hc:((10:UInt8).toNat:Int)=10:=rfl
  simp(disch:=first|omega|assumption) only[ir121,hc,go_sem]
  exact hQ _ _ _ _ nofun rfl (by simp[tupOf,envOf,AV.strip,AV.strip1,zJ])
 have g10:¬ ((c.toNat:Int)=10):=fun e=>h10 (UInt8.toNat_inj.1 (by show c.toNat=10;omega))
 by_cases h13:c=13
 ·subst h13
  have hc:((13:UInt8).toNat:Int)=13:=rfl
  simp(disch:=first|omega|assumption) only[ir121,hc,go_sem]
  exact hQ _ _ _ _ nofun rfl (by simp[tupOf,envOf,AV.strip,AV.strip1,zJ])
 have g13:¬ ((c.toNat:Int)=13):=fun e=>h13 (UInt8.toNat_inj.1 (by show c.toNat=13;omega))
 simp(disch:=first|omega|assumption) only[ir121,g10,g13,go_sem]
 exact hQ _ _ _ _ nofun rfl (by simp[tupOf,envOf,AV.strip,AV.strip1,zJ,h10,h13])
theorem za6 (c:UInt8) (r:List UInt8):zU (c::r)=if zu.isPrefixOf (c::r) then (yd (r.length+1) [] (r.drop 2)).map fun x=>(⟨5,zy x.1⟩,x.2)
  else if c=34 then (yt zJ r).map fun x=>(⟨5,x.1⟩,x.2)
  else if yU.isPrefixOf (c::r) then some (⟨1,yU⟩,r.drop 2)
  else if 0≤Lib.indexByte Zg c then some (⟨1,[c]⟩,r)
  else if isL c then some (⟨2,(c::r).take (zM (c::r))⟩,(c::r).drop (zM (c::r)))
  else if (zA (c::r)).1=0 then none
  else if ((c::r).drop (zA (c::r)).1).head?.any fun d=>isL d||isD d||decide (d=46) then none
  else some (⟨(zA (c::r)).2,(c::r).take (zA (c::r)).1⟩,(c::r).drop (zA (c::r)).1):=rfl
def zdQ (s:List UInt8):AV:=match zU s with
 | some (x,t)=>.tup [zv x,.int .i64 ((s.length-t.length:Nat):Int)]
 | none=>.tup [zv ⟨if s.head?=some 34 then 5 else 0,[]⟩,.int .i64 0]
theorem y8 {s t:List UInt8} {x:Tok} (h:zU s=some (x,t)):zdQ s=.tup [zv x,.int .i64 ((s.length-t.length:Nat):Int)]:=by unfold zdQ;rw[h]
theorem Z8 {s:List UInt8} (h:zU s=none):zdQ s=.tup [zv ⟨if s.head?=some 34 then 5 else 0,[]⟩,.int .i64 0]:=by unfold zdQ;rw[h]
theorem zjY (c:UInt8) (r:List UInt8) (hs:(c::r).length≤yp):Pure Tryz.prog 60 [.str (c::r)] (zdQ (c::r)):=by
 have hcl:(c::r).length=r.length+1:=rfl
 have hg0:(c::r).getD 0 0=c:=rfl
 have ht1:(c::r).take 1=[c]:=rfl
 have ed:(c::r).drop 3=r.drop 2:=rfl
 have hhd:(c::r).head?=some c:=rfl
 have hquo:=fun h34:c=34=>(by rw[h34];exact zh9 121 (by decide +kernel) zJ ziH 34 r (by simpa[h34] using hs):Pure Tryz.prog 120 [.str (c::r),.clo 121 [] []] (zdL zJ r))
 have ot:=za6 c r
 have hpl3:zu.isPrefixOf (c::r)=true→c=34:=fun p1=>by
  simp only[zu,List.isPrefixOf,Al0,beq_iff_eq] at p1
  exact p1.1.symm
 generalize hsc:c::r=s at *
 refine Pure.go ir60 ck60 (Al4 _) fun KP Q hQ=>?_
 have hsq:=hs
 simp only[yp] at hs
 have hsl:s.length≤Lim:=by simp only[Lim];omega
 have hl:((0:Int)<(s.length:Int))=True:=eq_true (by omega)
 have hl1:((1:Int)≤(s.length:Int))=True:=eq_true (by omega)
 simp(disch:=first|omega|assumption) only[ir60,go_sem]
 refine goA_intro fun b0 hb0=>?_
 simp(disch:=first|omega|assumption) only[hl,hg0,go_sem]
 refine goK_pure (ZK s [34,34,34]) ?_
 by_cases p1:zu.isPrefixOf s=true
 ·have p1':([34,34,34]:List UInt8).isPrefixOf s=true:=p1
  have hl3:=z7 _ _ p1
  simp only[zu,Al2,Al3] at hl3
  have h34:c=34:=hpl3 p1
  simp(disch:=first|omega|assumption) only[p1',go_sem]
  refine goK_pure (zhh s hl3 hsq) ?_
  have ef:yd (s.length-2) [] (r.drop 2)=yd (r.length+1) [] (r.drop 2):=Zu _ _ _ _ (by rw[zI];omega) (by rw[zI];omega)
  rw[ed,ef]
  have e1:zU s=(yd (r.length+1) [] (r.drop 2)).map fun x=>(⟨5,zy x.1⟩,x.2):=by
   rw[ot,if_pos p1]
  cases hx:yd (r.length+1) [] (r.drop 2) with
  | none =>
   rw[hx] at e1
   have e:=Z8 e1
   rw[if_pos (by rw[hhd,h34])] at e
   simp(disch:=first|omega|assumption) only[zhd,go_sem]
   exact hQ _ _ _ [.agg [.int .i64 5,.str []],.int .i64 0] nofun (by simp(disch:=first|omega|assumption) only[ir60,resvs,resv,go_sem]) (by simp[tupOf,AV.strip,AV.strip1,e,zv])
  | some x =>
   obtain⟨raw,t⟩:=x
   rw[hx] at e1
   have e:=y8 e1
   simp(disch:=first|omega|assumption) only[zhd,go_sem]
   exact hQ _ _ _ [.agg [.int .i64 5,.str (zy raw)],.int .i64 (((s.length-t.length:Nat)):Int)] nofun (by simp(disch:=first|omega|assumption) only[ir60,resvs,resv,go_sem]) (by simp[tupOf,AV.strip,AV.strip1,e,zv])
 have p1':([34,34,34]:List UInt8).isPrefixOf s=false:=Bool.eq_false_iff.2 p1
 by_cases c34:c=34
 ·have hc:(c.toNat:Int)=34:=by rw[c34];rfl
  simp(disch:=first|omega|assumption) only[p1',hc,go_sem]
  refine goK_pure (hquo c34) ?_
  have e1:zU s=(yt zJ r).map fun x=>(⟨5,x.1⟩,x.2):=by
   rw[ot,if_neg p1,if_pos c34]
  cases hx:yt zJ r with
  | none =>
   rw[hx] at e1
   have e:=Z8 e1
   rw[if_pos (by rw[hhd,c34])] at e
   simp(disch:=first|omega|assumption) only[zdL,hx,go_sem]
   exact hQ _ _ _ [.agg [.int .i64 5,.str []],.int .i64 0] nofun (by simp(disch:=first|omega|assumption) only[ir60,resvs,resv,go_sem]) (by simp[tupOf,AV.strip,AV.strip1,e,zv])
  | some x =>
   obtain⟨b,t⟩:=x
   rw[hx] at e1
   have e:=y8 e1
   rw[hcl] at e
   simp(disch:=first|omega|assumption) only[zdL,hx,go_sem]
   exact hQ _ _ _ [.agg [.int .i64 5,.str b],.int .i64 (((r.length+1-t.length:Nat)):Int)] nofun (by simp(disch:=first|omega|assumption) only[ir60,resvs,resv,go_sem]) (by simp[tupOf,AV.strip,AV.strip1,e,zv])
 have g34:¬ ((c.toNat:Int)=34):=fun e=>c34 (UInt8.toNat_inj.1 (by show c.toNat=34;omega))
 have hno:¬ (s.head?=some 34):=by rw[hhd];simpa using c34
 simp(disch:=first|omega|assumption) only[p1',g34,go_sem]
 refine goK_pure (ZK s [46,46,46]) ?_
 by_cases p2:yU.isPrefixOf s=true
 ·have p2':([46,46,46]:List UInt8).isPrefixOf s=true:=p2
  have hl3:=z7 _ _ p2
  have hd3:yU.length=3:=rfl
  rw[hd3] at hl3
  have e1:zU s=some (⟨1,yU⟩,r.drop 2):=by
   rw[ot,if_neg p1,if_neg c34,if_pos p2]
  have e:=y8 e1
  have e2:s.length-(r.drop 2).length=3:=by rw[zI];omega
  rw[e2] at e
  have e3:yU=[46,46,46]:=rfl
  simp(disch:=first|omega|assumption) only[p2',go_sem]
  exact hQ _ _ _ [.agg [.int .i64 1,.str [46,46,46]],.int .i64 3] nofun (by simp(disch:=first|omega|assumption) only[ir60,resvs,resv,go_sem]) (by simp[tupOf,AV.strip,AV.strip1,e,zv,e3])
 have p2':([46,46,46]:List UInt8).isPrefixOf s=false:=Bool.eq_false_iff.2 p2
 simp(disch:=first|omega|assumption) only[p2',go_sem]
 refine goK_pure (zb6 Zg c) ?_
 by_cases hm:0≤Lib.indexByte Zg c
 ·have e1:zU s=some (⟨1,[c]⟩,r):=by
   rw[ot,if_neg p1,if_neg c34,if_neg p2,if_pos hm]
  have e:=y8 e1
  have e2:s.length-r.length=1:=by omega
  rw[e2] at e
  have e3:=ht1
  simp(disch:=first|omega|assumption) only[hm,hl1,e3,go_sem]
  exact hQ _ _ _ [.agg [.int .i64 1,.str [c]],.int .i64 1] nofun (by simp(disch:=first|omega|assumption) only[ir60,resvs,resv,go_sem]) (by simp[tupOf,AV.strip,AV.strip1,e,zv])
 simp(disch:=first|omega|assumption) only[hm,go_sem]
 refine goK_pure (zdi c) ?_
 by_cases hL:isL c=true
 ·have e1:zU s=some (⟨2,s.take (zM s)⟩,s.drop (zM s)):=by
   rw[ot,if_neg p1,if_neg c34,if_neg p2,if_neg hm,if_pos hL]
  have e:=y8 e1
  have hwl:=zaI s
  have e2:s.length-(s.drop (zM s)).length=zM s:=by rw[zI];omega
  rw[e2] at e
  have h2:((zM s:Int)≤(s.length:Int))=True:=eq_true (by omega)
  simp(disch:=first|omega|assumption) only[hL,go_sem]
  refine goK_pure (ziF s hsl (by rw[hg0];exact hL)) ?_
  simp(disch:=first|omega|assumption) only[h2,go_sem]
  exact hQ _ _ _ [.agg [.int .i64 2,.str (s.take (zM s))],.int .i64 (zM s:Int)] nofun (by simp(disch:=first|omega|assumption) only[ir60,resvs,resv,go_sem]) (by simp[tupOf,AV.strip,AV.strip1,e,zv])
 have hL':isL c=false:=by simpa using hL
 simp(disch:=first|omega|assumption) only[hL',go_sem]
 refine goK_pure (zeV s hsl) ?_
 have hnl:=YC s
 have hn2:(zA s).1=0→(zA s).2=0:=fun h=>by
  unfold zA at h ⊢
  split at h
  ·rename_i h0;rw[if_pos h0]
  ·rename_i h0;simp only at h;omega
 have e0:zU s=if (zA s).1=0 then none
   else if (s.drop (zA s).1).head?.any fun d=>isL d||isD d||decide (d=46) then none
   else some (⟨(zA s).2,s.take (zA s).1⟩,s.drop (zA s).1):=by
  rw[ot,if_neg p1,if_neg c34,if_neg p2,if_neg hm,if_neg hL]
 generalize hnn:(zA s).1=n at *
 generalize hkk:(zA s).2=k at *
 have hnle:((n:Int)≤(s.length:Int))=True:=eq_true (by omega)
 have fin:(n≠0→zU s=some (⟨k,s.take n⟩,s.drop n))→zdQ s=.tup [zv ⟨k,s.take n⟩,.int .i64 (n:Int)]:=fun h=>by
  by_cases hz:n=0
  ·rw[if_pos hz] at e0
   rw[Z8 e0,if_neg hno,hz,hn2 hz];rfl
  ·rw[y8 (h hz)]
   have e2:s.length-(s.drop n).length=n:=by rw[zI];omega
   rw[e2]
 have bad:(s.drop n).head?.any (fun d=>isL d||isD d||decide (d=46))=true→zdQ s=.tup [zv ⟨0,[]⟩,.int .i64 0]:=fun h=>by
  have:zU s=none:=by
   rw[e0]
   split
   ·rfl
   ·first|rfl|exact if_pos h
  rw[Z8 this,if_neg hno]
 rcases zH s n with ⟨h1,h2⟩|⟨h1,h2⟩
 ·have hlt:¬ ((n:Int)<(s.length:Int)):=by omega
  have e:=fin fun hz=>by rw[e0,if_neg hz,h1];rfl
  simp(disch:=first|omega|assumption) only[hlt,hnle,go_sem]
  exact hQ _ _ _ [.agg [.int .i64 k,.str (s.take n)],.int .i64 (n:Int)] nofun (by simp(disch:=first|omega|assumption) only[ir60,resvs,resv,go_sem]) (by simp[tupOf,AV.strip,AV.strip1,e,zv])
 ·have hlt:((n:Int)<(s.length:Int))=True:=eq_true (by omega)
  generalize hdd:s.getD n 0=d at *
  have ha:(s.drop n).head?.any (fun d=>isL d||isD d||decide (d=46))=(isL d||isD d||decide (d=46)):=by rw[h2];rfl
  rw[ha] at bad
  simp(disch:=first|omega|assumption) only[hlt,hdd,go_sem]
  refine goK_pure (zdi d) ?_
  cases hld:isL d with
  | true =>
   have e:=bad (by rw[hld];rfl)
   simp(disch:=first|omega|assumption) only[hld,go_sem]
   exact hQ _ _ _ [.agg [.int .i64 0,.str []],.int .i64 0] nofun (by simp(disch:=first|omega|assumption) only[ir60,resvs,resv,go_sem]) (by simp[tupOf,AV.strip,AV.strip1,e,zv])
  | false =>
   simp(disch:=first|omega|assumption) only[hld,hlt,hdd,go_sem]
   refine goK_pure (zek d) ?_
   cases hdg:isD d with
   | true =>
    have e:=bad (by rw[hdg];simp)
    simp(disch:=first|omega|assumption) only[hdg,go_sem]
    exact hQ _ _ _ [.agg [.int .i64 0,.str []],.int .i64 0] nofun (by simp(disch:=first|omega|assumption) only[ir60,resvs,resv,go_sem]) (by simp[tupOf,AV.strip,AV.strip1,e,zv])
   | false =>
    by_cases h46:d=46
    ·have e:=bad (by rw[h46];simp)
     have g46:(d.toNat:Int)=46:=by rw[h46];rfl
     simp(disch:=first|omega|assumption) only[hdg,hlt,hdd,g46,go_sem]
     exact hQ _ _ _ [.agg [.int .i64 0,.str []],.int .i64 0] nofun (by simp(disch:=first|omega|assumption) only[ir60,resvs,resv,go_sem]) (by simp[tupOf,AV.strip,AV.strip1,e,zv])
    ·have g46:¬ ((d.toNat:Int)=46):=fun e=>h46 (UInt8.toNat_inj.1 (by show d.toNat=46;omega))
     have e:=fin fun hz=>by rw[e0,if_neg hz,ha,hld,hdg];simp[h46]
     simp(disch:=first|omega|assumption) only[hdg,hlt,hdd,g46,hnle,go_sem]
     exact hQ _ _ _ [.agg [.int .i64 k,.str (s.take n)],.int .i64 (n:Int)] nofun (by simp(disch:=first|omega|assumption) only[ir60,resvs,resv,go_sem]) (by simp[tupOf,AV.strip,AV.strip1,e,zv])
theorem zhH {l:List UInt8} (hne:l≠[]):(zo l).2≤l.length∧(zo l).1≤1114111:=by
 by_cases h:(zo l).2=0
 ·refine⟨by omega,?_⟩
  unfold zo at h ⊢
  split at h
  ·rename_i h0;rw[if_pos h0];decide
  ·split at h
   ·rename_i h0 h1;rw[if_neg h0,if_pos h1];decide
   ·rename_i h0 h1
    have:=zeM h0 h1
    have:=this.pos
    omega
 ·obtain⟨e,h1⟩:=zfV hne h
  have hd:=zeM hne h1
  rw[e]
  refine⟨?_,hd.le⟩
  have hl:=hd.len
  exact hl
theorem zhT (s:List UInt8) (hs:s.length≤Lim):Pure Tryz.prog 58 [.str s] (.bool (zab s)):=by
 refine Pure.go ir58 ck58 (Al4 _) fun KP Q hQ=>?_
 have hs':=hs
 simp only[Lim] at hs
 simp(disch:=first|omega|assumption) only[ir58,go_sem]
 refine goL_st (fun i:Nat=>[(3,.int .i64 i)]) (fun i H=>zab s=zab (s.drop i)∧i≤s.length) (fun i=>s.length-i) 0 (by simp(disch:=first|omega|assumption) only[go_sem]) ⟨by simp,by omega⟩ ?_
 rintro i H J ⟨hn,hle⟩ hJ
 by_cases hlt:i<s.length
 case neg =>
  have hlt':¬ ((i:Int)<s.length):=by omega
  rw[List.drop_of_length_le (by omega)] at hn
  simp(disch:=first|omega|assumption) only[hlt',go_sem]
  exact hQ _ _ _ _ nofun rfl (by simp[tupOf,envOf,AV.strip,AV.strip1,hn,zgU])
 have hlt':((i:Int)<s.length)=True:=eq_true (by omega)
 have hne:s.drop i≠[]:=fun e=>by have:=congrArg List.length e;simp at this;omega
 obtain⟨hk,hcm⟩:=zhH hne
 rw[zI] at hk
 simp(disch:=first|omega|assumption) only[hlt',go_sem]
 refine goK_pure (zjH s i hlt hs') ?_
 rw[zcO hne,List.drop_drop] at hn
 generalize (zo (s.drop i)).1=c at *
 generalize (zo (s.drop i)).2=k at *
 by_cases hk0:0<k
 ·have hk0':((0:Int)<(k:Int))=True:=eq_true (by omega)
  simp(disch:=first|omega|assumption) only[hk0',go_sem]
  refine goK_pure (zji c hcm) ?_
  cases hsg:Ya c with
  | true =>
   rw[hsg] at hn
   simp only[hk0,decide_true,Bool.true_and] at hn
   simp(disch:=first|omega|assumption) only[wrap64,go_sem]
   exact goJ (hJ (i+k) _ (by omega) ⟨hn,by omega⟩) (by simp(disch:=first|omega|assumption) only[Int.natCast_add,go_sem])
  | false =>
   rw[hsg] at hn
   simp only[Bool.false_and,Bool.and_false] at hn
   simp(disch:=first|omega|assumption) only[go_sem]
   exact hQ _ _ _ _ nofun rfl (by simp[tupOf,envOf,AV.strip,AV.strip1,hn])
 ·have hk0':¬ ((0:Int)<(k:Int)):=by omega
  simp only[hk0,decide_false,Bool.false_and] at hn
  simp(disch:=first|omega|assumption) only[hk0',go_sem]
  exact hQ _ _ _ _ nofun rfl (by simp[tupOf,envOf,AV.strip,AV.strip1,hn])
def readA:Except Int (List Tok)→AV
 | .ok l=>.tup [.sl .no 2 (cKs l),.int .i64 0]
 | .error e=>.tup [.sl .no 2 [],.int .i64 e]
def yP (l:List Tok) (t:List UInt8):Except Int (List Tok):=Za (t.length+1) l t
theorem zct (l:List Tok):yP l []=.ok l:=rfl
theorem zcG {l:List Tok} {t:List UInt8} (hne:t≠[]) (h:yB t≠0):yP l t=yP l (t.drop (yB t)):=by
 have h1:=zas t
 have h2:0<t.length:=List.length_pos_iff.2 hne
 unfold yP
 conv=>lhs;unfold Za
 rw[if_neg hne,if_pos h]
 exact Ym _ _ _ _ (by simp;omega) (Nat.lt_succ_self _)
theorem zch {l:List Tok} {t:List UInt8} (hne:t≠[]) (h:yB t=0) (h1:zU t=none):yP l t=.error 2:=by
 unfold yP
 conv=>lhs;unfold Za
 rw[if_neg hne,if_neg (by omega),h1]
theorem zb5 {l:List Tok} {t t':List UInt8} {x:Tok} (hne:t≠[]) (h:yB t=0) (h1:zU t=some (x,t')):yP l t=yP (l++[x]) t':=by
 have h2:=YU h1
 unfold yP
 conv=>lhs;unfold Za
 rw[if_neg hne,if_neg (by omega),h1]
 exact Ym _ _ _ _ (by omega) (Nat.lt_succ_self _)
theorem zbE:∀(n:Nat) (raw t b t':List UInt8),yd n raw t=some (b,t')→t' <:+ t
 | 0,_,_,_,_,h=>by cases h
 | n+1,raw,[],_,_,h=>by cases h
 | n+1,raw,c::r,b,t',h=>by
  simp only[yd] at h
  split at h
  ·cases h;exact(List.drop_suffix _ _).trans (List.suffix_cons ..)
  split at h
  ·exact(zbE n _ _ _ _ h).trans ((List.drop_suffix _ _).trans (List.suffix_cons ..))
  ·exact(zbE n _ _ _ _ h).trans (List.suffix_cons ..)
theorem zdC {s t:List UInt8} {x:Tok} (h:zU s=some (x,t)):t <:+ s:=by
 cases s with
 | nil=>cases h
 | cons c r =>
  simp only[zU] at h
  split at h
  ·cases hr:yd (r.length+1) [] (r.drop 2) with
   | none=>rw[hr] at h;cases h
   | some y =>
    rw[hr] at h
    simp only[zK,Al1,Al8] at h
    obtain⟨_,rfl⟩:=h
    exact(zbE _ _ _ _ _ (show yd _ _ _=some (y.1,y.2) from hr)).trans ((List.drop_suffix _ _).trans (List.suffix_cons ..))
  split at h
  ·cases hr:yt zJ r with
   | none=>rw[hr] at h;cases h
   | some y =>
    rw[hr] at h
    simp only[zK,Al1,Al8] at h
    obtain⟨_,rfl⟩:=h
    exact(zdZ (t':=y.2) (b:=y.1) hr).1.trans (List.suffix_cons ..)
  split at h
  ·cases h;exact(List.drop_suffix _ _).trans (List.suffix_cons ..)
  split at h
  ·cases h;exact List.suffix_cons ..
  split at h
  ·cases h;exact List.drop_suffix _ _
  split at h
  ·cases h
  split at h
  ·cases h
  ·cases h;exact List.drop_suffix _ _
theorem zd0 {s t:List UInt8} {x:Tok} (h:zU s=some (x,t)):s.drop (s.length-t.length)=t:=by
 obtain⟨p,hp⟩:=zdC h
 rw[← hp];simp
theorem zka {u:List UInt8} (hne:u≠[]) (hs:u.length≤1000000):Pure Tryz.prog 59 [.str u] (.int .i64 (yB u)):=by
 cases u with
 | nil=>exact absurd rfl hne
 | cons c r=>exact zj8 c r hs
theorem zjZ {u:List UInt8} (hne:u≠[]) (hs:u.length≤yp):Pure Tryz.prog 60 [.str u] (zdQ u):=by
 cases u with
 | nil=>exact absurd rfl hne
 | cons c r=>exact zjY c r hs
theorem ziI (s:List UInt8) (hs:s.length≤yp):Pure Tryz.prog 24 [.str s] (readA (zX s)):=by
 refine Pure.go ir24 ck24 (Al4 _) fun KP Q hQ=>?_
 have hsq:=hs
 simp only[yp] at hs
 by_cases h8:8192<s.length
 ·have g8:((8192:Int)<(s.length:Int))=True:=eq_true (by omega)
  simp(disch:=first|omega|assumption) only[ir24,g8,go_sem]
  exact hQ _ _ _ _ nofun rfl (by simp[tupOf,envOf,AV.strip,AV.strip1,zX,h8,readA])
 have g8:¬ ((8192:Int)<(s.length:Int)):=by omega
 simp(disch:=first|omega|assumption) only[ir24,g8,go_sem]
 refine goK_pure (zhT s (by simp only[Lim];omega)) ?_
 cases hsb:zab s with
 | false =>
  simp(disch:=first|omega|assumption) only[go_sem]
  exact hQ _ _ _ _ nofun rfl (by simp[tupOf,envOf,AV.strip,AV.strip1,zX,h8,hsb,readA])
 | true =>
  have e0:zX s=yP [] s:=by unfold zX yP;rw[if_neg h8,if_pos hsb]
  rw[e0] at hQ
  simp(disch:=first|omega|assumption) only[go_sem]
  refine goL_st (fun x:Own×List Tok×Nat=>[(4,.sl x.1 2 (cKs x.2.1)),(5,.int .i64 x.2.2)]) (fun x H=>x.2.2≤s.length∧x.2.1.length≤x.2.2∧yP [] s=yP x.2.1 (s.drop x.2.2)∧OwnS Heap.emp .nil H x.1 x.2.1.length 2) (fun x=>s.length-x.2.2) (.nil,[],0) (by simp(disch:=first|omega|assumption) only[cKs,List.map_nil,go_sem]) ⟨Nat.zero_le _,Al4 _,rfl,OwnS.refl rfl⟩ ?_
  rintro⟨o,l,i⟩ H J ⟨hi,hll,hr,hso⟩ hJ
  simp only at hi hll hr hso
  have hcl:=YX l
  by_cases hlt:i<s.length
  case neg =>
   have hlt':¬ ((i:Int)<s.length):=by omega
   rw[List.drop_of_length_le (by omega),zct] at hr
   simp(disch:=first|omega|assumption) only[hlt',go_sem]
   exact hQ _ _ _ _ nofun rfl (by simp[tupOf,envOf,AV.strip,AV.strip1,hr,readA,zcE])
  have hlt':((i:Int)<s.length)=True:=eq_true (by omega)
  have hle':((i:Int)≤s.length)=True:=eq_true (by omega)
  obtain⟨u,hd⟩:∃ u,s.drop i=u:=⟨_,rfl⟩
  have hdl:s.length=i+u.length:=by have:=congrArg List.length hd;rw[zI] at this;omega
  have hne:u≠[]:=fun e=>by rw[e] at hdl;simp at hdl;omega
  rw[hd] at hr
  simp(disch:=first|omega|assumption) only[hlt',hle',hd,go_sem]
  refine goK_pure (zka hne (by omega)) ?_
  have hgl:=zas u
  by_cases hg:yB u=0
  case neg =>
   have hg':((0:Int)<(yB u:Int))=True:=eq_true (by omega)
   simp(disch:=first|omega|assumption) only[hg',wrap64,go_sem]
   refine goJ (hJ (o,l,i+yB u) _ (by simp only;omega) ⟨by simp only;omega,by simp only;omega,?_,hso⟩) (by simp(disch:=first|omega|assumption) only[Int.natCast_add,go_sem])
   simp only
   rw[hr,zcG hne hg,← List.drop_drop,hd]
  have hg':¬ ((0:Int)<(yB u:Int)):=by omega
  simp(disch:=first|omega|assumption) only[hg',hle',hd,go_sem]
  refine goK_pure (zjZ hne (by simp only[yp];omega)) ?_
  cases ho:zU u with
  | none =>
   rw[zch hne hg ho] at hr
   rw[Z8 ho]
   simp(disch:=first|omega|assumption) only[zv,go_sem]
   refine goA_intro fun b1 hb1=>?_
   simp(disch:=first|omega|assumption) only[go_sem]
   exact hQ _ _ _ _ nofun rfl (by simp[tupOf,envOf,AV.strip,AV.strip1,hr,readA])
  | some x =>
   obtain⟨x,t⟩:=x
   have hlt2:=YU ho
   have hsf:=zd0 ho
   rw[zb5 hne hg ho] at hr
   rw[y8 ho]
   have hz:¬ (((u.length-t.length:Nat):Int)=0):=by omega
   simp(disch:=first|omega|assumption) only[zv,go_sem]
   refine goA_intro fun b1 hb1=>?_
   simp(disch:=first|omega|assumption) only[hz,go_sem]
   refine goP_ownS (by rw[hcl];exact(hso.upd hb1).own) (by simp only[hcl,Al2,Al3];omega) (by simp only[hcl,Al2,Al3,maxLen];omega) fun o' H' hs2=>?_
   simp(disch:=first|omega|assumption) only[wrap64,go_sem]
   refine goJ (hJ (o',l++[x],i+(u.length-t.length)) H' (by simp only;omega) ⟨by simp only;omega,by simp;omega,?_,(hso.upd (x:=.cells [.int .i64 x.k,.str x.s]) hb1).trans (by simpa[hcl] using hs2)⟩) (by simp(disch:=first|omega|assumption) only[← zfn,Int.natCast_add,go_sem])
   simp only
   rw[hr,← List.drop_drop,hd,hsf]
theorem zcC (l:List (List UInt8)) (x:List UInt8) (h:l≠[]):Lib.join (l++[x]) [10]=Lib.join l [10]++(10::x):=by
 induction l with
 | nil=>exact absurd rfl h
 | cons a l ih =>
  cases l with
  | nil=>simp[Lib.join]
  | cons b l =>
   have:=ih (by simp)
   have e1:∀ r:List (List UInt8),Lib.join (a::b::r) [10]=a++10::Lib.join (b::r) [10]:=fun r=>by simp[Lib.join]
   rw[Al6,Al6,e1,e1]
   rw[Al6] at this
   rw[this];simp
theorem zaN (D:List (List UInt8)) (tl:List AV) {i:Nat} (h:i<D.length):∃ x,D.drop i=x::D.drop (i+1)∧((ye D++tl).drop (0+i*1)).take 1=[.str x]∧0+i*1+1≤(ye D++tl).length∧x∈D∧D.take (i+1)=D.take i++[x]:=by
 obtain⟨a,x,b,hd,hai⟩:=zfk h
 have hg:=Yr hd tl
 have hle:=zaE hd tl
 rw[hai] at hg hle
 refine⟨x,?_,hg,hle,by rw[hd];simp,?_⟩
 ·rw[hd,← hai,List.drop_left,← List.drop_drop,List.drop_left];rfl
 ·rw[hd,← hai,List.take_left,show a.length+1=(a++[x]).length by simp,show a++x::b=(a++[x])++b by simp,List.take_left]
theorem zhX (raw:List UInt8) (hs:raw.length≤1099511600000):Pure Tryz.prog 201 [.str raw] (.str (zy raw)):=by
 refine Pure.go ir201 ck201 (Al4 _) fun KP Q hQ=>?_
 have hw0:wL (zg raw)≤raw.length+1:=by have:=Z4 raw [];simpa[wL,zg] using this
 obtain⟨x0,T,hL⟩:∃ x T,zg raw=x::T:=by
  cases hx:zg raw with
  | nil=>exact absurd hx (zcj raw [])
  | cons x T=>exact⟨x,T,rfl⟩
 have hLl:=YJ (zg raw)
 simp(disch:=first|omega|assumption) only[ir201,go_sem]
 refine goK_ret (zhW raw (by simp only[Lim];omega)) fun v H1 ⟨b,cap,hv,hm⟩=>?_
 subst hv
 have hm0:=hm
 obtain⟨tl,hb,hcap⟩:=hm
 simp(disch:=first|omega|assumption) only[go_sem]
 refine goK_ret (zg3 hm0 (fun s hsm=>by have:=Zh hsm;simp only[Lim];omega) (by simp only[Lim];omega)) fun v H2 ⟨hv,hH⟩=>?_
 subst hv;subst hH
 obtain⟨n,hn⟩:∃ n,(indM (zg raw)).toNat=n:=⟨_,rfl⟩
 have hb':=hb
 rw[hL] at hb'
 have hmx:(if (0:Int) > indM (zg raw) then (0:Int) else indM (zg raw))=(n:Int):=by split<;>omega
 have hj0:Lib.join ([]:List (List UInt8)) [10]=[]:=by simp[Lib.join]
 simp(disch:=first|omega|assumption) only[hmx,go_sem]
 refine goL_st (fun x:List (List UInt8)×List (List UInt8)=>[(5,.int .i64 ((x.1.length:Int)+1))]) (fun x H'=>T=x.1++x.2∧H' b=some (.cells (ye (x0::(x.1.map (fun s=>s.drop n)++x.2))++tl))) (fun x=>x.2.length) ([],T) (by simp(disch:=first|omega|assumption) only[Al3,go_sem]) ⟨rfl,by simpa using hb'⟩ ?_
 rintro⟨dn,rest⟩ H3 J3 ⟨hT,hb3⟩ hJ3
 simp only at hT hb3
 have hll:(zg raw).length=dn.length+rest.length+1:=by rw[hL,hT];simp
 cases rest with
 | cons y r =>
  have hlt:((dn.length:Int)+1<((zg raw).length:Int))=True:=eq_true (by simp at hll;omega)
  have hcur:x0::(dn.map (fun s=>s.drop n)++y::r)=(x0::dn.map (fun s=>s.drop n))++y::r:=rfl
  have hg:=Yr hcur tl
  have hle:=zaE hcur tl
  have hal:(x0::dn.map (fun s=>s.drop n)).length=dn.length+1:=by simp
  have hst:∀ z,splice (ye (x0::(dn.map (fun s=>s.drop n)++y::r))++tl) (0+(dn.length+1)*1) [.str z]=ye (x0::(dn.map (fun s=>s.drop n)++z::r))++tl:=fun z=>by
   have:=zdW (x0::dn.map (fun s=>s.drop n)) y z r tl
   rw[hal] at this
   exact this
  rw[hal] at hg hle
  have h1:((dn.length:Int)+1).toNat=dn.length+1:=by omega
  have hy0:((0:Int)≤(y.length:Int))=True:=eq_true (by omega)
  have hyn:¬ ((y.length:Int)<0):=by omega
  have hln:dn.length≤1099511627777:=by omega
  have hbn:(ye (x0::(dn.map (fun s=>s.drop n)++y::r))++tl).length=(ye (x0::(dn.map (fun s=>s.drop n)++y::r))++tl).length:=rfl
  by_cases hmin:(y.length:Int)<(n:Int)
  ·simp(disch:=first|omega|assumption) only[hlt,h1,hb3,hg,hle,hst,hmin,hy0,List.drop_length,go_sem]
   refine goJ (hJ3 (dn++[y],r) _ (by simp) ⟨by rw[hT];simp,?_⟩) (by simp(disch:=first|omega|assumption) only[wrap64,Al5,Al2,Al3,Int.natCast_add,go_sem])
   rw[upd_same]
   simp[List.drop_eq_nil_of_le (show y.length≤n by omega)]
  ·have hny:((n:Int)≤(y.length:Int))=True:=eq_true (by omega)
   have hn0:((0:Int)≤(n:Int))=True:=eq_true (by omega)
   simp(disch:=first|omega|assumption) only[hlt,h1,hb3,hg,hle,hst,hmin,hny,hn0,go_sem]
   refine goJ (hJ3 (dn++[y],r) _ (by simp) ⟨by rw[hT];simp,?_⟩) (by simp(disch:=first|omega|assumption) only[wrap64,Al5,Al2,Al3,Int.natCast_add,go_sem])
   rw[upd_same]
   simp
 | nil =>
  have hlt:¬ ((dn.length:Int)+1<((zg raw).length:Int)):=by simp at hll;omega
  obtain⟨D,hDd⟩:∃ D,D=x0::T.map fun s=>s.drop n:=⟨_,rfl⟩
  have hDM:ZL (zg raw)=D:=by
   conv=>lhs;rw[hL]
   simp only[ZL]
   rw[← hL,hn,hDd]
  have hDl:D.length=(zg raw).length:=by rw[hDd,hL];simp
  have hbX:H3 b=some (.cells (ye D++tl)):=by rw[hb3,hDd,hT];simp
  have hwD:wL D≤1099511627777:=by
   have:=zbB n T
   rw[hL] at hw0
   rw[hDd,yw];rw[yw] at hw0;omega
  have hDw:=YJ D
  clear hJ3 hb3
  simp(disch:=first|omega|assumption) only[hlt,go_sem]
  refine goL_st (fun i:Nat=>[(6,.int .i64 (i:Int)),(7,.int .i64 (D.length:Int))]) (fun i H'=>H'=H3∧i≤D.length∧(D.drop i).dropWhile zr=D.dropWhile zr) (fun i=>D.length-i) 0 (by simp(disch:=first|omega|assumption) only[hDl,go_sem]) ⟨rfl,Nat.zero_le _,rfl⟩ ?_
  rintro i H4 J4 ⟨rfl,hi,hdw⟩ hJ4
  by_cases hlt:i<D.length
  case neg =>
   have hlt':¬ ((i:Int)<(D.length:Int)):=by omega
   have hX:D.drop i=D.dropWhile zr:=by
    rw[← hdw,List.drop_eq_nil_of_le (by omega)];rfl
   simp(disch:=first|omega|assumption) only[hlt',go_sem]
   refine goL_st (fun j:Nat=>[(6,.int .i64 (i:Int)),(7,.int .i64 (j:Int))]) (fun j H'=>H'=H4∧i≤j∧j≤D.length∧yG ((D.drop i).take (j-i))=yG (D.drop i)) (fun j=>j) D.length (by simp(disch:=first|omega|assumption) only[go_sem]) ⟨rfl,hi,Al4 _,by rw[List.take_of_length_le (by simp)]⟩ ?_
   rintro j H5 J5 ⟨rfl,hij,hj,htr⟩ hJ5
   by_cases hgt:i<j
   case neg =>
    have hgt':¬ ((i:Int)<(j:Int)):=by omega
    have hF:(D.drop i).take (j-i)=yG (D.dropWhile zr):=by rw[← hX,← htr,show j-i=0 by omega];simp[yG]
    have hji:j-i=0:=by omega
    rw[hji,List.take_zero] at hF
    simp(disch:=first|omega|assumption) only[hgt',go_sem]
    refine goL_st (fun q:Nat=>[(6,.int .i64 (i:Int)),(7,.int .i64 (j:Int)),(8,.str []),(9,.int .i64 (i:Int))]) (fun q H'=>H'=H5) (fun q=>0) 0 (by simp(disch:=first|omega|assumption) only[go_sem]) rfl ?_
    rintro q H6 J6 rfl hJ6
    have e:zy raw=[]:=by unfold zy;rw[hDM,← hF];simp[Lib.join]
    simp(disch:=first|omega|assumption) only[hgt',go_sem]
    exact hQ _ _ _ _ nofun rfl (by simp[tupOf,envOf,AV.strip,AV.strip1,e])
   obtain⟨j1,hj1⟩:∃ q,j=q+1:=⟨j-1,by omega⟩
   have hgt':((i:Int)<(j:Int))=True:=eq_true (by omega)
   obtain⟨y,hy1,hy2,hy3,hy4,hy5⟩:=zaN D tl (show j1<D.length by omega)
   have hyl:y.length≤Lim:=by have:=Zh hy4;simp only[Lim];omega
   have hw1:IntKind.wrap .i64 ((j:Int)-1)=(j1:Int):=by rw[wrap64 (by omega) (by omega)];omega
   have hjl:((j1:Int)<(D.length:Int))=True:=eq_true (by omega)
   have hsn:(D.drop i).take (j-i)=(D.drop i).take (j1-i)++[y]:=by
    have e1:(D.drop i).drop (j1-i)=y::D.drop (j1+1):=by rw[List.drop_drop,show i+(j1-i)=j1 by omega,hy1]
    rw[show j-i=(j1-i)+1 by omega,List.take_add,e1];rfl
   rw[hsn,y5] at htr
   cases hby:zr y with
   | true =>
    rw[hby,if_pos rfl] at htr
    simp(disch:=first|omega|assumption) only[hgt',hw1,hjl,hbX,hy2,hy3,← hDl,go_sem]
    refine goK_pure (YN y hyl) ?_
    simp(disch:=first|omega|assumption) only[hby,hw1,go_sem]
    exact goJ (hJ5 j1 _ (by omega) ⟨rfl,by omega,by omega,htr⟩) (by simp(disch:=first|omega|assumption) only[← hDl,go_sem])
   | false =>
    rw[hby,if_neg (by decide)] at htr
    have hF:(D.drop i).take (j-i)=yG (D.dropWhile zr):=by rw[hsn,htr,hX]
    simp(disch:=first|omega|assumption) only[hgt',hw1,hjl,hbX,hy2,hy3,← hDl,go_sem]
    refine goK_pure (YN y hyl) ?_
    simp(disch:=first|omega|assumption) only[hby,go_sem]
    have hjD:j≤D.length:=by omega
    refine goL_st (fun q:Nat=>[(6,.int .i64 (i:Int)),(7,.int .i64 ((j:Nat):Int)),(8,.str (Lib.join ((D.drop i).take (q-i)) [10])),(9,.int .i64 (q:Int))]) (fun q H'=>H'=H5∧i≤q∧q≤j) (fun q=>j-q) i (by simp(disch:=first|omega|assumption) only[Nat.sub_self,List.take_zero,hj0,go_sem]) ⟨rfl,Al4 _,by omega⟩ ?_
    rintro q H6 J6 ⟨rfl,hiq,hqj⟩ hJ6
    by_cases hq:q<j
    case neg =>
     have hq':¬ (((q:Nat):Int)<((j:Nat):Int)):=by omega
     have e:zy raw=Lib.join ((D.drop i).take (q-i)) [10]:=by unfold zy;rw[hDM,← hF,show q=j by omega]
     simp(disch:=first|omega|assumption) only[hq',go_sem]
     exact hQ _ _ _ _ nofun rfl (by simp[tupOf,envOf,AV.strip,AV.strip1,e])
    have hq':(((q:Nat):Int)<((j:Nat):Int))=True:=eq_true (by omega)
    obtain⟨z,hz1,hz2,hz3,hz4,hz5⟩:=zaN D tl (show q<D.length by omega)
    have hql:((q:Int)<(D.length:Int))=True:=eq_true (by omega)
    have hz6:(D.drop i).take (q+1-i)=(D.drop i).take (q-i)++[z]:=by
     have e1:(D.drop i).drop (q-i)=z::D.drop (q+1):=by rw[List.drop_drop,show i+(q-i)=q by omega,hz1]
     rw[show q+1-i=(q-i)+1 by omega,List.take_add,e1];rfl
    have hjw:=YV (((D.drop i).take (q-i)))
    have hwt:wL ((D.drop i).take (q-i))≤wL D:=by
     have h1:=zae (D.take i) (D.drop i)
     have h2:=zae ((D.drop i).take (q-i)) ((D.drop i).drop (q-i))
     rw[List.take_append_drop] at h1 h2
     omega
    have hzw:=Zh hz4
    have hjz:(Lib.join ((D.drop i).take (q-i)) [10]++[10]).length≤1099511627777+1:=by rw[Al5,List.length_singleton];omega
    by_cases hqi:i<q
    ·have hqi':((i:Int)<(q:Int))=True:=eq_true (by omega)
     have hne:(D.drop i).take (q-i)≠[]:=by
      intro h
      have:=congrArg List.length h
      simp at this
      omega
     have ej:=zcC _ z hne
     rw[← hz6] at ej
     simp(disch:=first|omega|assumption) only[hq',hqi',hbX,hz2,hz3,hql,← hDl,wrap64,go_sem]
     refine goJ (hJ6 (q+1) _ (by omega) ⟨rfl,by omega,by omega⟩) (by simp(disch:=first|omega|assumption) only[ej,← hDl,Int.natCast_add,zbw,List.singleton_append,go_sem])
    ·have hqe:q=i:=by omega
     have hqi':¬ ((i:Int)<(q:Int)):=by omega
     have hj1:Lib.join ((D.drop i).take (q-i)) [10]=[]:=by rw[hqe,Nat.sub_self,List.take_zero,hj0]
     have ej:Lib.join ((D.drop i).take (q+1-i)) [10]=z:=by rw[hz6,hqe];simp[Lib.join]
     simp(disch:=first|omega|assumption) only[hq',hqi',hbX,hz2,hz3,hql,← hDl,wrap64,go_sem]
     refine goJ (hJ6 (q+1) _ (by omega) ⟨rfl,by omega,by omega⟩) (by simp(disch:=first|omega|assumption) only[ej,hj1,← hDl,Int.natCast_add,Y2,go_sem])
  obtain⟨x,hx1,hx2,hx3,hx4,hx5⟩:=zaN D tl hlt
  have hlt':((i:Int)<(D.length:Int))=True:=eq_true (by omega)
  have hxl:x.length≤Lim:=by have:=Zh hx4;simp only[Lim];omega
  cases hbr:zr x with
  | true =>
   simp(disch:=first|omega|assumption) only[hlt',hbX,hx2,hx3,← hDl,go_sem]
   refine goK_pure (YN x hxl) ?_
   simp(disch:=first|omega|assumption) only[hbr,wrap64,go_sem]
   exact goJ (hJ4 (i+1) _ (by omega) ⟨rfl,hlt,by rw[← hdw,hx1,List.dropWhile_cons,if_pos hbr]⟩) (by simp(disch:=first|omega|assumption) only[← hDl,Int.natCast_add,go_sem])
  | false =>
   have hX:D.drop i=D.dropWhile zr:=by
    rw[← hdw,hx1,List.dropWhile_cons,if_neg (by rw[hbr];decide)]
   simp(disch:=first|omega|assumption) only[hlt',hbX,hx2,hx3,← hDl,go_sem]
   refine goK_pure (YN x hxl) ?_
   simp(disch:=first|omega|assumption) only[hbr,go_sem]
   refine goL_st (fun j:Nat=>[(6,.int .i64 (i:Int)),(7,.int .i64 (j:Int))]) (fun j H'=>H'=H4∧i≤j∧j≤D.length∧yG ((D.drop i).take (j-i))=yG (D.drop i)) (fun j=>j) D.length (by simp(disch:=first|omega|assumption) only[go_sem]) ⟨rfl,hi,Al4 _,by rw[List.take_of_length_le (by simp)]⟩ ?_
   rintro j H5 J5 ⟨rfl,hij,hj,htr⟩ hJ5
   by_cases hgt:i<j
   case neg =>
    have hgt':¬ ((i:Int)<(j:Int)):=by omega
    have hF:(D.drop i).take (j-i)=yG (D.dropWhile zr):=by rw[← hX,← htr,show j-i=0 by omega];simp[yG]
    have hji:j-i=0:=by omega
    rw[hji,List.take_zero] at hF
    simp(disch:=first|omega|assumption) only[hgt',go_sem]
    refine goL_st (fun q:Nat=>[(6,.int .i64 (i:Int)),(7,.int .i64 (j:Int)),(8,.str []),(9,.int .i64 (i:Int))]) (fun q H'=>H'=H5) (fun q=>0) 0 (by simp(disch:=first|omega|assumption) only[go_sem]) rfl ?_
    rintro q H6 J6 rfl hJ6
    have e:zy raw=[]:=by unfold zy;rw[hDM,← hF];simp[Lib.join]
    simp(disch:=first|omega|assumption) only[hgt',go_sem]
    exact hQ _ _ _ _ nofun rfl (by simp[tupOf,envOf,AV.strip,AV.strip1,e])
   obtain⟨j1,hj1⟩:∃ q,j=q+1:=⟨j-1,by omega⟩
   have hgt':((i:Int)<(j:Int))=True:=eq_true (by omega)
   obtain⟨y,hy1,hy2,hy3,hy4,hy5⟩:=zaN D tl (show j1<D.length by omega)
   have hyl:y.length≤Lim:=by have:=Zh hy4;simp only[Lim];omega
   have hw1:IntKind.wrap .i64 ((j:Int)-1)=(j1:Int):=by rw[wrap64 (by omega) (by omega)];omega
   have hjl:((j1:Int)<(D.length:Int))=True:=eq_true (by omega)
   have hsn:(D.drop i).take (j-i)=(D.drop i).take (j1-i)++[y]:=by
    have e1:(D.drop i).drop (j1-i)=y::D.drop (j1+1):=by rw[List.drop_drop,show i+(j1-i)=j1 by omega,hy1]
    rw[show j-i=(j1-i)+1 by omega,List.take_add,e1];rfl
   rw[hsn,y5] at htr
   cases hby:zr y with
   | true =>
    rw[hby,if_pos rfl] at htr
    simp(disch:=first|omega|assumption) only[hgt',hw1,hjl,hbX,hy2,hy3,← hDl,go_sem]
    refine goK_pure (YN y hyl) ?_
    simp(disch:=first|omega|assumption) only[hby,hw1,go_sem]
    exact goJ (hJ5 j1 _ (by omega) ⟨rfl,by omega,by omega,htr⟩) (by simp(disch:=first|omega|assumption) only[← hDl,go_sem])
   | false =>
    rw[hby,if_neg (by decide)] at htr
    have hF:(D.drop i).take (j-i)=yG (D.dropWhile zr):=by rw[hsn,htr,hX]
    simp(disch:=first|omega|assumption) only[hgt',hw1,hjl,hbX,hy2,hy3,← hDl,go_sem]
    refine goK_pure (YN y hyl) ?_
    simp(disch:=first|omega|assumption) only[hby,go_sem]
    have hjD:j≤D.length:=by omega
    refine goL_st (fun q:Nat=>[(6,.int .i64 (i:Int)),(7,.int .i64 ((j:Nat):Int)),(8,.str (Lib.join ((D.drop i).take (q-i)) [10])),(9,.int .i64 (q:Int))]) (fun q H'=>H'=H5∧i≤q∧q≤j) (fun q=>j-q) i (by simp(disch:=first|omega|assumption) only[Nat.sub_self,List.take_zero,hj0,go_sem]) ⟨rfl,Al4 _,by omega⟩ ?_
    rintro q H6 J6 ⟨rfl,hiq,hqj⟩ hJ6
    by_cases hq:q<j
    case neg =>
     have hq':¬ (((q:Nat):Int)<((j:Nat):Int)):=by omega
     have e:zy raw=Lib.join ((D.drop i).take (q-i)) [10]:=by unfold zy;rw[hDM,← hF,show q=j by omega]
     simp(disch:=first|omega|assumption) only[hq',go_sem]
     exact hQ _ _ _ _ nofun rfl (by simp[tupOf,envOf,AV.strip,AV.strip1,e])
    have hq':(((q:Nat):Int)<((j:Nat):Int))=True:=eq_true (by omega)
    obtain⟨z,hz1,hz2,hz3,hz4,hz5⟩:=zaN D tl (show q<D.length by omega)
    have hql:((q:Int)<(D.length:Int))=True:=eq_true (by omega)
    have hz6:(D.drop i).take (q+1-i)=(D.drop i).take (q-i)++[z]:=by
     have e1:(D.drop i).drop (q-i)=z::D.drop (q+1):=by rw[List.drop_drop,show i+(q-i)=q by omega,hz1]
     rw[show q+1-i=(q-i)+1 by omega,List.take_add,e1];rfl
    have hjw:=YV (((D.drop i).take (q-i)))
    have hwt:wL ((D.drop i).take (q-i))≤wL D:=by
     have h1:=zae (D.take i) (D.drop i)
     have h2:=zae ((D.drop i).take (q-i)) ((D.drop i).drop (q-i))
     rw[List.take_append_drop] at h1 h2
     omega
    have hzw:=Zh hz4
    have hjz:(Lib.join ((D.drop i).take (q-i)) [10]++[10]).length≤1099511627777+1:=by rw[Al5,List.length_singleton];omega
    by_cases hqi:i<q
    ·have hqi':((i:Int)<(q:Int))=True:=eq_true (by omega)
     have hne:(D.drop i).take (q-i)≠[]:=by
      intro h
      have:=congrArg List.length h
      simp at this
      omega
     have ej:=zcC _ z hne
     rw[← hz6] at ej
     simp(disch:=first|omega|assumption) only[hq',hqi',hbX,hz2,hz3,hql,← hDl,wrap64,go_sem]
     refine goJ (hJ6 (q+1) _ (by omega) ⟨rfl,by omega,by omega⟩) (by simp(disch:=first|omega|assumption) only[ej,← hDl,Int.natCast_add,zbw,List.singleton_append,go_sem])
    ·have hqe:q=i:=by omega
     have hqi':¬ ((i:Int)<(q:Int)):=by omega
     have hj1:Lib.join ((D.drop i).take (q-i)) [10]=[]:=by rw[hqe,Nat.sub_self,List.take_zero,hj0]
     have ej:Lib.join ((D.drop i).take (q+1-i)) [10]=z:=by rw[hz6,hqe];simp[Lib.join]
     simp(disch:=first|omega|assumption) only[hq',hqi',hbX,hz2,hz3,hql,← hDl,wrap64,go_sem]
     refine goJ (hJ6 (q+1) _ (by omega) ⟨rfl,by omega,by omega⟩) (by simp(disch:=first|omega|assumption) only[ej,hj1,← hDl,Int.natCast_add,Y2,go_sem])
theorem zaD (s:List UInt8) (i:Nat) (t:List UInt8) (hi:i≤s.length) (hs:s.length≤Lim) (ht:t.length≤100):Pure Tryz.prog 153 [.str s,.int .i64 i,.str t] (.bool (t.isPrefixOf (s.drop i))):=by
 refine Pure.go ir153 ck153 (Al4 _) fun KP Q hQ=>?_
 simp only[Lim] at hs
 by_cases hle:t.length≤s.length-i
 ·have h1:((i:Int)≤(s.length:Int)-(t.length:Int))=True:=eq_true (by omega)
  have h2:((i:Int)≤(i:Int)+(t.length:Int))=True:=eq_true (by omega)
  have h3:((i:Int)+(t.length:Int)≤(s.length:Int))=True:=eq_true (by omega)
  have h4:((i:Int)+(t.length:Int)).toNat=i+t.length:=by omega
  have h5:((i:Int)+(t.length:Int)-(i:Int)).toNat=t.length:=by omega
  have e0:List.drop i (List.take (i+t.length) s)=(s.drop i).take t.length:=by rw[List.drop_take];congr 1;omega
  have e:decide (List.drop i (List.take (i+t.length) s)=t)=t.isPrefixOf (s.drop i):=by
   rw[e0,Bool.eq_iff_iff,decide_eq_true_iff,List.isPrefixOf_iff_prefix]
   exact⟨fun h=>h▸List.take_prefix _ _,fun h=>(List.prefix_iff_eq_take.1 h).symm⟩
  simp(disch:=first|omega|assumption) only[ir153,wrap64,h1,h2,h3,h4,h5,go_sem]
  exact hQ _ _ _ _ nofun rfl (by simp[tupOf,envOf,AV.strip,AV.strip1,e])
 ·have h1:¬ ((i:Int)≤(s.length:Int)-(t.length:Int)):=by omega
  have e:t.isPrefixOf (s.drop i)=false:=by
   rw[← Bool.not_eq_true]
   intro h
   have:=z7 _ _ h
   rw[zI] at this
   omega
  simp(disch:=first|omega|assumption) only[ir153,wrap64,h1,go_sem]
  exact hQ _ _ _ _ nofun rfl (by simp[tupOf,envOf,AV.strip,AV.strip1,e])
def zgF (n:Nat) (x:Option (List UInt8×List UInt8)):AV:=match x with
 | some (raw,t)=>.tup [.str (zy raw),.int .i64 ((n-t.length:Nat):Int),.bool true]
 | none=>.tup [.str [],.int .i64 0,.bool false]
theorem zgz (s:List UInt8) (i0:Nat) (hi0:i0≤s.length) (hs:s.length≤yp):Pure Tryz.prog 155 [.str s,.int .i64 i0] (zgF s.length (yd (s.length-i0+1) [] (s.drop i0))):=by
 refine Pure.go ir155 ck155 (Al4 _) fun KP Q hQ=>?_
 have hsl:s.length≤Lim:=by simp only[yp] at hs;simp only[Lim];omega
 simp only[yp] at hs
 obtain⟨R,hR⟩:∃ R,yd (s.length-i0+1) [] (s.drop i0)=R:=⟨_,rfl⟩
 rw[hR] at hQ
 simp(disch:=first|omega|assumption) only[ir155,go_sem]
 refine goL_st (fun x:List UInt8×Nat=>[(1,.int .i64 x.2),(7,.str x.1)]) (fun x H=>x.2≤s.length∧x.1.length≤x.2∧yd ((s.drop x.2).length+1) x.1 (s.drop x.2)=R) (fun x=>s.length-x.2) ([],i0) (by simp(disch:=first|omega|assumption) only[go_sem]) ⟨hi0,Nat.zero_le _,by rw[← hR];simp only[zI]⟩ ?_
 rintro⟨raw,i⟩ H J ⟨hi,hrl,hrw⟩ hJ
 simp only at hi hrl hrw
 by_cases hge:s.length≤i
 ·obtain rfl:i=s.length:=by omega
  rw[List.drop_length] at hrw
  have e:R=none:=by rw[← hrw];rfl
  have h1:¬ ((s.length:Int)<(s.length:Int)):=by omega
  simp(disch:=first|omega|assumption) only[h1,go_sem]
  exact hQ _ _ _ _ nofun rfl (by simp[tupOf,envOf,AV.strip,AV.strip1,zgF,e])
 have hle:((i:Int)≤(s.length:Int))=True:=eq_true (by omega)
 have hlt:((i:Int)<(s.length:Int))=True:=eq_true (by omega)
 obtain⟨c,r,hd⟩:∃ c r,s.drop i=c::r:=by
  cases hx:s.drop i with
  | nil=>have:=congrArg List.length hx;simp at this;omega
  | cons c r=>exact⟨c,r,rfl⟩
 have hdl:s.length=i+(r.length+1):=by have:=congrArg List.length hd;simp at this;omega
 rw[hd] at hrw
 simp only[yd] at hrw
 simp(disch:=first|omega|assumption) only[hlt,go_sem]
 refine goK_pure (zaD s i [34,34,34] hi hsl (by decide)) ?_
 rw[hd]
 by_cases p1:zu.isPrefixOf (c::r)=true
 ·have p1':([34,34,34]:List UInt8).isPrefixOf (c::r)=true:=p1
  have hl3:=z7 _ _ p1
  simp only[zu,Al2,Al3] at hl3
  rw[if_pos p1] at hrw
  simp(disch:=first|omega|assumption) only[p1',go_sem]
  refine goK_pure (zhX raw (by omega)) ?_
  have e:((s.length-(r.length-2):Nat):Int)=(i:Int)+3:=by omega
  simp(disch:=first|omega|assumption) only[wrap64,go_sem]
  exact hQ _ _ _ _ nofun rfl (by simp[tupOf,envOf,AV.strip,AV.strip1,zgF,← hrw,e])
 have p1':([34,34,34]:List UInt8).isPrefixOf (c::r)=false:=Bool.eq_false_iff.2 p1
 rw[if_neg p1] at hrw
 simp(disch:=first|omega|assumption) only[p1',go_sem]
 refine goK_pure (zaD s i [92,34,34,34] hi hsl (by decide)) ?_
 rw[hd]
 by_cases p2:zbR.isPrefixOf (c::r)=true
 ·have p2':([92,34,34,34]:List UInt8).isPrefixOf (c::r)=true:=p2
  have hl4:=z7 _ _ p2
  simp only[zbR,Al2,Al3] at hl4
  rw[if_pos p2] at hrw
  have hdr:s.drop (i+4)=r.drop 3:=by rw[← List.drop_drop,hd];rfl
  simp(disch:=first|omega|assumption) only[p2',wrap64,go_sem]
  refine goJ (hJ (raw++zu,i+4) _ (by simp only;omega) ⟨by simp only;omega,by simp[zu];omega,?_⟩) (by simp(disch:=first|omega|assumption) only[zu,Int.natCast_add,go_sem])
  simp only
  rw[hdr,← hrw]
  exact Zu _ _ _ _ (Nat.lt_succ_self _) (by simp;omega)
 ·have p2':([92,34,34,34]:List UInt8).isPrefixOf (c::r)=false:=Bool.eq_false_iff.2 p2
  rw[if_neg p2] at hrw
  have hdr:s.drop (i+1)=r:=by rw[← List.drop_drop,hd];rfl
  have hi1:((i:Int)≤(i:Int)+1)=True:=eq_true (by omega)
  have hi2:((i:Int)+1≤(s.length:Int))=True:=eq_true (by omega)
  have hi3:((i:Int)+1).toNat=i+1:=by omega
  have ht1:List.drop i (List.take (i+1) s)=[c]:=by rw[List.drop_take,hd,Nat.add_sub_cancel_left];rfl
  simp(disch:=first|omega|assumption) only[p2',wrap64,hi1,hi2,hi3,ht1,go_sem]
  refine goJ (hJ (raw++[c],i+1) _ (by simp only;omega) ⟨by simp only;omega,by simp;omega,?_⟩) (by simp(disch:=first|omega|assumption) only[Int.natCast_add,go_sem])
  simp only
  rw[hdr,← hrw]
  rfl
end Go.Proofs.YtaielcdfcgpbiaaGreatDoor
