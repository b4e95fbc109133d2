import Derived.Shelf.Strings.IndexAnyAll
import Derived.Shelf.Small.Utf8
import Derived.Laws.RangeAny
import Derived.Laws.Runes
import Derived.WalkMore
import Derived.Shelf.RegionOpenPlain
import Derived.BigQuiet
import Derived.Test.YtaielcdfcgpbiaaGreatDoorRows
import Derived.Test.YtaielcdfcgpbiaaGreatDoorM1
import Derived.Test.YtaielcdfcgpbiaaGreatDoorM2
import Derived.Test.YtaielcdfcgpbiaaGreatDoorM3
import Derived.Test.YtaielcdfcgpbiaaGreatDoorM4
import Derived.Test.YtaielcdfcgpbiaaGreatDoorM5
import Derived.Test.YtaielcdfcgpbiaaGreatDoorM6
import Derived.Test.YtaielcdfcgpbiaaGreatDoorM7
set_option maxRecDepth 100000
set_option linter.all false
namespace Go.Proofs.YtaielcdfcgpbiaaGreatDoor
open Go.Ab Go.Lib
def y9 (l:List (List UInt8)):List AV:=l.map AV.str
theorem ZD (l:List (List UInt8)):(y9 l).length=l.length:=by simp[y9]
def MsT (H:Heap) (b cap:Nat) (l:List (List UInt8)):Prop:=∃ tl,H b=some (.cells (y9 l++tl))∧l.length+tl.length=cap
theorem zhC (z:AV):∀ n,(madeA [z] n).length=n
 | 0=>rfl
 | n+1=>by simp[madeA,zhC z n]
section
variable {KP:AV→Heap→Prop} {Q:AExit→Env→Heap→Prop} {st:List Fr} {ρ:Env} {H:Heap} {all items:List AItem} {d:Option Nat} {R:List Chk}
theorem zmT {b cap:Nat} {l:List (List UInt8)} {x:List UInt8} {o2:Own} (h:MsT H b cap l) (h1:(l.length+1)*16≤140737488355328) (h2:l.length+1≤maxLen)
  (k:∀ b' cap' H',MsT H' b' cap' (l++[x])→goR Tryz.prog KP Q all items st R (ρ.set d (.ms b' 0 (l.length+1) cap')) H') :
  goPm Tryz.prog KP Q all items st d R ρ 1 16 [.str []] (.ms b 0 l.length cap) (.sl o2 1 [[.str x]]) H:=by
 obtain⟨tl,hb,hc⟩:=h
 refine goPm_ms hb rfl (by simpa using h1) (by simpa using h2) (fun hfit=>⟨?_,?_⟩) (fun hnf=>⟨?_,fun b' cap' hb' hcap' hm'=>?_⟩)
 ·have hfit:l.length+1≤cap:=hfit
  simp[ZD];omega
 ·have hfit:l.length+1≤cap:=hfit
  obtain⟨t0,tl,rfl⟩:∃ t0 t1,tl=t0::t1:=by
   cases tl with
   | nil=>simp at hc;omega
   | cons a b=>exact⟨a,b,rfl⟩
  refine k b cap _ ⟨tl,?_,by simp at hc ⊢;omega⟩
  rw[upd_same]
  simp only[splice,List.flatten_cons,List.flatten_nil,List.append_nil,List.map_cons,List.map_nil,AV.strip1,Al2,Al3,Nat.zero_add,Nat.mul_one]
  rw[List.take_left' (ZD l),List.drop_append,List.drop_eq_nil_of_le (by rw[ZD];omega),ZD,Nat.add_sub_cancel_left]
  simp[y9]
 ·simp[ZD]
 ·refine k b' cap' _ ⟨madeA [.str []] (cap'-(l.length+1)),?_,?_⟩
  ·rw[upd_same]
   simp only[List.drop_zero,Nat.mul_one,List.flatten_cons,List.flatten_nil,List.append_nil,List.map_cons,List.map_nil,AV.strip1,Al2,Al3,Nat.zero_add]
   rw[List.take_left' (ZD l)]
   simp[y9]
  ·have hcap':l.length+1≤cap':=hcap'
   rw[zhC];simp;omega
theorem zl0 {x:List UInt8} {o2:Own} (k:∀ b' cap' H',MsT H' b' cap' [x]→goR Tryz.prog KP Q all items st R (ρ.set d (.ms b' 0 1 cap')) H') :
  goPm Tryz.prog KP Q all items st d R ρ 1 16 [.str []] (.sl .nil 1 []) (.sl o2 1 [[.str x]]) H:=by
 refine goPm_nil rfl (by simp) (by simp[maxLen]) (fun h=>by simp at h) fun _ b cap hb h1 h2=>?_
 have h1:1≤cap:=h1
 refine k b cap _ ⟨madeA [.str []] (cap-1),?_,by rw[zhC];simp;omega⟩
 rw[upd_same]
 simp[y9,AV.strip1]
end
theorem zb3 {cur r:List UInt8} {c:UInt8} (h:¬ (c=10∨c=13)):zP cur (c::r)=zP (cur++[c]) r:=by
 have h10:c≠10:=fun e=>h (.inl e)
 have h13:c≠13:=fun e=>h (.inr e)
 cases r with
 | nil=>simp[zP,h10,h13]
 | cons d r=>simp[zP,h10,h13]
theorem zeT (cur r:List UInt8):zP cur (10::r)=cur::zP [] r:=by cases r<;>simp[zP]
theorem zew {cur r:List UInt8} (h:r.head?≠some 10):zP cur (13::r)=cur::zP [] r:=by
 cases r with
 | nil=>simp[zP]
 | cons d r =>
  have:d≠10:=by simpa using h
  simp[zP,this]
theorem zdQ (cur r:List UInt8):zP cur (13::10::r)=cur::zP [] r:=by simp[zP]
def zlT (b cap:Nat) (l:List (List UInt8)):AV:=if l=[] then .sl .nil 1 [] else .ms b 0 l.length cap
theorem zgV (b cap:Nat):zlT b cap []=.sl .nil 1 []:=rfl
theorem zbV {b cap:Nat} {l:List (List UInt8)} (h:l≠[]):zlT b cap l=.ms b 0 l.length cap:=if_neg h
def znn (s:List UInt8):AEnd→Heap→Prop:=zj6 fun v H'=>∃ b cap,v=.ms b 0 (zw s).length cap∧MsT H' b cap (zw s)
section
variable {KP:AV→Heap→Prop} {Q:AExit→Env→Heap→Prop} {st:List Fr} {ρ:Env} {H:Heap} {all items:List AItem} {d:Option Nat} {R:List Chk}
theorem zdw {b cap:Nat} {l:List (List UInt8)} {x:List UInt8} {o2:Own} (h:l≠[]→MsT H b cap l) (h1:(l.length+1)*16≤140737488355328) (h2:l.length+1≤maxLen)
  (k:∀ b' cap' H',MsT H' b' cap' (l++[x])→goR Tryz.prog KP Q all items st R (ρ.set d (.ms b' 0 (l.length+1) cap')) H') :
  goPm Tryz.prog KP Q all items st d R ρ 1 16 [.str []] (zlT b cap l) (.sl o2 1 [[.str x]]) H:=by
 by_cases hl:l=[]
 ·subst hl
  rw[zgV]
  exact zl0 fun b' cap' H' hm=>k b' cap' H' hm
 ·rw[zbV hl]
  exact zmT (h hl) h1 h2 k
end
theorem zlt (s:List UInt8) (hs:s.length≤Lim):ACalls Tryz.prog 216 [.str s] Heap.emp (znn s):=by
 refine ACalls.go ir216 ck216 (Al4 _) fun KP Q hQ=>?_
 have hs':=hs
 simp only[Lim] at hs'
 simp(disch:=first|omega|assumption) only[ir216,go_sem]
 refine goL_st (fun x:Nat×Nat×List (List UInt8)×Nat×Nat=>[(3,zlT x.2.2.2.1 x.2.2.2.2 x.2.2.1),(4,.int .i64 x.2.1),(5,.int .i64 x.1)]) (fun x H'=>x.2.1≤x.1∧x.1≤s.length∧x.2.2.1.length≤x.1∧x.2.2.1++zP ((s.take x.1).drop x.2.1) (s.drop x.1)=zw s∧(x.2.2.1≠[]→MsT H' x.2.2.2.1 x.2.2.2.2 x.2.2.1)) (fun x=>s.length-x.1) (0,0,[],0,0) (by simp(disch:=first|omega|assumption) only[zgV,go_sem]) ⟨Al4 _,Nat.zero_le _,Al4 _,by simp[zw],fun h=>absurd rfl h⟩ ?_
 rintro⟨i,fr,l,b,cap⟩ H1 J ⟨h1,h2,h3,h4,h5⟩ hJ
 simp only at h1 h2 h3 h4 h5
 by_cases hlt:i<s.length
 case neg =>
  obtain rfl:i=s.length:=by omega
  have hlt':¬ ((s.length:Int)<s.length):=by omega
  have hb1:((fr:Int)≤s.length)=True:=eq_true (by omega)
  rw[List.drop_length,List.take_length] at h4
  simp only[zP] at h4
  simp(disch:=first|omega|assumption) only[hlt',hb1,go_sem]
  refine zdw h5 (by omega) (by simp only[maxLen];omega) fun b' cap' H2 hm=>?_
  simp(disch:=first|omega|assumption) only[go_sem]
  exact hQ _ _ H2 H2 [_] nofun rfl (Low.refl _) ⟨b',cap',by rw[← h4];simp[tupOf,envOf,AV.strip,AV.strip1],by rw[← h4];exact hm⟩
 have hlt':((i:Int)<s.length)=True:=eq_true (by omega)
 obtain⟨c,r,hd⟩:∃ c r,s.drop i=c::r:=by
  cases hx:s.drop i with
  | nil=>have:=congrArg List.length hx;simp at this;omega
  | cons c r=>exact⟨c,r,rfl⟩
 have hc:s.getD i 0=c:=by
  have:(s.drop i).getD 0 0=c:=by rw[hd];rfl
  simpa[List.getD_eq_getElem?_getD] using this
 have hr:s.drop (i+1)=r:=by rw[← List.drop_drop,hd];rfl
 have htk:s.take (i+1)=s.take i++[c]:=by
  rw[List.take_add,hd];rfl
 have hcur:((s.take (i+1)).drop fr)=(s.take i).drop fr++[c]:=by
  rw[htk,zcx (by simp;omega)]
 rw[hd] at h4
 have hb1:((fr:Int)≤(i:Int))=True:=eq_true (by omega)
 have hne9:l++[(s.take i).drop fr]≠[]:=by simp
 have hb2:((i:Int)≤s.length)=True:=eq_true (by omega)
 by_cases e10:c=10
 case pos =>
  subst e10
  rw[zeT] at h4
  have hcn:((10:UInt8).toNat:Int)=10:=rfl
  simp(disch:=first|omega|assumption) only[hlt',hc,hcn,hb1,hb2,go_sem]
  refine zdw h5 (by omega) (by simp only[maxLen];omega) fun b' cap' H2 hm=>?_
  simp(disch:=first|omega|assumption) only[hc,hcn,wrap64,go_sem]
  refine goJ (hJ (i+1,i+1,l++[(s.take i).drop fr],b',cap') H2 (by simp only;omega) ⟨Al4 _,by simp only;omega,by simp;omega,?_,fun _=>hm⟩) (by simp(disch:=first|omega|assumption) only[zbV hne9,Al5,Al2,Al3,Nat.zero_add,Int.natCast_add,go_sem])
  rw[hr]
  simpa using h4
 by_cases e13:c=13
 case neg =>
  rw[zb3 (by simp[e10,e13])] at h4
  have c10:¬ ((c.toNat:Int)=10):=fun e=>e10 (UInt8.toNat_inj.1 (by simpa using (by omega:c.toNat=10)))
  have c13:¬ ((c.toNat:Int)=13):=fun e=>e13 (UInt8.toNat_inj.1 (by simpa using (by omega:c.toNat=13)))
  simp(disch:=first|omega|assumption) only[hlt',hc,c10,c13,wrap64,go_sem]
  refine goJ (hJ (i+1,fr,l,b,cap) H1 (by simp only;omega) ⟨by simp only;omega,by simp only;omega,by simp only;omega,?_,h5⟩) (by simp(disch:=first|omega|assumption) only[Int.natCast_add,go_sem])
  rw[hr,hcur];exact h4
 subst e13
 have hcn:((13:UInt8).toNat:Int)=13:=rfl
 by_cases h10:r.head?=some 10
 case neg =>
  rw[zew h10] at h4
  by_cases hi2:i+1<s.length
  case neg =>
   have hi2':¬ ((i:Int)+1<s.length):=by omega
   simp(disch:=first|omega|assumption) only[hlt',hc,hcn,hb1,hb2,go_sem]
   refine zdw h5 (by omega) (by simp only[maxLen];omega) fun b' cap' H2 hm=>?_
   simp(disch:=first|omega|assumption) only[hc,hcn,wrap64,hi2',go_sem]
   refine goJ (hJ (i+1,i+1,l++[(s.take i).drop fr],b',cap') H2 (by simp only;omega) ⟨Al4 _,by simp only;omega,by simp;omega,?_,fun _=>hm⟩) (by simp(disch:=first|omega|assumption) only[zbV hne9,Al5,Al2,Al3,Nat.zero_add,Int.natCast_add,go_sem])
   rw[hr]
   simpa using h4
  have hi2':((i:Int)+1<s.length)=True:=eq_true (by omega)
  obtain⟨e,r',hre⟩:∃ e r',r=e::r':=by
   cases r with
   | nil=>have:=congrArg List.length hr;simp at this;omega
   | cons e r'=>exact⟨e,r',rfl⟩
  have hge:s.getD (i+1) 0=e:=by
   have:(s.drop (i+1)).getD 0 0=e:=by rw[hr,hre];rfl
   simpa[List.getD_eq_getElem?_getD] using this
  have hne:e≠10:=by rw[hre] at h10;simpa using h10
  have hgn:¬ ((e.toNat:Int)=10):=fun x=>hne (UInt8.toNat_inj.1 (by simpa using (by omega:e.toNat=10)))
  have hg1:((i:Int)+1).toNat=i+1:=by omega
  simp(disch:=first|omega|assumption) only[hlt',hc,hcn,hb1,hb2,go_sem]
  refine zdw h5 (by omega) (by simp only[maxLen];omega) fun b' cap' H2 hm=>?_
  simp(disch:=first|omega|assumption) only[hc,hcn,wrap64,hi2',hg1,hge,hgn,go_sem]
  refine goJ (hJ (i+1,i+1,l++[(s.take i).drop fr],b',cap') H2 (by simp only;omega) ⟨Al4 _,by simp only;omega,by simp;omega,?_,fun _=>hm⟩) (by simp(disch:=first|omega|assumption) only[zbV hne9,Al5,Al2,Al3,Nat.zero_add,Int.natCast_add,go_sem])
  rw[hr]
  simpa using h4
 obtain⟨r',hre⟩:∃ r',r=10::r':=by
  cases r with
  | nil=>cases h10
  | cons e r'=>simp only[List.head?_cons,Al1] at h10;subst h10;exact⟨r',rfl⟩
 rw[hre,zdQ] at h4
 have hi2:i+1<s.length:=by
  have:=congrArg List.length hr;rw[hre] at this;simp at this;omega
 have hi2':((i:Int)+1<s.length)=True:=eq_true (by omega)
 have hge:s.getD (i+1) 0=10:=by
  have:(s.drop (i+1)).getD 0 0=10:=by rw[hr,hre];rfl
  simpa[List.getD_eq_getElem?_getD] using this
 have hgn:((10:UInt8).toNat:Int)=10:=rfl
 have hg1:((i:Int)+1).toNat=i+1:=by omega
 have hr2:s.drop (i+1+1)=r':=by rw[← List.drop_drop,hr,hre];rfl
 simp(disch:=first|omega|assumption) only[hlt',hc,hcn,hb1,hb2,go_sem]
 refine zdw h5 (by omega) (by simp only[maxLen];omega) fun b' cap' H2 hm=>?_
 simp(disch:=first|omega|assumption) only[hc,hcn,wrap64,hi2',hg1,hge,hgn,go_sem]
 refine goJ (hJ (i+1+1,i+1+1,l++[(s.take i).drop fr],b',cap') H2 (by simp only;omega) ⟨Al4 _,by simp only;omega,by simp;omega,?_,fun _=>hm⟩) (by simp(disch:=first|omega|assumption) only[zbV hne9,Al5,Al2,Al3,Nat.zero_add,Int.natCast_add,go_sem])
 rw[hr2]
 simpa using h4
theorem zgX (c:UInt8):zcV c=true↔(c.toNat:Int)=9∨(c.toNat:Int)=32:=by
 simp only[zcV,ZH,zn]
 constructor
 ·rintro(rfl|rfl)
  ·exact .inl rfl
  ·exact .inr rfl
 ·rintro(h|h)
  ·exact .inl (UInt8.toNat_inj.1 (by simpa using (by omega:c.toNat=9)))
  ·exact .inr (UInt8.toNat_inj.1 (by simpa using (by omega:c.toNat=32)))
theorem ziW {a r:List UInt8} {c:UInt8} (ha:∀ x∈a,zcV x=true) (hc:zcV c=false):Zp (a++c::r)=a.length∧z1 (a++c::r)=false:=by
 refine⟨?_,?_⟩
 ·unfold Zp
  induction a with
  | nil=>simp[hc]
  | cons x a ih=>simp[ha x (.head _),ih fun y hy=>ha y (.tail _ hy)]
 ·simp[z1,hc]
theorem zkr {a:List UInt8} (ha:∀ x∈a,zcV x=true):Zp a=a.length∧z1 a=true:=by
 have hb:z1 a=true:=yf.2 ha
 exact⟨zey hb,hb⟩
theorem Y8 (s:List UInt8) (hs:s.length≤Lim):Pure Tryz.prog 246 [.str s] (.tup [.int .i64 (Zp s),.bool (!z1 s)]):=by
 refine Pure.go ir246 ck246 (Al4 _) fun KP Q hQ=>?_
 have hs':=hs
 simp only[Lim] at hs'
 simp(disch:=first|omega|assumption) only[ir246,go_sem]
 refine goL_range s 7 (fun _:AV=>[]) (fun done rest _ H'=>∀ x∈done,zcV x=true) (.int .i64 0) (by simp(disch:=first|omega|assumption) only[go_sem]) (fun x hx=>nomatch hx) ?_ ?_
 ·rintro y H1 J hdn hlt
  obtain⟨g1,g2⟩:=zkr hdn
  simp(disch:=first|omega|assumption) only[hlt,go_sem]
  exact hQ _ _ _ _ nofun rfl (by simp[tupOf,envOf,AV.strip,AV.strip1,g1,g2])
 ·rintro done c rest y H1 J hd hlt hlt2 hdn hJ
  have hc:s.getD done.length 0=c:=by rw[hd];simp
  cases hb:zcV c with
  | false =>
   obtain⟨g1,g2⟩:=ziW (r:=rest) hdn hb
   rw[← hd] at g1 g2
   have hn:¬ ((c.toNat:Int)=9∨(c.toNat:Int)=32):=fun h=>by rw[(zgX c).2 h] at hb;cases hb
   have n9:¬ ((c.toNat:Int)=9):=fun h=>hn (.inl h)
   have n32:¬ ((c.toNat:Int)=32):=fun h=>hn (.inr h)
   simp(disch:=first|omega|assumption) only[hlt,hc,n9,n32,go_sem]
   exact hQ _ _ _ _ nofun rfl (by simp[tupOf,envOf,AV.strip,AV.strip1,g1,g2])
  | true =>
   have hall:∀ x∈done++[c],zcV x=true:=fun x hx=>by
    rcases List.mem_append.1 hx with h|h
    ·exact hdn x h
    ·simp at h;subst h;exact hb
   rcases(zgX c).1 hb with h9|h32
   ·simp(disch:=first|omega|assumption) only[hlt,hc,h9,wrap64,go_sem]
    exact goJ (hJ (.int .i64 0) _ hall) (by simp(disch:=first|omega|assumption) only[go_sem])
   ·have n9:¬ ((c.toNat:Int)=9):=by omega
    simp(disch:=first|omega|assumption) only[hlt,hc,n9,h32,wrap64,go_sem]
    exact goJ (hJ (.int .i64 0) _ hall) (by simp(disch:=first|omega|assumption) only[go_sem])
theorem zaM (s:List UInt8) (hs:s.length≤Lim):Pure Tryz.prog 218 [.str s] (.bool (z1 s)):=by
 refine Pure.go ir218 ck218 (Al4 _) fun KP Q hQ=>?_
 simp(disch:=first|omega|assumption) only[ir218,go_sem]
 refine goK_pure (Y8 s hs) ?_
 simp(disch:=first|omega|assumption) only[go_sem]
 exact hQ _ _ _ _ nofun rfl (by simp[tupOf,envOf,AV.strip,AV.strip1])
theorem zgq {l a:List (List UInt8)} {x:List UInt8} {b:List (List UInt8)} (h:l=a++x::b) (tl:List AV):((y9 l++tl).drop (0+a.length*1)).take 1=[.str x]:=by
 subst h;simp[y9]
theorem ziz {l a:List (List UInt8)} {x:List UInt8} {b:List (List UInt8)} (h:l=a++x::b) (tl:List AV):0+a.length*1+1≤(y9 l++tl).length:=by
 subst h;simp[y9]
theorem zjW {H:Heap} {b cap:Nat} {l:List (List UInt8)} (h:MsT H b cap l) (hx:∀ s∈l,s.length≤Lim) (hl:l.length≤Lim) :
  ACalls Tryz.prog 217 [.ms b 0 l.length cap] H (zj6 fun v H'=>v=.int .i64 (indM l)∧H'=H):=by
 obtain⟨tl,hb,hc⟩:=h
 refine ACalls.go ir217 ck217 (Al4 _) fun KP Q hQ=>?_
 have hl':=hl
 simp only[Lim] at hl'
 simp(disch:=first|omega|assumption) only[ir217,go_sem]
 refine goL_range l 10 (fun n:Int=>[(3,.int .i64 n)]) (fun done rest n H'=>H'=H∧((done=[]∧n=-1)∨(done≠[]∧zbl rest n=indM l))) (-1) (by simp(disch:=first|omega|assumption) only[go_sem]) ⟨rfl,.inl ⟨rfl,rfl⟩⟩ ?_ ?_
 ·rintro n H1 J ⟨rfl,hi⟩ hlt
  have e:n=indM l:=by
   rcases hi with ⟨h1,h2⟩|⟨_,h2⟩
   ·subst h1;subst h2;rfl
   ·simpa[zbl] using h2
  simp(disch:=first|omega|assumption) only[hlt,go_sem]
  exact hQ _ _ _ _ [_] nofun rfl (Low.refl _) ⟨by simp[tupOf,envOf,AV.strip,AV.strip1,e],rfl⟩
 ·rintro done x rest n H1 J hd hlt hlt2 ⟨rfl,hi⟩ hJ
  have hg:=zgq hd tl
  have hle:=ziz hd tl
  have hxl:=hx x (by rw[hd];simp)
  have hne:done++[x]≠[]:=by simp
  by_cases h0:done.length=0
  ·have h0':((done.length:Int)=0)=True:=eq_true (by omega)
   have hdn:=Zi.1 h0
   have e1:n=-1:=by
    rcases hi with ⟨_,h2⟩|⟨h1,_⟩
    ·exact h2
    ·exact absurd hdn h1
   have e2:rest=l.tail:=by rw[hd,hdn];rfl
   simp(disch:=first|omega|assumption) only[hlt,hb,hg,hle,go_sem]
   refine goK_pure (Y8 x hxl) ?_
   simp(disch:=first|omega|assumption) only[h0',wrap64,go_sem]
   exact goJ (hJ n _ ⟨rfl,.inr ⟨hne,by rw[e1,e2];rfl⟩⟩) (by simp(disch:=first|omega|assumption) only[go_sem])
  have h0':¬ ((done.length:Int)=0):=by omega
  have e1:zbl (x::rest) n=indM l:=by
   rcases hi with ⟨h1,_⟩|⟨_,h2⟩
   ·rw[h1] at h0;exact absurd rfl h0
   ·exact h2
  simp only[zbl] at e1
  cases hbr:z1 x with
  | true =>
   rw[hbr,if_pos rfl] at e1
   simp(disch:=first|omega|assumption) only[hlt,hb,hg,hle,go_sem]
   refine goK_pure (Y8 x hxl) ?_
   simp(disch:=first|omega|assumption) only[h0',hbr,wrap64,go_sem]
   exact goJ (hJ n _ ⟨rfl,.inr ⟨hne,e1⟩⟩) (by simp(disch:=first|omega|assumption) only[go_sem])
  | false =>
   rw[hbr,if_neg (by decide)] at e1
   by_cases hn:n<0
   ·rw[if_pos (.inl hn)] at e1
    simp(disch:=first|omega|assumption) only[hlt,hb,hg,hle,go_sem]
    refine goK_pure (Y8 x hxl) ?_
    simp(disch:=first|omega|assumption) only[h0',hbr,hn,wrap64,go_sem]
    exact goJ (hJ (Zp x) _ ⟨rfl,.inr ⟨hne,e1⟩⟩) (by simp(disch:=first|omega|assumption) only[go_sem])
   ·by_cases hn2:(Zp x:Int)<n
    ·rw[if_pos (.inr hn2)] at e1
     simp(disch:=first|omega|assumption) only[hlt,hb,hg,hle,go_sem]
     refine goK_pure (Y8 x hxl) ?_
     simp(disch:=first|omega|assumption) only[h0',hbr,hn,hn2,wrap64,go_sem]
     exact goJ (hJ (Zp x) _ ⟨rfl,.inr ⟨hne,e1⟩⟩) (by simp(disch:=first|omega|assumption) only[go_sem])
    ·rw[if_neg (by rintro(h|h)<;>contradiction)] at e1
     simp(disch:=first|omega|assumption) only[hlt,hb,hg,hle,go_sem]
     refine goK_pure (Y8 x hxl) ?_
     simp(disch:=first|omega|assumption) only[h0',hbr,hn,hn2,wrap64,go_sem]
     exact goJ (hJ n _ ⟨rfl,.inr ⟨hne,e1⟩⟩) (by simp(disch:=first|omega|assumption) only[go_sem])
theorem zgU (s cur:List UInt8):zP cur s≠[]:=by
 cases s with
 | nil=>simp[zP]
 | cons c s =>
  by_cases h:c=10∨c=13
  ·rcases h with rfl|rfl
   ·rw[zeT];simp
   ·by_cases h10:s.head?=some 10
    ·cases s with
     | nil=>cases h10
     | cons d s=>simp only[List.head?_cons,Al1] at h10;subst h10;rw[zdQ];simp
    ·rw[zew h10];simp
  ·rw[zb3 h];exact zgU s _
termination_by s.length
theorem za9:∀(s cur:List UInt8),((zP cur s).map fun x=>x.length+1).sum≤cur.length+s.length+1
 | [],cur=>by simp[zP]
 | [c],cur=>by simp only[zP];split<;>simp
 | c::d::r,cur=>by
  have h1:=za9 (d::r)
  have h2:=za9 r
  simp only[zP]
  repeat' split
  all_goals simp only[Al2,List.map_cons,List.sum_cons] at h1 ⊢
  ·have:=h1 [];simp only[Al3] at this;omega
  ·have:=h2 [];simp only[Al3] at this;omega
  ·have:=h1 [];simp only[Al3] at this;omega
  ·have:=h1 (cur++[c]);simp only[Al5,Al2,Al3] at this;omega
termination_by s=>s.length
theorem zlF {l:List (List UInt8)} {x:List UInt8} (h:x∈l):x.length+1≤(l.map fun x=>x.length+1).sum:=by
 obtain⟨a,b,rfl⟩:=List.append_of_mem h
 simp;omega
def AtR (cells:List AV) (off:Nat) (cur:List (List UInt8)):Prop:=∃ pre post,cells=pre++(y9 cur++post)∧pre.length=off
theorem AtR.get {cells:List AV} {off:Nat} {cur a:List (List UInt8)} {x:List UInt8} {r:List (List UInt8)} (h:AtR cells off cur) (hc:cur=a++x::r):(cells.drop (off+a.length*1)).take 1=[.str x]∧off+a.length*1+1≤cells.length:=by
 obtain⟨pre,post,rfl,rfl⟩:=h
 subst hc
 refine⟨?_,by simp[y9];omega⟩
 rw[Nat.mul_one,← List.drop_drop,List.drop_left]
 simp[y9]
theorem AtR.le {cells:List AV} {off:Nat} {cur:List (List UInt8)} (h:AtR cells off cur):off+cur.length≤cells.length:=by
 obtain⟨pre,post,rfl,rfl⟩:=h
 simp[y9]
theorem AtR.front {cells:List AV} {b off cap:Nat} {x:List UInt8} {r:List (List UInt8)} (h:AtR cells off (x::r)) (hc:r.length+1≤cap) :
  ∃ off2,msCut 1 b off (r.length+1) cap (some 1) (some ((r.length+1:Nat):Int))=some (.ms b off2 r.length (cap-1))∧AtR cells off2 r:=by
 obtain⟨pre,post,rfl,rfl⟩:=h
 have e:(((r.length+1:Nat):Int)).toNat-(1:Int).toNat=r.length:=by omega
 by_cases h1:cap=1
 ·obtain rfl:r=[]:=Zi.1 (by omega)
  exact⟨pre.length,by simp[msCut,h1],pre,.str x::post,by simp[y9],rfl⟩
 ·refine⟨pre.length+1,?_,pre++[.str x],post,by simp[y9],by simp⟩
  unfold msCut
  simp only
  rw[if_pos (by omega),if_neg (by simpa using h1),e]
  simp
theorem zeb {b off cap len k:Nat} (h:k≤len):msCut 1 b off len cap (some 0) (some (k:Int))=some (.ms b off k cap):=by
 unfold msCut
 simp only
 rw[if_pos (by omega)]
 simp
theorem AtR.back {cells:List AV} {off:Nat} {x:List UInt8} {r:List (List UInt8)} (h:AtR cells off (r++[x])):AtR cells off r:=by
 obtain⟨pre,post,rfl,rfl⟩:=h
 exact⟨pre,.str x::post,by simp[y9],rfl⟩
theorem zeZ:∀(cur:List (List UInt8)) (post:List AV),rowsA 1 cur.length (y9 cur++post)=cT cur
 | [],_=>rfl
 | x::r,post=>by
  have:=zeZ r post
  simp only[y9] at this
  simp[rowsA,y9,cT,AV.strip1,this]
theorem AtR.rows {cells:List AV} {off:Nat} {cur:List (List UInt8)} (h:AtR cells off cur):rowsA 1 cur.length (cells.drop off)=cT cur:=by
 obtain⟨pre,post,rfl,rfl⟩:=h
 rw[List.drop_left,zeZ]
def wL (l:List (List UInt8)):Nat:=(l.map fun x=>x.length+1).sum
theorem zck {l:List (List UInt8)} {x:List UInt8} (h:x∈l):x.length+1≤wL l:=zlF h
theorem zcw:∀ l:List (List UInt8),l.length≤wL l
 | []=>by simp
 | x::r=>by have:=zcw r;simp only[wL,List.map_cons,List.sum_cons,Al2] at this ⊢;omega
theorem zhW (a b:List (List UInt8)):wL (a++b)=wL a+wL b:=by simp[wL]
theorem Zx (x:List UInt8) (b:List (List UInt8)):wL (x::b)=x.length+1+wL b:=by simp[wL]
theorem zfU (n:Nat):∀ l:List (List UInt8),wL (l.map fun s=>s.drop n)≤wL l
 | []=>by simp[wL]
 | x::r=>by have:=zfU n r;simp only[List.map_cons,Zx,Zn];omega
theorem zda:∀ l:List (List UInt8),(Lib.join l [10]).length≤wL l
 | []=>by simp[Lib.join]
 | [x]=>by simp[Lib.join,wL]
 | x::y::r=>by
  have:=zda (y::r)
  have e:Lib.join (x::y::r) [10]=x++10::Lib.join (y::r) [10]:=by simp[Lib.join]
  rw[e,Zx]
  simp only[Al5,Al2];omega
theorem zal (r:List (List UInt8)) (x:List UInt8):zaG (r++[x])=if z1 x then zaG r else r++[x]:=by
 unfold zaG
 rw[List.reverse_append,List.reverse_singleton,List.singleton_append,List.dropWhile_cons]
 split
 ·rfl
 ·simp
theorem ziI {α:Type} {l:List α} (h:l≠[]):∃ r x,l=r++[x]:=⟨l.dropLast,l.getLast h,(List.dropLast_concat_getLast h).symm⟩
theorem zkM (a:List (List UInt8)) (x y:List UInt8) (r:List (List UInt8)) (tl:List AV):splice (y9 (a++x::r)++tl) (0+a.length*1) [.str y]=y9 (a++y::r)++tl:=by
 have e:y9 (a++x::r)++tl=y9 a++(.str x::(y9 r++tl)):=by simp[y9]
 rw[e]
 simp only[splice,Al2,Al3,Nat.zero_add,Nat.mul_one]
 rw[List.take_left' (ZD a),List.drop_append,List.drop_eq_nil_of_le (by rw[ZD];omega),ZD,Nat.add_sub_cancel_left]
 simp[y9]
theorem zl5 (raw:List UInt8) (hs:raw.length≤1099511600000):Pure Tryz.prog 175 [.str raw] (.str (yt raw)):=by
 refine Pure.go ir175 ck175 (Al4 _) fun KP Q hQ=>?_
 have hw0:wL (zw raw)≤raw.length+1:=by have:=za9 raw [];simpa[wL,zw] using this
 obtain⟨x0,T,hL⟩:∃ x T,zw raw=x::T:=by
  cases hx:zw raw with
  | nil=>exact absurd hx (zgU raw [])
  | cons x T=>exact⟨x,T,rfl⟩
 have hLl:=zcw (zw raw)
 simp(disch:=first|omega|assumption) only[ir175,go_sem]
 refine goK_ret (zlt raw (by simp only[Lim];omega)) fun v H1 ⟨b,cap,hv,hm⟩=>?_
 subst hv
 have hm0:=hm
 obtain⟨tl,hb,hcap⟩:=hm
 simp(disch:=first|omega|assumption) only[go_sem]
 refine goK_ret (zjW hm0 (fun s hsm=>by have:=zck hsm;simp only[Lim];omega) (by simp only[Lim];omega)) fun v H2 ⟨hv,hH⟩=>?_
 subst hv;subst hH
 by_cases hn:0<indM (zw raw)
 case neg =>
  have hn0:(indM (zw raw)).toNat=0:=by omega
  obtain⟨D,hDd⟩:∃ D,D=zw raw:=⟨_,rfl⟩
  have hDM:zaz (zw raw)=D:=by
   rw[hDd]
   conv=>lhs;rw[hL]
   simp only[zaz]
   rw[← hL,hn0]
   simp[hL]
  have hDl:D.length=(zw raw).length:=by rw[hDd]
  have hbX:H2 b=some (.cells (y9 D++tl)):=by rw[hDd];exact hb
  obtain⟨cells,hcells⟩:∃ cells,cells=y9 D++tl:=⟨_,rfl⟩
  rw[← hcells] at hbX
  have hwD:wL D≤1099511627777:=by rw[hDd];omega
  rw[← hDd] at hcap
  simp(disch:=first|omega|assumption) only[hn,go_sem]
  refine goL_st (fun x:Nat×Nat×List (List UInt8)=>[(3,.ms b x.1 x.2.2.length x.2.1)]) (fun x H'=>H'=H2∧AtR cells x.1 x.2.2∧x.2.2.length≤x.2.1∧x.2.2.dropWhile z1=D.dropWhile z1∧wL x.2.2≤wL D) (fun x=>x.2.2.length) (0,cap,D) (by simp(disch:=first|omega|assumption) only[hDl,go_sem]) ⟨rfl,⟨[],tl,by rw[hcells,yR],rfl⟩,by simp only;omega,rfl,Al4 _⟩ ?_
  rintro⟨off,cp,cur⟩ H3 J ⟨rfl,ha,hcp,hdw,hw⟩ hJ
  simp only at ha hcp hdw hw
  have stage2:∀ K:Unit,cur=D.dropWhile z1→True:=fun _ _=>trivial
  by_cases hcur:cur=[]
  case pos =>
   subst hcur
   have hD:D.dropWhile z1=[]:=by rw[← hdw];rfl
   simp(disch:=first|omega|assumption) only[Al3,go_sem]
   refine goL_st (fun x:Unit=>[]) (fun x H'=>H'=H3) (fun x=>0) () (by simp(disch:=first|omega|assumption) only[Al3,go_sem]) rfl ?_
   rintro⟨⟩ H4 J4 rfl hJ4
   simp(disch:=first|omega|assumption) only[Al3,go_sem]
   refine goZ_ms hbX (by decide) (by have:=ha.le;simpa using this) ?_
   have hr:=ha.rows
   simp only[Al3] at hr
   simp(disch:=first|omega|assumption) only[hr,go_sem]
   refine goK_pure (Yu [] [10] (by simp[Lib.join]) (by simp)) ?_
   have e:yt raw=Lib.join [] [10]:=by
    unfold yt;rw[hDM,hD];rfl
   simp(disch:=first|omega|assumption) only[go_sem]
   exact hQ _ _ _ _ nofun rfl (by simp[tupOf,envOf,AV.strip,AV.strip1,e])
  obtain⟨x,r,hxr⟩:∃ x r,cur=x::r:=by cases cur with|nil=>exact absurd rfl hcur|cons x r=>exact⟨x,r,rfl⟩
  have hxl:x.length≤Lim:=by have:=zck (l:=cur) (x:=x) (by rw[hxr];simp);simp only[Lim];omega
  obtain⟨hg,hle⟩:=ha.get (a:=[]) (x:=x) (r:=r) hxr
  simp only[Al3,Nat.zero_mul,Nat.add_zero] at hg hle
  have hcl:cur.length=r.length+1:=by rw[hxr];rfl
  have hpos:((0:Int)<(cur.length:Int))=True:=eq_true (by omega)
  have h1l:((1:Int)≤(cur.length:Int))=True:=eq_true (by omega)
  cases hbr:z1 x with
  | true =>
   obtain⟨off2,hcut,hat⟩:=AtR.front (b:=b) (cap:=cp) (by rw[← hxr];exact ha) (by omega)
   rw[← hcl] at hcut
   simp(disch:=first|omega|assumption) only[hpos,hbX,hg,hle,Nat.zero_mul,Nat.add_zero,go_sem]
   refine goK_pure (zaM x hxl) ?_
   simp(disch:=first|omega|assumption) only[hbr,hpos,h1l,hcut,go_sem]
   refine goJ (hJ (off2,cp-1,r) H3 (by simp only;omega) ⟨rfl,hat,by simp only;omega,by rw[← hdw,hxr];simp[hbr],by rw[hxr,Zx] at hw;simp only;omega⟩) (by simp(disch:=first|omega|assumption) only[go_sem])
  | false =>
   have hDc:D.dropWhile z1=cur:=by rw[← hdw,hxr];simp[hbr]
   simp(disch:=first|omega|assumption) only[hpos,hbX,hg,hle,Nat.zero_mul,Nat.add_zero,go_sem]
   refine goK_pure (zaM x hxl) ?_
   simp(disch:=first|omega|assumption) only[hbr,go_sem]
   refine goL_st (fun x:List (List UInt8)=>[(3,.ms b off x.length cp)]) (fun x H'=>H'=H3∧AtR cells off x∧zaG x=zaG cur∧wL x≤wL D∧x.length≤cp) (fun x=>x.length) cur (by simp(disch:=first|omega|assumption) only[go_sem]) ⟨rfl,ha,rfl,hw,hcp⟩ ?_
   rintro u H4 J4 ⟨rfl,ha4,ht4,hw4,hc4⟩ hJ4
   by_cases hu:u=[]
   ·subst hu
    simp(disch:=first|omega|assumption) only[Al3,go_sem]
    refine goZ_ms hbX (by decide) (by have:=ha4.le;simpa using this) ?_
    have hr:=ha4.rows
    simp only[Al3] at hr
    simp(disch:=first|omega|assumption) only[hr,go_sem]
    refine goK_pure (Yu [] [10] (by simp[Lib.join]) (by simp)) ?_
    have e:yt raw=Lib.join [] [10]:=by
     unfold yt;rw[hDM,hDc,← ht4];rfl
    simp(disch:=first|omega|assumption) only[go_sem]
    exact hQ _ _ _ _ nofun rfl (by simp[tupOf,envOf,AV.strip,AV.strip1,e])
   obtain⟨q,y,hqy⟩:=ziI hu
   have hyl:y.length≤Lim:=by have:=zck (l:=u) (x:=y) (by rw[hqy];simp);simp only[Lim];omega
   obtain⟨hg4,hle4⟩:=ha4.get (a:=q) (x:=y) (r:=[]) hqy
   have hul:u.length=q.length+1:=by rw[hqy];simp
   have hpos4:((0:Int)<(u.length:Int))=True:=eq_true (by omega)
   have wq:IntKind.wrap .i64 ((u.length:Int)-1)=(q.length:Int):=by rw[wrap64 (by omega) (by have:=zcw u;omega)];omega
   have h1q:((q.length:Int)<(u.length:Int))=True:=eq_true (by omega)
   have h2q:((q.length:Int)≤(u.length:Int))=True:=eq_true (by omega)
   cases hby:z1 y with
   | true =>
    simp(disch:=first|omega|assumption) only[hpos4,wq,h1q,hbX,hg4,hle4,go_sem]
    refine goK_pure (zaM y hyl) ?_
    have hcut:=zeb (b:=b) (off:=off) (cap:=cp) (show q.length≤u.length by omega)
    simp(disch:=first|omega|assumption) only[hby,wq,h1q,h2q,hcut,go_sem]
    refine goJ (hJ4 q H4 (by omega) ⟨rfl,AtR.back (x:=y) (by rw[← hqy];exact ha4),by rw[← ht4,hqy,zal,hby];rfl,by rw[hqy,zhW] at hw4;omega,by omega⟩) (by simp(disch:=first|omega|assumption) only[go_sem])
   | false =>
    have hlen:=zcw u
    simp(disch:=first|omega|assumption) only[hpos4,wq,h1q,hbX,hg4,hle4,go_sem]
    refine goK_pure (zaM y hyl) ?_
    simp(disch:=first|omega|assumption) only[hby,go_sem]
    refine goZ_ms hbX (by decide) (by have:=ha4.le;omega) ?_
    have hr:=ha4.rows
    have hj:=zda u
    simp(disch:=first|omega|assumption) only[hr,go_sem]
    refine goK_pure (Yu u [10] (by omega) (by omega)) ?_
    have e:yt raw=Lib.join u [10]:=by
     unfold yt;rw[hDM,hDc,← ht4,hqy,zal,hby];rfl
    simp(disch:=first|omega|assumption) only[go_sem]
    exact hQ _ _ _ _ nofun rfl (by simp[tupOf,envOf,AV.strip,AV.strip1,e])
 case pos =>
  obtain⟨n,hne⟩:∃ n:Nat,indM (zw raw)=n:=⟨(indM (zw raw)).toNat,by omega⟩
  have hnl:n≤1099511627777:=by
   by_cases hall:∀ s∈(zw raw).tail,z1 s=true
   ·have:∀(l:List (List UInt8)),(∀ s∈l,z1 s=true)→zbl l (-1)=-1:=by
     intro l
     induction l with
     | nil=>intro _;rfl
     | cons a l ih=>intro h;simp only[zbl,h a (.head _),if_true];exact ih fun s hs=>h s (.tail _ hs)
    have:=this _ hall
    have e:indM (zw raw)=zbl (zw raw).tail (-1):=rfl
    omega
   ·obtain⟨s,hs⟩:=Classical.not_forall.1 hall
    obtain⟨hs,hb2⟩:=Classical.not_imp.1 hs
    have h1:=(zfG (zw raw).tail (-1)).2 s hs (by simpa using hb2)
    have h2:=zck (List.mem_of_mem_tail hs)
    have h3:Zp s≤s.length:=(List.takeWhile_sublist _).length_le
    have e:indM (zw raw)=zbl (zw raw).tail (-1):=rfl
    omega
  have hL2:=hL
  rw[hL] at hLl hw0
  have hcap0:=hcap
  rw[hL] at hb hcap0
  have hn':((0:Int)<(n:Int))=True:=eq_true (by omega)
  rw[hne]
  simp(disch:=first|omega|assumption) only[hn',go_sem]
  refine goL_st (fun x:List (List UInt8)×List (List UInt8)=>[(5,.int .i64 ((x.1.length:Int)+1))]) (fun x H'=>T=x.1++x.2∧H' b=some (.cells (y9 (x0::(x.1.map (fun s=>s.drop n)++x.2))++tl))) (fun x=>x.2.length) ([],T) (by simp(disch:=first|omega|assumption) only[Al3,go_sem]) ⟨rfl,by simpa using hb⟩ ?_
  rintro⟨dn,rest⟩ H3 J3 ⟨hT,hb3⟩ hJ3
  simp only at hT hb3
  have hll:(zw raw).length=dn.length+rest.length+1:=by rw[hL,hT];simp
  cases rest with
  | nil =>
   have hlt:¬ ((dn.length:Int)+1<((zw raw).length:Int)):=by simp at hll;omega
   obtain⟨D,hDd⟩:∃ D,D=x0::T.map fun s=>s.drop n:=⟨_,rfl⟩
   have hDM:zaz (zw raw)=D:=by
    conv=>lhs;rw[hL]
    simp only[zaz]
    rw[← hL,hne,hDd];rfl
   have hDl:D.length=(zw raw).length:=by rw[hDd,hL];simp
   have hbX:H3 b=some (.cells (y9 D++tl)):=by
    rw[hb3,hDd,hT];simp
   obtain⟨cells,hcells⟩:∃ cells,cells=y9 D++tl:=⟨_,rfl⟩
   rw[← hcells] at hbX
   have hwD:wL D≤1099511627777:=by
    have:=zfU n T
    rw[hDd,Zx];rw[Zx] at hw0;omega
   have hcap:D.length+tl.length=cap:=by rw[hDl];exact hcap
   clear hJ3 hb3
   simp(disch:=first|omega|assumption) only[hlt,go_sem]
   refine goL_st (fun x:Nat×Nat×List (List UInt8)=>[(3,.ms b x.1 x.2.2.length x.2.1)]) (fun x H'=>H'=H3∧AtR cells x.1 x.2.2∧x.2.2.length≤x.2.1∧x.2.2.dropWhile z1=D.dropWhile z1∧wL x.2.2≤wL D) (fun x=>x.2.2.length) (0,cap,D) (by simp(disch:=first|omega|assumption) only[hDl,go_sem]) ⟨rfl,⟨[],tl,by rw[hcells,yR],rfl⟩,by simp only;omega,rfl,Al4 _⟩ ?_
   rintro⟨off,cp,cur⟩ H5 J5 ⟨rfl,ha,hcp,hdw,hw⟩ hJ5
   simp only at ha hcp hdw hw
   have stage2:∀ K:Unit,cur=D.dropWhile z1→True:=fun _ _=>trivial
   by_cases hcur:cur=[]
   case pos =>
    subst hcur
    have hD:D.dropWhile z1=[]:=by rw[← hdw];rfl
    simp(disch:=first|omega|assumption) only[Al3,go_sem]
    refine goL_st (fun x:Unit=>[]) (fun x H'=>H'=H5) (fun x=>0) () (by simp(disch:=first|omega|assumption) only[Al3,go_sem]) rfl ?_
    rintro⟨⟩ H4 J4 rfl hJ4
    simp(disch:=first|omega|assumption) only[Al3,go_sem]
    refine goZ_ms hbX (by decide) (by have:=ha.le;simpa using this) ?_
    have hr:=ha.rows
    simp only[Al3] at hr
    simp(disch:=first|omega|assumption) only[hr,go_sem]
    refine goK_pure (Yu [] [10] (by simp[Lib.join]) (by simp)) ?_
    have e:yt raw=Lib.join [] [10]:=by
     unfold yt;rw[hDM,hD];rfl
    simp(disch:=first|omega|assumption) only[go_sem]
    exact hQ _ _ _ _ nofun rfl (by simp[tupOf,envOf,AV.strip,AV.strip1,e])
   obtain⟨x,r,hxr⟩:∃ x r,cur=x::r:=by cases cur with|nil=>exact absurd rfl hcur|cons x r=>exact⟨x,r,rfl⟩
   have hxl:x.length≤Lim:=by have:=zck (l:=cur) (x:=x) (by rw[hxr];simp);simp only[Lim];omega
   obtain⟨hg,hle⟩:=ha.get (a:=[]) (x:=x) (r:=r) hxr
   simp only[Al3,Nat.zero_mul,Nat.add_zero] at hg hle
   have hcl:cur.length=r.length+1:=by rw[hxr];rfl
   have hpos:((0:Int)<(cur.length:Int))=True:=eq_true (by omega)
   have h1l:((1:Int)≤(cur.length:Int))=True:=eq_true (by omega)
   cases hbr:z1 x with
   | true =>
    obtain⟨off2,hcut,hat⟩:=AtR.front (b:=b) (cap:=cp) (by rw[← hxr];exact ha) (by omega)
    rw[← hcl] at hcut
    simp(disch:=first|omega|assumption) only[hpos,hbX,hg,hle,Nat.zero_mul,Nat.add_zero,go_sem]
    refine goK_pure (zaM x hxl) ?_
    simp(disch:=first|omega|assumption) only[hbr,hpos,h1l,hcut,go_sem]
    refine goJ (hJ5 (off2,cp-1,r) H5 (by simp only;omega) ⟨rfl,hat,by simp only;omega,by rw[← hdw,hxr];simp[hbr],by rw[hxr,Zx] at hw;simp only;omega⟩) (by simp(disch:=first|omega|assumption) only[go_sem])
   | false =>
    have hDc:D.dropWhile z1=cur:=by rw[← hdw,hxr];simp[hbr]
    simp(disch:=first|omega|assumption) only[hpos,hbX,hg,hle,Nat.zero_mul,Nat.add_zero,go_sem]
    refine goK_pure (zaM x hxl) ?_
    simp(disch:=first|omega|assumption) only[hbr,go_sem]
    refine goL_st (fun x:List (List UInt8)=>[(3,.ms b off x.length cp)]) (fun x H'=>H'=H5∧AtR cells off x∧zaG x=zaG cur∧wL x≤wL D∧x.length≤cp) (fun x=>x.length) cur (by simp(disch:=first|omega|assumption) only[go_sem]) ⟨rfl,ha,rfl,hw,hcp⟩ ?_
    rintro u H4 J4 ⟨rfl,ha4,ht4,hw4,hc4⟩ hJ4
    by_cases hu:u=[]
    ·subst hu
     simp(disch:=first|omega|assumption) only[Al3,go_sem]
     refine goZ_ms hbX (by decide) (by have:=ha4.le;simpa using this) ?_
     have hr:=ha4.rows
     simp only[Al3] at hr
     simp(disch:=first|omega|assumption) only[hr,go_sem]
     refine goK_pure (Yu [] [10] (by simp[Lib.join]) (by simp)) ?_
     have e:yt raw=Lib.join [] [10]:=by
      unfold yt;rw[hDM,hDc,← ht4];rfl
     simp(disch:=first|omega|assumption) only[go_sem]
     exact hQ _ _ _ _ nofun rfl (by simp[tupOf,envOf,AV.strip,AV.strip1,e])
    obtain⟨q,y,hqy⟩:=ziI hu
    have hyl:y.length≤Lim:=by have:=zck (l:=u) (x:=y) (by rw[hqy];simp);simp only[Lim];omega
    obtain⟨hg4,hle4⟩:=ha4.get (a:=q) (x:=y) (r:=[]) hqy
    have hul:u.length=q.length+1:=by rw[hqy];simp
    have hpos4:((0:Int)<(u.length:Int))=True:=eq_true (by omega)
    have wq:IntKind.wrap .i64 ((u.length:Int)-1)=(q.length:Int):=by rw[wrap64 (by omega) (by have:=zcw u;omega)];omega
    have h1q:((q.length:Int)<(u.length:Int))=True:=eq_true (by omega)
    have h2q:((q.length:Int)≤(u.length:Int))=True:=eq_true (by omega)
    cases hby:z1 y with
    | true =>
     simp(disch:=first|omega|assumption) only[hpos4,wq,h1q,hbX,hg4,hle4,go_sem]
     refine goK_pure (zaM y hyl) ?_
     have hcut:=zeb (b:=b) (off:=off) (cap:=cp) (show q.length≤u.length by omega)
     simp(disch:=first|omega|assumption) only[hby,wq,h1q,h2q,hcut,go_sem]
     refine goJ (hJ4 q H4 (by omega) ⟨rfl,AtR.back (x:=y) (by rw[← hqy];exact ha4),by rw[← ht4,hqy,zal,hby];rfl,by rw[hqy,zhW] at hw4;omega,by omega⟩) (by simp(disch:=first|omega|assumption) only[go_sem])
    | false =>
     have hlen:=zcw u
     simp(disch:=first|omega|assumption) only[hpos4,wq,h1q,hbX,hg4,hle4,go_sem]
     refine goK_pure (zaM y hyl) ?_
     simp(disch:=first|omega|assumption) only[hby,go_sem]
     refine goZ_ms hbX (by decide) (by have:=ha4.le;omega) ?_
     have hr:=ha4.rows
     have hj:=zda u
     simp(disch:=first|omega|assumption) only[hr,go_sem]
     refine goK_pure (Yu u [10] (by omega) (by omega)) ?_
     have e:yt raw=Lib.join u [10]:=by
      unfold yt;rw[hDM,hDc,← ht4,hqy,zal,hby];rfl
     simp(disch:=first|omega|assumption) only[go_sem]
     exact hQ _ _ _ _ nofun rfl (by simp[tupOf,envOf,AV.strip,AV.strip1,e])
  | cons y r =>
   have hlt:((dn.length:Int)+1<((zw raw).length:Int))=True:=eq_true (by simp at hll;omega)
   have hcur:x0::(dn.map (fun s=>s.drop n)++y::r)=(x0::dn.map (fun s=>s.drop n))++y::r:=rfl
   have hg:=zgq hcur tl
   have hle:=ziz hcur tl
   have hal:(x0::dn.map (fun s=>s.drop n)).length=dn.length+1:=by simp
   have hst:∀ z,splice (y9 (x0::(dn.map (fun s=>s.drop n)++y::r))++tl) (0+(dn.length+1)*1) [.str z]=y9 (x0::(dn.map (fun s=>s.drop n)++z::r))++tl:=fun z=>by
    have:=zkM (x0::dn.map (fun s=>s.drop n)) y z r tl
    rw[hal] at this
    exact this
   rw[hal] at hg hle
   have h1:((dn.length:Int)+1).toNat=dn.length+1:=by omega
   have hy0:((0:Int)≤(y.length:Int))=True:=eq_true (by omega)
   have hln:dn.length≤1099511627777:=by omega
   by_cases hmin:(y.length:Int)<(n:Int)
   ·have hdr:y.drop y.length=y.drop n:=by rw[List.drop_length,List.drop_eq_nil_of_le (by omega)]
    simp(disch:=first|omega|assumption) only[hlt,h1,hb3,hg,hle,hst,hmin,hy0,List.drop_length,go_sem]
    refine goJ (hJ3 (dn++[y],r) _ (by simp) ⟨by rw[hT];simp,?_⟩) (by simp(disch:=first|omega|assumption) only[wrap64,Al5,Al2,Al3,Int.natCast_add,go_sem])
    rw[upd_same]
    simp[List.drop_eq_nil_of_le (show y.length≤n by omega)]
   ·have hny:((n:Int)≤(y.length:Int))=True:=eq_true (by omega)
    have hn0:((0:Int)≤(n:Int))=True:=eq_true (by omega)
    simp(disch:=first|omega|assumption) only[hlt,h1,hb3,hg,hle,hst,hmin,hny,hn0,go_sem]
    refine goJ (hJ3 (dn++[y],r) _ (by simp) ⟨by rw[hT];simp,?_⟩) (by simp(disch:=first|omega|assumption) only[wrap64,Al5,Al2,Al3,Int.natCast_add,go_sem])
    rw[upd_same]
    simp
end Go.Proofs.YtaielcdfcgpbiaaGreatDoor
set_option maxRecDepth 1000000
namespace Go.Proofs.YtaielcdfcgpbiaaGreatDoor
open Go.Shelf Go.RowKit Go.Lib
section
variable {P:Program} {ρ:Ren}
def eol:ByteArray:=⟨#[13,10]⟩
theorem zgw (w:World) (k:Nat) (s:ByteArray) (pos:Nat) (ty:TypeId) (hk:w.heap[k]?=some (.stringIter s pos)) (h:pos<s.size) :
  (Instr.next (.pointer (some ⟨k,0,none⟩)) true ty).run P w =
   .ok (.tuple #[.bool true,.int .i64 pos,.int .i32 (Utf8.decode s pos).1]) { w with heap:=w.heap.setIfInBounds k (.stringIter s (pos+(Utf8.decode s pos).2)) }:=by
 simp only[Instr.next,getObj,setObj,Sem.run_bind,Sem.run,hk,Result.andThen,h,if_true]
 simp[goInt]
theorem zeq (w:World) (k:Nat) (s:ByteArray) (pos:Nat) (ty:TypeId) (hk:w.heap[k]?=some (.stringIter s pos)) (h:¬ pos<s.size) :
  (Instr.next (.pointer (some ⟨k,0,none⟩)) true ty).run P w=.ok (.tuple #[.bool false]) w:=by
 simp[Instr.next,getObj,Sem.run,hk,h]
set_option maxHeartbeats 4000000 in
theorem zfF (L:Lays.n152 P ρ) (w:World) :
  Calls P (ρ.f 152) #[.string eol,.int .i32 65533] w fun e w'=>e=.returned (.int .i64 (-1))∧Below w.heap.size w w':=by
 have t3:=L.t3;have a3:=L.a3;have z3:=L.z3;have v3:=L.v3
 have t4:=L.t4;have a4:=L.a4;have z4:=L.z4;have v4:=L.v4
 have t5:=L.t5;have a5:=L.a5;have z5:=L.z5;have v5:=L.v5
 have t9:=L.t9;have a9:=L.a9;have z9:=L.z9;have v9:=L.v9
 have t21:=L.t21;have a21:=L.a21;have z21:=L.z21;have v21:=L.v21
 have hsz:eol.size=2:=rfl
 go_enter L.f152,Body.n152_ntmps ρ
 go_wp2
 go_loopg [5,6] 2 (fun g _ _ wx=>∃ i:Nat,i+g=2∧wx=w.iter eol i)
 case atStart=>exact⟨0,by omega,rfl⟩
 case round =>
  obtain⟨i,hig,rfl⟩:=hrel
  cases gk with
  | zero =>
   obtain rfl:i=2:=by omega
   have hnx:=fun ty=>run_next_end (P:=P) w eol 2 ty (by decide)
   go_wp2
   go_ret
   exact⟨rfl,(Below.refl _ _).alloc (Al4 _) _⟩
  | succ g =>
   obtain⟨x,hx⟩:∃ x:UInt8,eol[i]'(by rw[hsz];omega)=x:=⟨_,rfl⟩
   have hxl:x.toNat=13∨x.toNat=10:=by
    rcases(by omega:i=0∨i=1) with rfl|rfl
    ·left;rw[← hx];rfl
    ·right;rw[← hx];rfl
   have hnx:=fun ty=>run_next_ascii (P:=P) w eol i ty (by rw[hsz];omega) (by rw[hx];omega)
   rw[hx] at hnx
   have hne:¬ ((x.toNat:Int)=65533):=by omega
   clear hx hxl
   go_wp2
   go_roundg g
   case measure=>omega
   case rel=>exact⟨i+1,by omega,rfl⟩
set_option maxHeartbeats 8000000 in
theorem zep (L:Lays.n152 P ρ) (r:Int) (h0:128≤r) (h1:r≠65533) (w:World) :
  Calls P (ρ.f 152) #[.string eol,.int .i32 r] w fun e w'=>e=.returned (.int .i64 (-1))∧Below w.heap.size w w':=by
 have t3:=L.t3;have a3:=L.a3;have z3:=L.z3;have v3:=L.v3
 have t4:=L.t4;have a4:=L.a4;have z4:=L.z4;have v4:=L.v4
 have t5:=L.t5;have a5:=L.a5;have z5:=L.z5;have v5:=L.v5
 have t9:=L.t9;have a9:=L.a9;have z9:=L.z9;have v9:=L.v9
 have t21:=L.t21;have a21:=L.a21;have z21:=L.z21;have v21:=L.v21
 have hsz:eol.size=2:=rfl
 have mixed:=L.mixed
 have u21:=run_underlying L.t21;have u9:=run_underlying L.t9
 have e137:∀ args w,(callFunc (ρ.f 137) args).run P w=.ok (.enter (ρ.f 137) args) w:=enters_of L.f137 (by kernel_rfl) rfl
 have e119:∀ args w,(callFunc (ρ.f 119) args).run P w=.ok (.enter (ρ.f 119) args) w:=enters_of L.f119 (by kernel_rfl) rfl
 have hr1:¬ (r<128):=by omega
 cases hv:Lib.validRune r with
 | false =>
  go_enter L.f152,Body.n152_ntmps ρ
  go_wp2_with (go_at_fn (ρ.f 119);refine(Any.utf8_ValidRune { L with } _ _).mono ?_;rintro e w' ⟨rfl,hw⟩;rw[hw,hv])
  go_ret
  exact⟨rfl,Below.refl _ _⟩
 | true =>
  have hv':Utf8.valid r=true:=by
   unfold Lib.validRune at hv
   unfold Utf8.valid
   simp only[ZH,Al0,zn] at hv ⊢
   omega
  obtain⟨f1,f2,f3⟩:=encode_facts r hv' h0
  clear hv'
  obtain⟨rs,hrs⟩:∃ rs,Utf8.encode r=rs:=⟨_,rfl⟩
  rw[hrs] at f1 f2 f3
  have hconv:∀ w,(convert (ρ.t 21) (ρ.t 9) (.int .i32 r)).run P w=.ok (.string rs) w:=fun w=>by
   rw[run_convert_int_string w _ _ _ _ (by rw[t21];rfl) t9,hrs]
  have hlast:IntKind.i64.wrap ((rs.size:Int)-1)=(rs.size:Int)-1:=wrap_small _ (by omega) (by omega)
  clear hrs
  by_cases h2:rs.size=2
  ·obtain⟨b0,b1,rfl⟩:∃ b0 b1,rs=⟨#[b0,b1]⟩:=by
    obtain⟨⟨l⟩⟩:=rs
    match l,h2 with
    | [x,y],_=>exact⟨x,y,rfl⟩
   have hb:128≤b1.toNat:=f3 (by show 1<2;decide)
   have hz:(⟨#[b0,b1]⟩:ByteArray).size=2:=rfl
   have hne:¬ ((10:Int)=(b1.toNat:Int)):=by omega
   clear f1 f2 f3 h2
   rw[hz] at hlast
   go_enter L.f152,Body.n152_ntmps ρ
   go_wp2_with (go_at_fn (ρ.f 119);refine(Any.utf8_ValidRune { L with } _ _).mono ?_;rintro e w' ⟨rfl,hw⟩;rw[hw,hv])
   go_step3
   go_wp2
   go_loopg [9,10] 0 (fun g s9 s10 wx=>s9=.int .i64 1∧s10=.int .i64 0∧wx=w)
   case atStart=>exact⟨rfl,rfl,rfl⟩
   case round =>
    obtain⟨rfl,rfl,rfl⟩:=hrel
    go_wp2
    go_step3
    have hx:eol[1]'(by decide)=10:=rfl
    have hy:(⟨#[b0,b1]⟩:ByteArray)[1]'(by show 1<2;decide)=b1:=rfl
    go_wp2
    go_quiet_o (fail)
    go_wp2
    have hsl:∀ w,(Instr.slice (ρ.t 9) (.string eol) (some (.int .i64 2)) none none).run P w=.ok (.string ⟨#[]⟩) w:=fun w=>by
     rw[run_slice_string_from_if w _ eol .i64 2 t9]
     rfl
    generalize hW:World.drewN _ _=W
    have HW:Aside (∃ n,W=wr.drewN n):=⟨_,hW.symm⟩
    clear hW
    have hw2:IntKind.i64.wrap 2=2:=by decide
    go_quiet_o (first|(go_at_fn (ρ.f 137);refine Calls.quiet_of_same (Any.strings_IndexByte { L with } _ _ _)))
    go_wp2
    rw[Exit.noGoto_ret]
    go_wp2
    (try rw[Exit.noGoto_ret])
    (try go_wp2)
    go_ret
    obtain⟨n,rfl⟩:=HW.out
    exact⟨rfl,⟨rfl,rfl,rfl,Al4 _,fun _ _=>rfl⟩⟩
  ·have hlt:¬ ((rs.size:Int)-1<2):=by omega
   go_enter L.f152,Body.n152_ntmps ρ
   go_wp2_with (go_at_fn (ρ.f 119);refine(Any.utf8_ValidRune { L with } _ _).mono ?_;rintro e w' ⟨rfl,hw⟩;rw[hw,hv])
   go_step3
   go_wp2
   go_loopg [9,10] 0 (fun g s9 s10 wx=>s9=.int .i64 ((rs.size:Int)-1)∧s10=.int .i64 0∧wx=w)
   case atStart=>exact⟨rfl,rfl,rfl⟩
   case round =>
    obtain⟨rfl,rfl,rfl⟩:=hrel
    go_wp2
    rw[Exit.noGoto_ret];go_wp2
    go_ret
    exact⟨rfl,Below.refl _ _⟩
theorem zf4 (s:ByteArray) (i:Nat) (h:i<s.size):s.data.toList[i]?=some (s.get! i):=by
 rw[Lib.data_getElem? s i h]
 simp[ByteArray.get!,getElem!_pos,h]
 rfl
theorem zcp (s:ByteArray) (pos:Nat) (h:pos<s.size) (ha:128≤(s.get! pos).toNat) :
  128≤(Utf8.decode s pos).1∧1≤(Utf8.decode s pos).2∧pos+(Utf8.decode s pos).2≤s.size∧∀ j,j<(Utf8.decode s pos).2→128≤(s.get! (pos+j)).toNat:=by
 have hn:¬ (s.get! (pos+0)).toNat<128:=by simpa using ha
 have h1:∀(c:Nat),128≤c→128≤(c,1).1∧1≤(c,1).2∧pos+(c,1).2≤s.size∧∀ j,j<(c,1).2→128≤(s.get! (pos+j)).toNat:=fun c hc =>
  ⟨hc,Al4 _,by show pos+1≤s.size;omega,fun j hj=>by
   have hj:j<1:=hj
   obtain rfl:j=0:=by omega
   simpa using ha⟩
 have hb:∀ k,(s.get! (pos+k)).toNat / 64=2→128≤(s.get! (pos+k)).toNat:=fun k hk=>by omega
 simp only[Utf8.decode,hn,if_false,Utf8.runeError]
 split
 ·rename_i hc
  simp only[Al0,beq_iff_eq,zn] at hc
  split
  ·rename_i h2
   refine⟨h2,by show 1≤2;omega,by show pos+2≤s.size;omega,fun j hj=>?_⟩
   have hj:j<2:=hj
   rcases(by omega:j=0∨j=1) with rfl|rfl
   ·simpa using ha
   ·exact hb 1 hc.2.2
  ·exact h1 _ (by decide)
 split
 ·rename_i hc
  simp only[Al0,beq_iff_eq,zn] at hc
  split
  ·rename_i h2
   simp only[Al0,zn] at h2
   refine⟨by have:=h2.1;show 128≤_;simp only;omega,by show 1≤3;omega,by show pos+3≤s.size;omega,fun j hj=>?_⟩
   have hj:j<3:=hj
   rcases(by omega:j=0∨j=1∨j=2) with rfl|rfl|rfl
   ·simpa using ha
   ·exact hb 1 hc.1.2.2
   ·exact hb 2 hc.2.2
  ·exact h1 _ (by decide)
 split
 ·rename_i hc
  simp only[Al0,beq_iff_eq,zn] at hc
  split
  ·rename_i h2
   simp only[Al0,zn] at h2
   refine⟨by have:=h2.1;show 128≤_;simp only;omega,by show 1≤4;omega,by show pos+4≤s.size;omega,fun j hj=>?_⟩
   have hj:j<4:=hj
   rcases(by omega:j=0∨j=1∨j=2∨j=3) with rfl|rfl|rfl|rfl
   ·simpa using ha
   ·exact hb 1 hc.1.1.2.2
   ·exact hb 2 hc.1.2.2
   ·exact hb 3 hc.2.2
  ·exact h1 _ (by decide)
 ·exact h1 _ (by decide)
theorem zlq {s:ByteArray} {i k:Nat} (h:NoAny s.data.toList eol.data.toList i) (hk:i+k≤s.size) (hb:∀ j,j<k→128≤(s.get! (i+j)).toNat):NoAny s.data.toList eol.data.toList (i+k):=fun j b hj hjb=>by
 by_cases hlt:j<i
 ·exact h j b hlt hjb
 ·have h1:=hb (j-i) (by omega)
  rw[show i+(j-i)=j by omega] at h1
  rw[zf4 s j (by omega)] at hjb
  cases hjb
  show ([13,10]:List UInt8).contains _=false
  simp only[List.contains_cons,List.contains_nil,Bool.or_false,Bool.or_eq_false_iff,beq_eq_false_iff_ne]
  refine⟨fun e=>?_,fun e=>?_⟩<;>(rw[e] at h1;simp at h1)
set_option maxHeartbeats 8000000 in
theorem zbB (L:Lays.n153 P ρ) (s:ByteArray) (w:World) (h8:s.size≤8) :
  Calls P (ρ.f 153) #[.string s,.string eol] w fun e w'=>e=.returned (.int .i64 (Lib.indexAny s.data.toList eol.data.toList))∧Below w.heap.size w w':=by
 have hemp:eol.toList.isEmpty=false:=by rw[Lib.toList_data];rfl
 have hn0:(eol.size:Int)=2:=rfl
 have hn1:((eol.size:Int)==1)=false:=rfl
 have h8z:decide ((8:Int)<(s.size:Int))=false:=decide_eq_false (by omega)
 have t3:=L.t3;have a3:=L.a3;have z3:=L.z3;have v3:=L.v3
 have t4:=L.t4;have a4:=L.a4;have z4:=L.z4;have v4:=L.v4
 have t5:=L.t5;have a5:=L.a5;have z5:=L.z5;have v5:=L.v5
 have t9:=L.t9;have a9:=L.a9;have z9:=L.z9;have v9:=L.v9
 have t21:=L.t21;have a21:=L.a21;have z21:=L.z21;have v21:=L.v21
 have e152:∀ args w,(callFunc (ρ.f 152) args).run P w=.ok (.enter (ρ.f 152) args) w:=enters_of L.f152 (by kernel_rfl) rfl
 have e226:∀ args w,(callFunc (ρ.f 226) args).run P w=.ok (.enter (ρ.f 226) args) w:=enters_of L.f226 (by kernel_rfl) rfl
 go_enter L.f153,Body.n153_ntmps ρ
 go_wp2_with (go_at_fn (ρ.f 226);refine(Any.strings_shouldUseASCIISet { L with } _ _).mono ?_;rintro e w' ⟨rfl,hw⟩;rw[hw,h8z])
 go_loopg [9,10] s.size (fun g _ _ wx=>∃ i:Nat,i+g=s.size∧(wx.heap[w.heap.size]?=some (.stringIter s i)∧Below w.heap.size w wx)∧Lib.NoAny s.data.toList eol.data.toList i)
 case atStart=>exact⟨0,by omega,⟨World.iter_heap w s 0,(Below.refl _ _).alloc (Al4 _) _⟩,Lib.NoAny.zero _ _⟩
 case round =>
  obtain⟨i,hig,hst,hno⟩:=hrel
  obtain⟨hit,hbe⟩:=hst
  have HN:Aside (Lib.NoAny s.data.toList eol.data.toList i∧Below w.heap.size w wr):=⟨hno,hbe⟩
  clear hno hbe
  cases gk with
  | zero =>
   obtain rfl:i=s.size:=by omega
   have hnx:=fun ty=>zeq (P:=P) wr w.heap.size s s.size ty hit (by omega)
   go_wp2
   go_ret
   exact⟨by rw[Lib.indexAny_none (by rw[← Lib.size_eq];exact HN.out.1)];rfl,HN.out.2⟩
  | succ g =>
   have hi:i<s.size:=by omega
   have hnx:=fun ty=>zgw (P:=P) wr w.heap.size s i ty hit hi
   have hwlt:w.heap.size<wr.heap.size:=(Yj.1 hit).1
   have hst2:∀ k,({ wr with heap:=wr.heap.setIfInBounds w.heap.size (.stringIter s k) }:World).heap[w.heap.size]?=some (.stringIter s k):=fun k=>by
    show (wr.heap.setIfInBounds w.heap.size (.stringIter s k))[w.heap.size]?=_
    simp[hwlt]
   have hbl2:∀ k,Below w.heap.size w ({ wr with heap:=wr.heap.setIfInBounds w.heap.size (.stringIter s k) }:World):=fun k=>by
    have hb:=HN.out.2
    refine⟨hb.os,hb.tape,hb.output,by simpa using hb.size,fun n hn=>?_⟩
    show (wr.heap.setIfInBounds w.heap.size (.stringIter s k))[n]?=_
    rw[Array.getElem?_setIfInBounds_ne (by omega)]
    exact hb.block n hn
   have HB:Aside ((∀ k,({ wr with heap:=wr.heap.setIfInBounds w.heap.size (.stringIter s k) }:World).heap[w.heap.size]?=some (.stringIter s k))∧(∀ k,Below w.heap.size w ({ wr with heap:=wr.heap.setIfInBounds w.heap.size (.stringIter s k) }:World))∧w.heap.size<wr.heap.size):=⟨hst2,hbl2,hwlt⟩
   clear hst2 hbl2 hwlt hit
   by_cases ha:128≤(s.get! i).toNat
   ·obtain⟨d1,d2,d3,d4⟩:=zcp s i hi ha
    have HD:Aside (1≤(Utf8.decode s i).2∧i+(Utf8.decode s i).2≤s.size∧∀ j,j<(Utf8.decode s i).2→128≤(s.get! (i+j)).toNat):=⟨d2,d3,d4⟩
    clear d2 d3 d4 ha
    generalize hr:(Utf8.decode s i).1=r at hnx d1
    generalize hk:(Utf8.decode s i).2=k at hnx HD
    clear hr hk
    generalize hW:({ wr with heap:=wr.heap.setIfInBounds w.heap.size (.stringIter s (i+k)) }:World)=W at hnx
    have HW:Aside (W.heap[w.heap.size]?=some (.stringIter s (i+k))∧Below w.heap.size w W):=⟨by rw[← hW];exact HB.out.1 _,by rw[← hW];exact HB.out.2.1 _⟩
    clear hW
    have hru:Calls P (ρ.f 152) #[.string eol,.int .i32 (r:Int)] W fun e w'=>e=.returned (.int .i64 (-1))∧Below W.heap.size W w':=by
     by_cases he:(r:Int)=65533
     ·rw[he];exact zfF { L with } W
     ·exact zep { L with } _ (by omega) he W
    go_wp2_with (go_at_fn (ρ.f 152);refine hru.mono ?_;rintro e w' ⟨rfl,hw⟩)
    go_roundg (s.size-(i+k))
    case measure=>have:=HD.out.1;omega
    case rel =>
     obtain⟨g1,g2⟩:=HW.out
     obtain⟨f1,f2,f3⟩:=HD.out
     have hlt:w.heap.size<W.heap.size:=(Yj.1 g1).1
     exact⟨i+k,by omega,⟨by rw[hw.block _ hlt];exact g1,g2.trans (hw.mono (by omega))⟩,zlq HN.out.1 f2 f3⟩
   ·have hx128:(s[i]'hi).toNat<128:=by
     have e:s.get! i=s[i]'hi:=get_at s i hi
     rw[← e];omega
    have hde:Utf8.decode s i=((s[i]'hi).toNat,1):=decode_ascii s i hi hx128
    obtain⟨x,hx⟩:∃ x:UInt8,s[i]'hi=x:=⟨_,rfl⟩
    have hxl:s.data.toList[i]?=some x:=by rw[← hx];exact Lib.data_getElem? s i hi
    have Hx:Aside (s.data.toList[i]?=some x):=hxl
    rw[hde,hx] at hnx
    rw[hx] at hx128
    clear hxl hx ha hde
    have hcon:=Lib.contains_iff_indexByte eol.data.toList x
    have hback:((x.toNat:Int)).toNat.toUInt8=x:=by simp
    generalize hW:({ wr with heap:=wr.heap.setIfInBounds w.heap.size (.stringIter s (i+1)) }:World)=W at hnx
    have HW:Aside (W.heap[w.heap.size]?=some (.stringIter s (i+1))∧Below w.heap.size w W):=⟨by rw[← hW];exact HB.out.1 _,by rw[← hW];exact HB.out.2.1 _⟩
    clear hW
    cases hin:eol.data.toList.contains x
    ·rw[hin] at hcon
     have hlt:¬ ((0:Int)≤Lib.indexByte eol.data.toList x):=of_decide_eq_false hcon.symm
     clear hcon
     go_wp2_with (go_at_fn (ρ.f 152);refine(Any.strings_IndexRune_ascii { L with } _ _ _ (by omega) (by omega)).mono ?_;rintro e w' ⟨rfl,hw⟩;rw[hw,hback])
     go_roundg g
     case measure=>omega
     case rel=>exact⟨i+1,by omega,HW.out,HN.out.1.succ Hx.out hin⟩
    ·rw[hin] at hcon
     have hge:(0:Int)≤Lib.indexByte eol.data.toList x:=of_decide_eq_true hcon.symm
     clear hcon
     go_wp2_with (go_at_fn (ρ.f 152);refine(Any.strings_IndexRune_ascii { L with } _ _ _ (by omega) (by omega)).mono ?_;rintro e w' ⟨rfl,hw⟩;rw[hw,hback])
     go_ret
     exact⟨by rw[Lib.indexAny_hit HN.out.1 Hx.out hin];rfl,HW.out.2⟩
end
end Go.Proofs.YtaielcdfcgpbiaaGreatDoor
namespace Go.Proofs.YtaielcdfcgpbiaaGreatDoor
open Go.Ab Go.Lib
theorem zlD (s:List UInt8) (hs:s.length≤4294967000):Pure Tryz.prog 118 [.str s,.str [13,10]] (.int .i64 (Lib.indexAny s [13,10])):=by
 refine Pure.of_below fun γ w vs ht hv=>?_
 obtain⟨hlv,hr⟩:=hv
 match vs,hlv with
 | [v,u],_ =>
  cases hr 0 _ _ rfl rfl
  cases hr 1 _ _ rfl rfl
  by_cases h8:s.length≤8
  ·exact(zbB (P:=Tryz.prog) Tryz.lays153 ⟨s.toArray⟩ w (by simpa[ByteArray.size] using h8)).mono fun e w' ⟨he,hw⟩=>⟨hw,_,he,.int _ _⟩
  ·refine(Tryz.strings_IndexAny_long (zero_of_info (n:=256) (by kernel_rfl)).1 ⟨s.toArray⟩ ⟨#[13,10]⟩ w (by decide) (by simp only[ByteArray.size,List.size_toArray];omega) (by simp only[ByteArray.size,List.size_toArray];omega) (by decide) (fun j b hj=>?_)).mono fun e w' ⟨he,hw⟩=>⟨?_,_,he,.int _ _⟩
   ·have hj:([13,10]:List UInt8)[j]?=some b:=hj
    match j,hj with
    | 0,hj=>cases hj;decide
    | 1,hj=>cases hj;decide
    | j+2,hj=>simp at hj
   ·rw[hw]
    exact((Go.RowKit.Below.refl _ _).alloc (Al4 _) _).alloc (by simp) _
theorem zjV (r:List UInt8):Lib.indexAny r [13,10]=if r.all yb then -1 else ((r.takeWhile yb).length:Int):=by
 induction r with
 | nil=>rfl
 | cons c r ih =>
  rw[Lib.indexAny,ih]
  by_cases hc:yb c=true
  ·have h1:([13,10]:List UInt8).contains c=false:=by
    unfold yb at hc
    simp at hc
    simp[hc.1,hc.2]
   rw[h1]
   by_cases ha:r.all yb=true
   ·simp[ha,hc]
   ·have h2:¬ (((r.takeWhile yb).length:Int)=-1):=by omega
    simp[ha,hc,h2]
  ·have h1:([13,10]:List UInt8).contains c=true:=by
    unfold yb at hc
    simp at hc
    simp
    rcases Classical.em (c=13) with h|h
    ·exact .inl h
    ·exact .inr (Classical.byContradiction fun h10=>h (hc h10))
   rw[h1]
   simp[hc]
theorem zhb {p:UInt8→Bool}:∀ r:List UInt8,r.all p=true→r.takeWhile p=r
 | [],_=>rfl
 | c::r,h=>by
  simp only[List.all_cons,Al0] at h
  rw[List.takeWhile_cons,if_pos h.1,zhb r h.2]
theorem za6 (c:UInt8) (r:List UInt8):Ze (c::r)=if c=9∨c=10∨c=13∨c=32∨c=44 then 1 else if zeh.isPrefixOf (c::r) then 3 else if c=35 then 1+(r.takeWhile yb).length else 0:=rfl
theorem zn3 (c:UInt8) (r:List UInt8) (hs:(c::r).length≤1000000):Pure Tryz.prog 59 [.str (c::r)] (.int .i64 (Ze (c::r))):=by
 refine Pure.go ir59 ck59 (Al4 _) fun KP Q hQ=>?_
 have hl:((0:Int)<((c::r).length:Int))=True:=eq_true (by simp only[Al2];omega)
 by_cases hw:c=9∨c=10∨c=13∨c=32∨c=44
 ·have e:Ze (c::r)=1:=by rw[za6,if_pos hw]
  rw[e] at hQ
  rcases hw with rfl|rfl|rfl|rfl|rfl
  ·have hc:((9:UInt8).toNat:Int)=9:=rfl
   simp(disch:=first|omega|assumption) only[ir59,hl,List.getD_cons_zero,hc,go_sem]
   exact hQ _ _ _ _ nofun rfl (by simp[tupOf,envOf,AV.strip,AV.strip1])
  ·have hc:((10:UInt8).toNat:Int)=10:=rfl
   simp(disch:=first|omega|assumption) only[ir59,hl,List.getD_cons_zero,hc,go_sem]
   exact hQ _ _ _ _ nofun rfl (by simp[tupOf,envOf,AV.strip,AV.strip1])
  ·have hc:((13:UInt8).toNat:Int)=13:=rfl
   simp(disch:=first|omega|assumption) only[ir59,hl,List.getD_cons_zero,hc,go_sem]
   exact hQ _ _ _ _ nofun rfl (by simp[tupOf,envOf,AV.strip,AV.strip1])
  ·have hc:((32:UInt8).toNat:Int)=32:=rfl
   simp(disch:=first|omega|assumption) only[ir59,hl,List.getD_cons_zero,hc,go_sem]
   exact hQ _ _ _ _ nofun rfl (by simp[tupOf,envOf,AV.strip,AV.strip1])
  ·have hc:((44:UInt8).toNat:Int)=44:=rfl
   simp(disch:=first|omega|assumption) only[ir59,hl,List.getD_cons_zero,hc,go_sem]
   exact hQ _ _ _ _ nofun rfl (by simp[tupOf,envOf,AV.strip,AV.strip1])
 have nat:∀ k:Nat,(c.toNat:Int)=k→k<256→c=UInt8.ofNat k:=fun k h hk=>UInt8.toNat_inj.1 (by rw[UInt8.toNat_ofNat'];omega)
 have g9:¬ ((c.toNat:Int)=9):=fun e=>hw (.inl (nat 9 e (by decide)))
 have g10:¬ ((c.toNat:Int)=10):=fun e=>hw (.inr (.inl (nat 10 e (by decide))))
 have g13:¬ ((c.toNat:Int)=13):=fun e=>hw (.inr (.inr (.inl (nat 13 e (by decide)))))
 have g32:¬ ((c.toNat:Int)=32):=fun e=>hw (.inr (.inr (.inr (.inl (nat 32 e (by decide))))))
 have g44:¬ ((c.toNat:Int)=44):=fun e=>hw (.inr (.inr (.inr (.inr (nat 44 e (by decide))))))
 simp(disch:=first|omega|assumption) only[ir59,hl,List.getD_cons_zero,g9,g10,g13,g32,g44,go_sem]
 refine goK_pure (YJ (c::r) [239,187,191]) ?_
 by_cases hb:([239,187,191]:List UInt8).isPrefixOf (c::r)=true
 ·have e:Ze (c::r)=3:=by rw[za6,if_neg hw];exact if_pos hb
  rw[e] at hQ
  simp(disch:=first|omega|assumption) only[hb,go_sem]
  exact hQ _ _ _ _ nofun rfl (by simp[tupOf,envOf,AV.strip,AV.strip1])
 have hb':([239,187,191]:List UInt8).isPrefixOf (c::r)=false:=Bool.eq_false_iff.2 hb
 by_cases h35:c=35
 ·subst h35
  have e:Ze (35::r)=1+(r.takeWhile yb).length:=by rw[za6,if_neg hw,if_neg (show ¬ (zeh.isPrefixOf _=true) from hb),if_pos rfl]
  rw[e] at hQ
  have hc:((35:UInt8).toNat:Int)=35:=rfl
  simp(disch:=first|omega|assumption) only[hb',hc,go_sem]
  have hp:=zlD (35::r) (by omega)
  rw[zjV] at hp
  have n35:yb 35=true:=rfl
  by_cases ha:r.all yb=true
  ·have e2:=zhb r ha
   have e3:(35::r).all yb=true:=by rw[List.all_cons,n35,ha];rfl
   rw[if_pos e3] at hp
   refine goK_pure hp ?_
   have h0:¬ ((0:Int)≤-1):=by decide
   simp(disch:=first|omega|assumption) only[h0,go_sem]
   exact hQ _ _ _ _ nofun rfl (by simp[tupOf,envOf,AV.strip,AV.strip1,e2,Int.add_comm])
  ·have e3:¬ ((35::r).all yb=true):=by rw[List.all_cons,n35,Bool.true_and];exact ha
   have e2:((35::r).takeWhile yb).length=1+(r.takeWhile yb).length:=by rw[List.takeWhile_cons,if_pos n35];simp;omega
   rw[if_neg e3,e2] at hp
   refine goK_pure hp ?_
   have h0:((0:Int)≤((1+(r.takeWhile yb).length:Nat):Int))=True:=eq_true (by omega)
   simp(disch:=first|omega|assumption) only[h0,go_sem]
   exact hQ _ _ _ _ nofun rfl (by simp[tupOf,envOf,AV.strip,AV.strip1])
 ·have e:Ze (c::r)=0:=by rw[za6,if_neg hw,if_neg (show ¬ (zeh.isPrefixOf _=true) from hb),if_neg h35]
  rw[e] at hQ
  have g35:¬ ((c.toNat:Int)=35):=fun e=>h35 (nat 35 e (by decide))
  simp(disch:=first|omega|assumption) only[hb',g35,go_sem]
  exact hQ _ _ _ _ nofun rfl (by simp[tupOf,envOf,AV.strip,AV.strip1])
theorem zh3 (c:UInt8) (r:List UInt8):yc (c::r)=if (isL c||isD c)=true then 1+yc r else 0:=by
 unfold yc
 rw[List.takeWhile_cons]
 split
 ·simp;omega
 ·rfl
theorem znk (s:List UInt8) (hs:s.length≤Lim) (h0:isL (s.getD 0 0)=true):Pure Tryz.prog 124 [.str s] (.int .i64 (yc s)):=by
 refine Pure.go ir124 ck124 (Al4 _) fun KP Q hQ=>?_
 simp only[Lim] at hs
 have hr1:=zdJ s
 simp(disch:=first|omega|assumption) only[ir124,go_sem]
 refine goL_st (fun n:Nat=>[(3,.int .i64 n)]) (fun n H=>yc s=n+yc (s.drop n)∧n≤s.length) (fun n=>s.length-n) 0 (by simp(disch:=first|omega|assumption) only[go_sem]) ⟨by simp,by omega⟩ ?_
 rintro n H J ⟨hn,hle⟩ hJ
 rcases zbt s n with ⟨h1,h2⟩|⟨h1,h2⟩
 ·have hlt:¬ ((n:Int)<s.length):=by omega
  rw[h1] at hn
  simp only[yc,List.takeWhile_nil,Al3,Nat.add_zero] at hn
  simp(disch:=first|omega|assumption) only[hlt,go_sem]
  exact hQ _ _ _ _ nofun rfl (by simp[tupOf,envOf,AV.strip,AV.strip1,yc,hn])
 ·have hlt:((n:Int)<s.length):=by omega
  rw[h2,zh3] at hn
  simp(disch:=first|omega|assumption) only[hlt,go_sem]
  refine goK_pure (zcY (s.getD n 0)) ?_
  cases hl:isL (s.getD n 0) with
  | true =>
   simp only[hl,Bool.true_or,if_true] at hn
   simp(disch:=first|omega|assumption) only[hl,go_sem]
   exact goJ (hJ (n+1) _ (by omega) ⟨by omega,by omega⟩) (by simp(disch:=first|omega|assumption) only[wrap64,Int.natCast_add,Int.natCast_one,go_sem])
  | false =>
   have hn0:((0:Int)<(n:Int))=True:=eq_true (by
    rcases Nat.eq_zero_or_pos n with e|e
    ·subst e;rw[h0] at hl;cases hl
    ·omega)
   simp(disch:=first|omega|assumption) only[hl,hn0,hlt,go_sem]
   refine goK_pure (zfB (s.getD n 0)) ?_
   cases hd:isD (s.getD n 0) with
   | true =>
    simp only[hl,hd,Bool.or_true,if_true] at hn
    simp(disch:=first|omega|assumption) only[hd,go_sem]
    exact goJ (hJ (n+1) _ (by omega) ⟨by omega,by omega⟩) (by simp(disch:=first|omega|assumption) only[wrap64,Int.natCast_add,Int.natCast_one,go_sem])
   | false =>
    simp only[hl,hd,Bool.or_false,Al7,if_false,Nat.add_zero] at hn
    simp(disch:=first|omega|assumption) only[hd,go_sem]
    exact hQ _ _ _ _ nofun rfl (by simp[tupOf,envOf,AV.strip,AV.strip1,hn])
def zlh (n:Nat) (x:Option (List UInt8×List UInt8)):AV:=match x with
 | some (raw,t)=>.tup [.str (yt raw),.int .i64 ((n-t.length:Nat):Int)]
 | none=>.tup [.str [],.int .i64 0]
theorem zbh:∀(n m:Nat) (raw t:List UInt8),t.length<n→t.length<m→yU n raw t=yU m raw t
 | 0,_,_,_,h,_=>absurd h (Nat.not_lt_zero _)
 | _,0,_,_,_,h=>absurd h (Nat.not_lt_zero _)
 | n+1,m+1,raw,[],_,_=>rfl
 | n+1,m+1,raw,c::r,h1,h2=>by
  simp only[Al2] at h1 h2
  simp only[yU]
  rw[zbh n m (raw++zC) (r.drop 3) (by simp;omega) (by simp;omega),zbh n m (raw++[c]) r (by omega) (by omega)]
theorem zdm:∀(n:Nat) (raw t b t':List UInt8),yU n raw t=some (b,t')→b.length+t'.length≤raw.length+t.length∧t'.length≤t.length
 | 0,_,_,_,_,h=>by cases h
 | n+1,raw,[],_,_,h=>by cases h
 | n+1,raw,c::r,b,t',h=>by
  simp only[yU] at h
  split at h
  ·cases h;simp;omega
  split at h
  ·rename_i h2
   have hl:=Zk _ _ h2
   simp only[zf1,Al2,Al3] at hl
   have:=zdm n _ _ _ _ h
   simp[zC] at this ⊢;omega
  ·have:=zdm n _ _ _ _ h
   simp at this ⊢;omega
theorem zlk (s:List UInt8) (h3:3≤s.length) (hs:s.length≤YU):Pure Tryz.prog 119 [.str s] (zlh s.length (yU (s.length-2) [] (s.drop 3))):=by
 refine Pure.go ir119 ck119 (Al4 _) fun KP Q hQ=>?_
 simp only[YU] at hs
 obtain⟨R,hR⟩:∃ R,yU (s.length-2) [] (s.drop 3)=R:=⟨_,rfl⟩
 rw[hR] at hQ
 simp(disch:=first|omega|assumption) only[ir119,go_sem]
 refine goL_st (fun x:Own×List UInt8×Nat=>[(4,.sl x.1 1 (bytesOf x.2.1)),(5,.int .i64 x.2.2)]) (fun x H=>3≤x.2.2∧x.2.2≤s.length∧x.2.1.length+3≤x.2.2∧yU ((s.drop x.2.2).length+1) x.2.1 (s.drop x.2.2)=R∧Owned H x.1 x.2.1.length 1) (fun x=>s.length-x.2.2) (.nil,[],3) (by simp(disch:=first|omega|assumption) only[bytesOf,go_sem]) ⟨Al4 _,h3,Al4 _,by rw[← hR];simp only[Zn];rw[show s.length-3+1=s.length-2 by omega],rfl⟩ ?_
 rintro⟨o,raw,i⟩ H J ⟨hi3,hi,hrl,hrw,ho⟩ hJ
 simp only at hi3 hi hrl hrw ho
 have hbl:=zu raw
 by_cases hge:s.length≤i
 ·obtain rfl:i=s.length:=by omega
  rw[List.drop_length] at hrw
  have e:R=none:=by rw[← hrw];rfl
  have h1:((s.length:Int)≤(s.length:Int))=True:=eq_true (Int.le_refl _)
  simp(disch:=first|omega|assumption) only[h1,go_sem]
  exact hQ _ _ _ _ nofun rfl (by simp[tupOf,envOf,AV.strip,AV.strip1,zlh,e])
 have hge':¬ ((s.length:Int)≤(i:Int)):=by omega
 have hle:((i:Int)≤(s.length:Int))=True:=eq_true (by omega)
 have hlt:((i:Int)<(s.length:Int))=True:=eq_true (by omega)
 obtain⟨c,r,hd⟩:∃ c r,s.drop i=c::r:=by
  cases hx:s.drop i with
  | nil=>have:=congrArg List.length hx;simp at this;omega
  | cons c r=>exact⟨c,r,rfl⟩
 have hc:s.getD i 0=c:=by
  have:(s.drop i).getD 0 0=c:=by rw[hd];rfl
  simpa[List.getD_eq_getElem?_getD] using this
 have hdl:s.length=i+(r.length+1):=by have:=congrArg List.length hd;simp at this;omega
 rw[hd] at hrw
 simp only[yU] at hrw
 simp(disch:=first|omega|assumption) only[hge',hle,go_sem]
 refine goK_pure (YJ (s.drop i) [34,34,34]) ?_
 rw[hd]
 by_cases p1:zC.isPrefixOf (c::r)=true
 ·have p1':([34,34,34]:List UInt8).isPrefixOf (c::r)=true:=p1
  have hl3:=Zk _ _ p1
  simp only[zC,Al2,Al3] at hl3
  rw[if_pos p1] at hrw
  simp(disch:=first|omega|assumption) only[p1',zc2,go_sem]
  refine goK_pure (zl5 raw (by omega)) ?_
  have e:((s.length-(r.length-2):Nat):Int)=(i:Int)+3:=by omega
  simp(disch:=first|omega|assumption) only[wrap64,go_sem]
  exact hQ _ _ _ _ nofun rfl (by simp[tupOf,envOf,AV.strip,AV.strip1,zlh,← hrw,e])
 have p1':([34,34,34]:List UInt8).isPrefixOf (c::r)=false:=Bool.eq_false_iff.2 p1
 rw[if_neg p1] at hrw
 simp(disch:=first|omega|assumption) only[p1',hle,go_sem]
 refine goK_pure (YJ (s.drop i) [92,34,34,34]) ?_
 rw[hd]
 by_cases p2:zf1.isPrefixOf (c::r)=true
 ·have p2':([92,34,34,34]:List UInt8).isPrefixOf (c::r)=true:=p2
  have hl4:=Zk _ _ p2
  simp only[zf1,Al2,Al3] at hl4
  rw[if_pos p2] at hrw
  simp(disch:=first|omega|assumption) only[p2',go_sem]
  refine goP_ownS (by rw[hbl];exact ho) (by simp[hbl,bytesOf];omega) (by simp[hbl,bytesOf,maxLen];omega) fun o' H' hs2=>?_
  have hdr:s.drop (i+4)=r.drop 3:=by rw[← List.drop_drop,hd];rfl
  simp(disch:=first|omega|assumption) only[wrap64,go_sem]
  refine goJ (hJ (o',raw++zC,i+4) _ (by simp only;omega) ⟨by simp only;omega,by simp only;omega,by simp[zC];omega,?_,?_⟩) (by simp(disch:=first|omega|assumption) only[← ya,Int.natCast_add,zC,yL,go_sem])
  ·simp only
   rw[hdr,← hrw]
   exact zbh _ _ _ _ (Nat.lt_succ_self _) (by simp;omega)
  ·have h:=hs2.own
   simpa[hbl,bytesOf,zC] using h
 ·have p2':([92,34,34,34]:List UInt8).isPrefixOf (c::r)=false:=Bool.eq_false_iff.2 p2
  rw[if_neg p2] at hrw
  simp(disch:=first|omega|assumption) only[p2',hlt,hc,go_sem]
  refine goP_ownS (by rw[hbl];exact ho) (by simp[hbl];omega) (by simp[hbl,maxLen];omega) fun o' H' hs2=>?_
  have hdr:s.drop (i+1)=r:=by rw[← List.drop_drop,hd];rfl
  simp(disch:=first|omega|assumption) only[wrap64,go_sem]
  refine goJ (hJ (o',raw++[c],i+1) _ (by simp only;omega) ⟨by simp only;omega,by simp only;omega,by simp;omega,?_,?_⟩) (by simp(disch:=first|omega|assumption) only[← YP,Int.natCast_add,go_sem])
  ·simp only
   rw[hdr,← hrw]
   rfl
  ·have h:=hs2.own
   simpa[hbl] using h
theorem zmS (c:UInt8):Pure Tryz.prog 121 [.int .u8 (c.toNat:Int)] (.bool (ym c)):=by
 refine Pure.go ir121 ck121 (Al4 _) fun KP Q hQ=>?_
 by_cases h10:c=10
 ·subst h10
  have hc:((10:UInt8).toNat:Int)=10:=rfl
  simp(disch:=first|omega|assumption) only[ir121,hc,go_sem]
  exact hQ _ _ _ _ nofun rfl (by simp[tupOf,envOf,AV.strip,AV.strip1,ym])
 have g10:¬ ((c.toNat:Int)=10):=fun e=>h10 (UInt8.toNat_inj.1 (by show c.toNat=10;omega))
 by_cases h13:c=13
 ·subst h13
  have hc:((13:UInt8).toNat:Int)=13:=rfl
  simp(disch:=first|omega|assumption) only[ir121,hc,go_sem]
  exact hQ _ _ _ _ nofun rfl (by simp[tupOf,envOf,AV.strip,AV.strip1,ym])
 have g13:¬ ((c.toNat:Int)=13):=fun e=>h13 (UInt8.toNat_inj.1 (by show c.toNat=13;omega))
 simp(disch:=first|omega|assumption) only[ir121,g10,g13,go_sem]
 exact hQ _ _ _ _ nofun rfl (by simp[tupOf,envOf,AV.strip,AV.strip1,ym,h10,h13])
theorem zfb (c:UInt8) (r:List UInt8):yC (c::r)=if zC.isPrefixOf (c::r) then (yU (r.length+1) [] (r.drop 2)).map fun x=>(⟨5,yt x.1⟩,x.2)
  else if c=34 then (Z5 ym r).map fun x=>(⟨5,x.1⟩,x.2)
  else if yS.isPrefixOf (c::r) then some (⟨1,yS⟩,r.drop 2)
  else if 0≤Lib.indexByte zap c then some (⟨1,[c]⟩,r)
  else if isL c then some (⟨2,(c::r).take (yc (c::r))⟩,(c::r).drop (yc (c::r)))
  else if (zH (c::r)).1=0 then none
  else if ((c::r).drop (zH (c::r)).1).head?.any fun d=>isL d||isD d||decide (d=46) then none
  else some (⟨(zH (c::r)).2,(c::r).take (zH (c::r)).1⟩,(c::r).drop (zH (c::r)).1):=rfl
def zgn (s:List UInt8):AV:=match yC s with
 | some (x,t)=>.tup [ZE x,.int .i64 ((s.length-t.length:Nat):Int)]
 | none=>.tup [ZE ⟨if s.head?=some 34 then 5 else 0,[]⟩,.int .i64 0]
theorem ZP {s t:List UInt8} {x:Tok} (h:yC s=some (x,t)):zgn s=.tup [ZE x,.int .i64 ((s.length-t.length:Nat):Int)]:=by unfold zgn;rw[h]
theorem Y7 {s:List UInt8} (h:yC s=none):zgn s=.tup [ZE ⟨if s.head?=some 34 then 5 else 0,[]⟩,.int .i64 0]:=by unfold zgn;rw[h]
theorem zn4 (c:UInt8) (r:List UInt8) (hs:(c::r).length≤YU):Pure Tryz.prog 60 [.str (c::r)] (zgn (c::r)):=by
 have hcl:(c::r).length=r.length+1:=rfl
 have hg0:(c::r).getD 0 0=c:=rfl
 have ht1:(c::r).take 1=[c]:=rfl
 have ed:(c::r).drop 3=r.drop 2:=rfl
 have hhd:(c::r).head?=some c:=rfl
 have hquo:=fun h34:c=34=>(by rw[h34];exact zl8 121 (by decide +kernel) ym zmS 34 r (by simpa[h34] using hs):Pure Tryz.prog 120 [.str (c::r),.clo 121 [] []] (zgA ym r))
 have ot:=zfb c r
 have hpl3:zC.isPrefixOf (c::r)=true→c=34:=fun p1=>by
  simp only[zC,List.isPrefixOf,Al0,beq_iff_eq] at p1
  exact p1.1.symm
 generalize hsc:c::r=s at *
 refine Pure.go ir60 ck60 (Al4 _) fun KP Q hQ=>?_
 have hsq:=hs
 simp only[YU] at hs
 have hsl:s.length≤Lim:=by simp only[Lim];omega
 have hl:((0:Int)<(s.length:Int))=True:=eq_true (by omega)
 have hl1:((1:Int)≤(s.length:Int))=True:=eq_true (by omega)
 simp(disch:=first|omega|assumption) only[ir60,go_sem]
 refine goA_intro fun b0 hb0=>?_
 simp(disch:=first|omega|assumption) only[hl,hg0,go_sem]
 refine goK_pure (YJ s [34,34,34]) ?_
 by_cases p1:zC.isPrefixOf s=true
 ·have p1':([34,34,34]:List UInt8).isPrefixOf s=true:=p1
  have hl3:=Zk _ _ p1
  simp only[zC,Al2,Al3] at hl3
  have h34:c=34:=hpl3 p1
  simp(disch:=first|omega|assumption) only[p1',go_sem]
  refine goK_pure (zlk s hl3 hsq) ?_
  have ef:yU (s.length-2) [] (r.drop 2)=yU (r.length+1) [] (r.drop 2):=zbh _ _ _ _ (by rw[Zn];omega) (by rw[Zn];omega)
  rw[ed,ef]
  have e1:yC s=(yU (r.length+1) [] (r.drop 2)).map fun x=>(⟨5,yt x.1⟩,x.2):=by
   rw[ot,if_pos p1]
  cases hx:yU (r.length+1) [] (r.drop 2) with
  | none =>
   rw[hx] at e1
   have e:=Y7 e1
   rw[if_pos (by rw[hhd,h34])] at e
   simp(disch:=first|omega|assumption) only[zlh,go_sem]
   exact hQ _ _ _ [.agg [.int .i64 5,.str []],.int .i64 0] nofun (by simp(disch:=first|omega|assumption) only[ir60,resvs,resv,go_sem]) (by simp[tupOf,AV.strip,AV.strip1,e,ZE])
  | some x =>
   obtain⟨raw,t⟩:=x
   rw[hx] at e1
   have e:=ZP e1
   simp(disch:=first|omega|assumption) only[zlh,go_sem]
   exact hQ _ _ _ [.agg [.int .i64 5,.str (yt raw)],.int .i64 (((s.length-t.length:Nat)):Int)] nofun (by simp(disch:=first|omega|assumption) only[ir60,resvs,resv,go_sem]) (by simp[tupOf,AV.strip,AV.strip1,e,ZE])
 have p1':([34,34,34]:List UInt8).isPrefixOf s=false:=Bool.eq_false_iff.2 p1
 by_cases c34:c=34
 ·have hc:(c.toNat:Int)=34:=by rw[c34];rfl
  simp(disch:=first|omega|assumption) only[p1',hc,go_sem]
  refine goK_pure (hquo c34) ?_
  have e1:yC s=(Z5 ym r).map fun x=>(⟨5,x.1⟩,x.2):=by
   rw[ot,if_neg p1,if_pos c34]
  cases hx:Z5 ym r with
  | none =>
   rw[hx] at e1
   have e:=Y7 e1
   rw[if_pos (by rw[hhd,c34])] at e
   simp(disch:=first|omega|assumption) only[zgA,hx,go_sem]
   exact hQ _ _ _ [.agg [.int .i64 5,.str []],.int .i64 0] nofun (by simp(disch:=first|omega|assumption) only[ir60,resvs,resv,go_sem]) (by simp[tupOf,AV.strip,AV.strip1,e,ZE])
  | some x =>
   obtain⟨b,t⟩:=x
   rw[hx] at e1
   have e:=ZP e1
   rw[hcl] at e
   simp(disch:=first|omega|assumption) only[zgA,hx,go_sem]
   exact hQ _ _ _ [.agg [.int .i64 5,.str b],.int .i64 (((r.length+1-t.length:Nat)):Int)] nofun (by simp(disch:=first|omega|assumption) only[ir60,resvs,resv,go_sem]) (by simp[tupOf,AV.strip,AV.strip1,e,ZE])
 have g34:¬ ((c.toNat:Int)=34):=fun e=>c34 (UInt8.toNat_inj.1 (by show c.toNat=34;omega))
 have hno:¬ (s.head?=some 34):=by rw[hhd];simpa using c34
 simp(disch:=first|omega|assumption) only[p1',g34,go_sem]
 refine goK_pure (YJ s [46,46,46]) ?_
 by_cases p2:yS.isPrefixOf s=true
 ·have p2':([46,46,46]:List UInt8).isPrefixOf s=true:=p2
  have hl3:=Zk _ _ p2
  have hd3:yS.length=3:=rfl
  rw[hd3] at hl3
  have e1:yC s=some (⟨1,yS⟩,r.drop 2):=by
   rw[ot,if_neg p1,if_neg c34,if_pos p2]
  have e:=ZP e1
  have e2:s.length-(r.drop 2).length=3:=by rw[Zn];omega
  rw[e2] at e
  have e3:yS=[46,46,46]:=rfl
  simp(disch:=first|omega|assumption) only[p2',go_sem]
  exact hQ _ _ _ [.agg [.int .i64 1,.str [46,46,46]],.int .i64 3] nofun (by simp(disch:=first|omega|assumption) only[ir60,resvs,resv,go_sem]) (by simp[tupOf,AV.strip,AV.strip1,e,ZE,e3])
 have p2':([46,46,46]:List UInt8).isPrefixOf s=false:=Bool.eq_false_iff.2 p2
 simp(disch:=first|omega|assumption) only[p2',go_sem]
 refine goK_pure (zdn zap c) ?_
 by_cases hm:0≤Lib.indexByte zap c
 ·have e1:yC s=some (⟨1,[c]⟩,r):=by
   rw[ot,if_neg p1,if_neg c34,if_neg p2,if_pos hm]
  have e:=ZP e1
  have e2:s.length-r.length=1:=by omega
  rw[e2] at e
  have e3:=ht1
  simp(disch:=first|omega|assumption) only[hm,hl1,e3,go_sem]
  exact hQ _ _ _ [.agg [.int .i64 1,.str [c]],.int .i64 1] nofun (by simp(disch:=first|omega|assumption) only[ir60,resvs,resv,go_sem]) (by simp[tupOf,AV.strip,AV.strip1,e,ZE])
 simp(disch:=first|omega|assumption) only[hm,go_sem]
 refine goK_pure (zcY c) ?_
 by_cases hL:isL c=true
 ·have e1:yC s=some (⟨2,s.take (yc s)⟩,s.drop (yc s)):=by
   rw[ot,if_neg p1,if_neg c34,if_neg p2,if_neg hm,if_pos hL]
  have e:=ZP e1
  have hwl:=zdJ s
  have e2:s.length-(s.drop (yc s)).length=yc s:=by rw[Zn];omega
  rw[e2] at e
  have h2:((yc s:Int)≤(s.length:Int))=True:=eq_true (by omega)
  simp(disch:=first|omega|assumption) only[hL,go_sem]
  refine goK_pure (znk s hsl (by rw[hg0];exact hL)) ?_
  simp(disch:=first|omega|assumption) only[h2,go_sem]
  exact hQ _ _ _ [.agg [.int .i64 2,.str (s.take (yc s))],.int .i64 (yc s:Int)] nofun (by simp(disch:=first|omega|assumption) only[ir60,resvs,resv,go_sem]) (by simp[tupOf,AV.strip,AV.strip1,e,ZE])
 have hL':isL c=false:=by simpa using hL
 simp(disch:=first|omega|assumption) only[hL',go_sem]
 refine goK_pure (ziB s hsl) ?_
 have hnl:=zcc s
 have hn2:(zH s).1=0→(zH s).2=0:=fun h=>by
  unfold zH at h ⊢
  split at h
  ·rename_i h0;rw[if_pos h0]
  ·rename_i h0;simp only at h;omega
 have e0:yC s=if (zH s).1=0 then none
   else if (s.drop (zH s).1).head?.any fun d=>isL d||isD d||decide (d=46) then none
   else some (⟨(zH s).2,s.take (zH s).1⟩,s.drop (zH s).1):=by
  rw[ot,if_neg p1,if_neg c34,if_neg p2,if_neg hm,if_neg hL]
 generalize hnn:(zH s).1=n at *
 generalize hkk:(zH s).2=k at *
 have hnle:((n:Int)≤(s.length:Int))=True:=eq_true (by omega)
 have fin:(n≠0→yC s=some (⟨k,s.take n⟩,s.drop n))→zgn s=.tup [ZE ⟨k,s.take n⟩,.int .i64 (n:Int)]:=fun h=>by
  by_cases hz:n=0
  ·rw[if_pos hz] at e0
   rw[Y7 e0,if_neg hno,hz,hn2 hz];rfl
  ·rw[ZP (h hz)]
   have e2:s.length-(s.drop n).length=n:=by rw[Zn];omega
   rw[e2]
 have bad:(s.drop n).head?.any (fun d=>isL d||isD d||decide (d=46))=true→zgn s=.tup [ZE ⟨0,[]⟩,.int .i64 0]:=fun h=>by
  have:yC s=none:=by
   rw[e0]
   split
   ·rfl
   ·first|rfl|exact if_pos h
  rw[Y7 this,if_neg hno]
 rcases zbt s n with ⟨h1,h2⟩|⟨h1,h2⟩
 ·have hlt:¬ ((n:Int)<(s.length:Int)):=by omega
  have e:=fin fun hz=>by rw[e0,if_neg hz,h1];rfl
  simp(disch:=first|omega|assumption) only[hlt,hnle,go_sem]
  exact hQ _ _ _ [.agg [.int .i64 k,.str (s.take n)],.int .i64 (n:Int)] nofun (by simp(disch:=first|omega|assumption) only[ir60,resvs,resv,go_sem]) (by simp[tupOf,AV.strip,AV.strip1,e,ZE])
 ·have hlt:((n:Int)<(s.length:Int))=True:=eq_true (by omega)
  generalize hdd:s.getD n 0=d at *
  have ha:(s.drop n).head?.any (fun d=>isL d||isD d||decide (d=46))=(isL d||isD d||decide (d=46)):=by rw[h2];rfl
  rw[ha] at bad
  simp(disch:=first|omega|assumption) only[hlt,hdd,go_sem]
  refine goK_pure (zcY d) ?_
  cases hld:isL d with
  | true =>
   have e:=bad (by rw[hld];rfl)
   simp(disch:=first|omega|assumption) only[hld,go_sem]
   exact hQ _ _ _ [.agg [.int .i64 0,.str []],.int .i64 0] nofun (by simp(disch:=first|omega|assumption) only[ir60,resvs,resv,go_sem]) (by simp[tupOf,AV.strip,AV.strip1,e,ZE])
  | false =>
   simp(disch:=first|omega|assumption) only[hld,hlt,hdd,go_sem]
   refine goK_pure (zfB d) ?_
   cases hdg:isD d with
   | true =>
    have e:=bad (by rw[hdg];simp)
    simp(disch:=first|omega|assumption) only[hdg,go_sem]
    exact hQ _ _ _ [.agg [.int .i64 0,.str []],.int .i64 0] nofun (by simp(disch:=first|omega|assumption) only[ir60,resvs,resv,go_sem]) (by simp[tupOf,AV.strip,AV.strip1,e,ZE])
   | false =>
    by_cases h46:d=46
    ·have e:=bad (by rw[h46];simp)
     have g46:(d.toNat:Int)=46:=by rw[h46];rfl
     simp(disch:=first|omega|assumption) only[hdg,hlt,hdd,g46,go_sem]
     exact hQ _ _ _ [.agg [.int .i64 0,.str []],.int .i64 0] nofun (by simp(disch:=first|omega|assumption) only[ir60,resvs,resv,go_sem]) (by simp[tupOf,AV.strip,AV.strip1,e,ZE])
    ·have g46:¬ ((d.toNat:Int)=46):=fun e=>h46 (UInt8.toNat_inj.1 (by show d.toNat=46;omega))
     have e:=fin fun hz=>by rw[e0,if_neg hz,ha,hld,hdg];simp[h46]
     simp(disch:=first|omega|assumption) only[hdg,hlt,hdd,g46,hnle,go_sem]
     exact hQ _ _ _ [.agg [.int .i64 k,.str (s.take n)],.int .i64 (n:Int)] nofun (by simp(disch:=first|omega|assumption) only[ir60,resvs,resv,go_sem]) (by simp[tupOf,AV.strip,AV.strip1,e,ZE])
theorem zl6 {l:List UInt8} (hne:l≠[]):(zl l).2≤l.length∧(zl l).1≤1114111:=by
 by_cases h:(zl l).2=0
 ·refine⟨by omega,?_⟩
  unfold zl at h ⊢
  split at h
  ·rename_i h0;rw[if_pos h0];decide
  ·split at h
   ·rename_i h0 h1;rw[if_neg h0,if_pos h1];decide
   ·rename_i h0 h1
    have:=zhn h0 h1
    have:=this.pos
    omega
 ·obtain⟨e,h1⟩:=zcF hne h
  have hd:=zhn hne h1
  rw[e]
  refine⟨?_,hd.le⟩
  have hl:=hd.len
  exact hl
theorem zlB (s:List UInt8) (hs:s.length≤Lim):Pure Tryz.prog 58 [.str s] (.bool (zb1 s)):=by
 refine Pure.go ir58 ck58 (Al4 _) fun KP Q hQ=>?_
 have hs':=hs
 simp only[Lim] at hs
 simp(disch:=first|omega|assumption) only[ir58,go_sem]
 refine goL_st (fun i:Nat=>[(3,.int .i64 i)]) (fun i H=>zb1 s=zb1 (s.drop i)∧i≤s.length) (fun i=>s.length-i) 0 (by simp(disch:=first|omega|assumption) only[go_sem]) ⟨by simp,by omega⟩ ?_
 rintro i H J ⟨hn,hle⟩ hJ
 by_cases hlt:i<s.length
 case neg =>
  have hlt':¬ ((i:Int)<s.length):=by omega
  rw[List.drop_of_length_le (by omega)] at hn
  simp(disch:=first|omega|assumption) only[hlt',go_sem]
  exact hQ _ _ _ _ nofun rfl (by simp[tupOf,envOf,AV.strip,AV.strip1,hn,zg8])
 have hlt':((i:Int)<s.length)=True:=eq_true (by omega)
 have hne:s.drop i≠[]:=fun e=>by have:=congrArg List.length e;simp at this;omega
 obtain⟨hk,hcm⟩:=zl6 hne
 rw[Zn] at hk
 simp(disch:=first|omega|assumption) only[hlt',go_sem]
 refine goK_pure (zku s i hlt hs') ?_
 rw[za8 hne,List.drop_drop] at hn
 generalize (zl (s.drop i)).1=c at *
 generalize (zl (s.drop i)).2=k at *
 by_cases hk0:0<k
 ·have hk0':((0:Int)<(k:Int))=True:=eq_true (by omega)
  simp(disch:=first|omega|assumption) only[hk0',go_sem]
  refine goK_pure (znO c hcm) ?_
  cases hsg:YM c with
  | true =>
   rw[hsg] at hn
   simp only[hk0,decide_true,Bool.true_and] at hn
   simp(disch:=first|omega|assumption) only[wrap64,go_sem]
   exact goJ (hJ (i+k) _ (by omega) ⟨hn,by omega⟩) (by simp(disch:=first|omega|assumption) only[Int.natCast_add,go_sem])
  | false =>
   rw[hsg] at hn
   simp only[Bool.false_and,Bool.and_false] at hn
   simp(disch:=first|omega|assumption) only[go_sem]
   exact hQ _ _ _ _ nofun rfl (by simp[tupOf,envOf,AV.strip,AV.strip1,hn])
 ·have hk0':¬ ((0:Int)<(k:Int)):=by omega
  simp only[hk0,decide_false,Bool.false_and] at hn
  simp(disch:=first|omega|assumption) only[hk0',go_sem]
  exact hQ _ _ _ _ nofun rfl (by simp[tupOf,envOf,AV.strip,AV.strip1,hn])
def readA:Except Int (List Tok)→AV
 | .ok l=>.tup [.sl .no 2 (cKs l),.int .i64 0]
 | .error e=>.tup [.sl .no 2 [],.int .i64 e]
def Y6 (l:List Tok) (t:List UInt8):Except Int (List Tok):=yY (t.length+1) l t
theorem zjn (l:List Tok):Y6 l []=.ok l:=rfl
theorem ziZ {l:List Tok} {t:List UInt8} (hne:t≠[]) (h:Ze t≠0):Y6 l t=Y6 l (t.drop (Ze t)):=by
 have h1:=zfD t
 have h2:0<t.length:=List.length_pos_iff.2 hne
 unfold Y6
 conv=>lhs;unfold yY
 rw[if_neg hne,if_pos h]
 exact zas _ _ _ _ (by simp;omega) (Nat.lt_succ_self _)
theorem zhy {l:List Tok} {t:List UInt8} (hne:t≠[]) (h:Ze t=0) (h1:yC t=none):Y6 l t=.error 2:=by
 unfold Y6
 conv=>lhs;unfold yY
 rw[if_neg hne,if_neg (by omega),h1]
theorem zh0 {l:List Tok} {t t':List UInt8} {x:Tok} (hne:t≠[]) (h:Ze t=0) (h1:yC t=some (x,t')):Y6 l t=Y6 (l++[x]) t':=by
 have h2:=zbS h1
 unfold Y6
 conv=>lhs;unfold yY
 rw[if_neg hne,if_neg (by omega),h1]
 exact zas _ _ _ _ (by omega) (Nat.lt_succ_self _)
theorem zdl:∀(n:Nat) (raw t b t':List UInt8),yU n raw t=some (b,t')→t' <:+ t
 | 0,_,_,_,_,h=>by cases h
 | n+1,raw,[],_,_,h=>by cases h
 | n+1,raw,c::r,b,t',h=>by
  simp only[yU] at h
  split at h
  ·cases h;exact(List.drop_suffix _ _).trans (List.suffix_cons ..)
  split at h
  ·exact(zdl n _ _ _ _ h).trans ((List.drop_suffix _ _).trans (List.suffix_cons ..))
  ·exact(zdl n _ _ _ _ h).trans (List.suffix_cons ..)
theorem zgM {s t:List UInt8} {x:Tok} (h:yC s=some (x,t)):t <:+ s:=by
 cases s with
 | nil=>cases h
 | cons c r =>
  simp only[yC] at h
  split at h
  ·cases hr:yU (r.length+1) [] (r.drop 2) with
   | none=>rw[hr] at h;cases h
   | some y =>
    rw[hr] at h
    simp only[z6,Al1,Al8] at h
    obtain⟨_,rfl⟩:=h
    exact(zdl _ _ _ _ _ (show yU _ _ _=some (y.1,y.2) from hr)).trans ((List.drop_suffix _ _).trans (List.suffix_cons ..))
  split at h
  ·cases hr:Z5 ym r with
   | none=>rw[hr] at h;cases h
   | some y =>
    rw[hr] at h
    simp only[z6,Al1,Al8] at h
    obtain⟨_,rfl⟩:=h
    exact(zg4 (t':=y.2) (b:=y.1) hr).1.trans (List.suffix_cons ..)
  split at h
  ·cases h;exact(List.drop_suffix _ _).trans (List.suffix_cons ..)
  split at h
  ·cases h;exact List.suffix_cons ..
  split at h
  ·cases h;exact List.drop_suffix _ _
  split at h
  ·cases h
  split at h
  ·cases h
  ·cases h;exact List.drop_suffix _ _
theorem zli {s t:List UInt8} {x:Tok} (h:yC s=some (x,t)):s.drop (s.length-t.length)=t:=by
 obtain⟨p,hp⟩:=zgM h
 rw[← hp];simp
theorem zn2 {u:List UInt8} (hne:u≠[]) (hs:u.length≤1000000):Pure Tryz.prog 59 [.str u] (.int .i64 (Ze u)):=by
 cases u with
 | nil=>exact absurd rfl hne
 | cons c r=>exact zn3 c r hs
theorem zn1 {u:List UInt8} (hne:u≠[]) (hs:u.length≤YU):Pure Tryz.prog 60 [.str u] (zgn u):=by
 cases u with
 | nil=>exact absurd rfl hne
 | cons c r=>exact zn4 c r hs
theorem zm3 (s:List UInt8) (hs:s.length≤YU):Pure Tryz.prog 24 [.str s] (readA (Za s)):=by
 refine Pure.go ir24 ck24 (Al4 _) fun KP Q hQ=>?_
 have hsq:=hs
 simp only[YU] at hs
 by_cases h8:8192<s.length
 ·have g8:((8192:Int)<(s.length:Int))=True:=eq_true (by omega)
  simp(disch:=first|omega|assumption) only[ir24,g8,go_sem]
  exact hQ _ _ _ _ nofun rfl (by simp[tupOf,envOf,AV.strip,AV.strip1,Za,h8,readA])
 have g8:¬ ((8192:Int)<(s.length:Int)):=by omega
 simp(disch:=first|omega|assumption) only[ir24,g8,go_sem]
 refine goK_pure (zlB s (by simp only[Lim];omega)) ?_
 cases hsb:zb1 s with
 | false =>
  simp(disch:=first|omega|assumption) only[go_sem]
  exact hQ _ _ _ _ nofun rfl (by simp[tupOf,envOf,AV.strip,AV.strip1,Za,h8,hsb,readA])
 | true =>
  have e0:Za s=Y6 [] s:=by unfold Za Y6;rw[if_neg h8,if_pos hsb]
  rw[e0] at hQ
  simp(disch:=first|omega|assumption) only[go_sem]
  refine goL_st (fun x:Own×List Tok×Nat=>[(4,.sl x.1 2 (cKs x.2.1)),(5,.int .i64 x.2.2)]) (fun x H=>x.2.2≤s.length∧x.2.1.length≤x.2.2∧Y6 [] s=Y6 x.2.1 (s.drop x.2.2)∧OwnS Heap.emp .nil H x.1 x.2.1.length 2) (fun x=>s.length-x.2.2) (.nil,[],0) (by simp(disch:=first|omega|assumption) only[cKs,List.map_nil,go_sem]) ⟨Nat.zero_le _,Al4 _,rfl,OwnS.refl rfl⟩ ?_
  rintro⟨o,l,i⟩ H J ⟨hi,hll,hr,hso⟩ hJ
  simp only at hi hll hr hso
  have hcl:=zQ l
  by_cases hlt:i<s.length
  case neg =>
   have hlt':¬ ((i:Int)<s.length):=by omega
   rw[List.drop_of_length_le (by omega),zjn] at hr
   simp(disch:=first|omega|assumption) only[hlt',go_sem]
   exact hQ _ _ _ _ nofun rfl (by simp[tupOf,envOf,AV.strip,AV.strip1,hr,readA,Yn])
  have hlt':((i:Int)<s.length)=True:=eq_true (by omega)
  have hle':((i:Int)≤s.length)=True:=eq_true (by omega)
  obtain⟨u,hd⟩:∃ u,s.drop i=u:=⟨_,rfl⟩
  have hdl:s.length=i+u.length:=by have:=congrArg List.length hd;rw[Zn] at this;omega
  have hne:u≠[]:=fun e=>by rw[e] at hdl;simp at hdl;omega
  rw[hd] at hr
  simp(disch:=first|omega|assumption) only[hlt',hle',hd,go_sem]
  refine goK_pure (zn2 hne (by omega)) ?_
  have hgl:=zfD u
  by_cases hg:Ze u=0
  case neg =>
   have hg':((0:Int)<(Ze u:Int))=True:=eq_true (by omega)
   simp(disch:=first|omega|assumption) only[hg',wrap64,go_sem]
   refine goJ (hJ (o,l,i+Ze u) _ (by simp only;omega) ⟨by simp only;omega,by simp only;omega,?_,hso⟩) (by simp(disch:=first|omega|assumption) only[Int.natCast_add,go_sem])
   simp only
   rw[hr,ziZ hne hg,← List.drop_drop,hd]
  have hg':¬ ((0:Int)<(Ze u:Int)):=by omega
  simp(disch:=first|omega|assumption) only[hg',hle',hd,go_sem]
  refine goK_pure (zn1 hne (by simp only[YU];omega)) ?_
  cases ho:yC u with
  | none =>
   rw[zhy hne hg ho] at hr
   rw[Y7 ho]
   simp(disch:=first|omega|assumption) only[ZE,go_sem]
   refine goA_intro fun b1 hb1=>?_
   simp(disch:=first|omega|assumption) only[go_sem]
   exact hQ _ _ _ _ nofun rfl (by simp[tupOf,envOf,AV.strip,AV.strip1,hr,readA])
  | some x =>
   obtain⟨x,t⟩:=x
   have hlt2:=zbS ho
   have hsf:=zli ho
   rw[zh0 hne hg ho] at hr
   rw[ZP ho]
   have hz:¬ (((u.length-t.length:Nat):Int)=0):=by omega
   simp(disch:=first|omega|assumption) only[ZE,go_sem]
   refine goA_intro fun b1 hb1=>?_
   simp(disch:=first|omega|assumption) only[hz,go_sem]
   refine goP_ownS (by rw[hcl];exact(hso.upd hb1).own) (by simp only[hcl,Al2,Al3];omega) (by simp only[hcl,Al2,Al3,maxLen];omega) fun o' H' hs2=>?_
   simp(disch:=first|omega|assumption) only[wrap64,go_sem]
   refine goJ (hJ (o',l++[x],i+(u.length-t.length)) H' (by simp only;omega) ⟨by simp only;omega,by simp;omega,?_,(hso.upd (x:=.cells [.int .i64 x.k,.str x.s]) hb1).trans (by simpa[hcl] using hs2)⟩) (by simp(disch:=first|omega|assumption) only[← YO,Int.natCast_add,go_sem])
   simp only
   rw[hr,← List.drop_drop,hd,hsf]
end Go.Proofs.YtaielcdfcgpbiaaGreatDoor
namespace Go.Proofs.YtaielcdfcgpbiaaGreatDoor
open Go.Ab
def sp31 : ASp := ⟨27, 2, 5, (.reg [] [⟨some 4, none, .alloc [.int .i64 0], []⟩]), (.seq (.reg [] [⟨some 13, none, .mv (.t 6), []⟩, ⟨some 14, none, .bi .neq .i64 (.t 13) (.k (.int .i64 0)), []⟩])
 (.cond (.t 14) (.seq (.reg [] [⟨some 15, none, .mv (.t 6), []⟩, ⟨none, none, .st 1 (.t 4) (.t 15), []⟩])
 (.ret)) (.skip))), [⟨some 16, none, .mkfn 74 [] [(.t 4)], []⟩], 16, (.seq (.reg [] [⟨some 17, none, .mv (.t 5), []⟩, ⟨some 18, none, .bld [.sl .nil 2 [], .int .i64 0, .int .i64 0] [(0, 1, (.t 17))], []⟩, ⟨some 19, none, .box (.t 18), []⟩, ⟨some 7, none, .mv (.t 19), []⟩])
 (.seq (.reg [] [⟨some 20, none, .mv (.t 1), []⟩, ⟨some 21, none, .mv (.t 7), []⟩, ⟨some 22, none, .callv (.t 20) [(.t 21)], []⟩])
 (.seq (.seq (.reg [] [⟨some 23, none, .mv (.t 7), []⟩, ⟨some 24, none, .call 43 [(.t 23)], []⟩])
 (.cond (.t 24) (.reg [] [⟨some 25, none, .mv (.t 7), []⟩, ⟨some 26, none, .call 75 [(.t 25), (.k (.int .i64 2))], []⟩]) (.skip)))
 (.seq (.reg [] [⟨none, none, .st 1 (.t 4) (.k (.int .i64 0)), []⟩])
 (.ret))))), [.c 4 1 false], some (.reg [] [⟨some 9, none, .mv (.t 0), []⟩, ⟨some 10, none, .call 24 [(.t 9)], []⟩, ⟨some 8, none, .mv (.t 10), []⟩, ⟨some 11, none, .ext (.t 8) 0, []⟩, ⟨some 12, none, .ext (.t 8) 1, []⟩, ⟨some 5, none, .mv (.t 11), []⟩, ⟨some 6, none, .mv (.t 12), []⟩])⟩
theorem ckS31:chkSp Tryz.prog 31 sp31=true:=by kernel_rfl
def df74 : ADfn := ⟨16, 1, 4, [⟨some 1, none, .mv (.t 4), []⟩], (.seq (.reg [] [⟨some 6, none, .mv (.t 1), []⟩, ⟨some 7, none, .tas 120 (.agg [.int .i64 0]) (.t 6), []⟩, ⟨some 5, none, .mv (.t 7), []⟩, ⟨some 8, none, .ext (.t 5) 0, []⟩, ⟨some 9, none, .ext (.t 5) 1, []⟩, ⟨some 2, none, .alloc [.int .i64 0], []⟩, ⟨none, none, .st 1 (.t 2) (.t 8), []⟩, ⟨some 3, none, .mv (.t 9), []⟩])
 (.seq (.reg [] [⟨some 10, none, .mv (.t 3), []⟩])
 (.cond (.t 10) (.reg [] [⟨some 11, none, .fa 0 (.t 2), []⟩, ⟨some 12, none, .ld 1 false (.t 11), []⟩, ⟨none, none, .st 1 (.t 0) (.t 12), []⟩]) (.seq (.reg [] [⟨some 13, none, .mv (.t 1), []⟩, ⟨some 14, none, .ifnil true (.t 13), []⟩])
 (.cond (.t 14) (.reg [] [⟨some 15, none, .mv (.t 1), []⟩, ⟨none, none, .pan (.t 15), []⟩]) (.skip))))))⟩
theorem ckD74:chkDfn Tryz.prog 74 df74=true:=by kernel_rfl
theorem zcz {P:Program} {KP:AV→Heap→Prop} {items:List AItem} {ρ:Env} {H:Heap} {K:Env→Heap→Prop} (h:∀ Q:AExit→Env→Heap→Prop,(∀ ρ' H',K ρ' H'→Q .normal ρ' H')→goI P KP Q items items [] ρ H):awpItems P KP (annot items) ρ H K :=
 h (fun e ρ H=>match e with|.normal=>K ρ H|_=>True) (fun _ _ h=>h)
theorem zay {P:Program} {KP:AV→Heap→Prop} {c:AC} {ρ:Env} {H:Heap} {K:AExit→Env→Heap→Prop} (h:∀(KP':AV→Heap→Prop) (Q:AExit→Env→Heap→Prop),(∀ v H',KP v H'→KP' v H')→(∀ e ρ' H',K e ρ' H'→Q e ρ' H')→goC P KP' Q c [] ρ H):awp P KP c K ρ H :=
 h KP K (fun _ _ h=>h) (fun _ _ _ h=>h)
theorem zne (H:Heap) (r:Nat) (n:Int):ACalls Tryz.prog 75 [.ptr r 0,.int .i64 n] H (fun e H'=>match e with|.ret v=>False|.pan v=>v=yh n∧H'=H):=by
 refine ACalls.goO (R:=fun _ _=>False) (RP:=fun v H'=>v=yh n∧H'=H) ir75 ck75 (Al4 _) fun KP Q hQ hP=>?_
 simp(disch:=first|omega|assumption) only[ir75,go_sem]
 exact hP _ _ H (Low.refl _) ⟨rfl,rfl⟩
theorem znD {H:Heap} {b4:Nat} {Q:Heap→Prop} (hq:∀ b x,H b=none→Q (H.upd b x)):ACallsD Tryz.prog 74 [.ptr b4 0] none H Q:=by
 refine ACallsD.of_fn df74 ckD74 (Al4 _) (zcz fun Q1 hQ1=>?_)
 simp(disch:=first|omega|assumption) only[df74,Option.getD_none,go_sem]
 refine hQ1 _ _ (zay fun KP' Q2 hKP hQ2=>?_)
 simp(disch:=first|omega|assumption) only[df74,go_sem]
 refine goA_intro fun b hb=>?_
 simp(disch:=first|omega|assumption) only[go_sem]
 exact hQ2 _ _ _ (hq _ _ hb)
theorem zmf {H:Heap} {b4:Nat} {c4:List AV} {n:Int} {Q:Heap→Prop} (h4:H b4=some (.cells c4)) (l4:c4.length=1)
  (hq:∀ b x,H b=none→Q ((H.upd b x).upd b4 (.cells [.int .i64 n]))):ACallsD Tryz.prog 74 [.ptr b4 0] (some (yh n)) H Q:=by
 refine ACallsD.of_fn df74 ckD74 (Al4 _) (zcz fun Q1 hQ1=>?_)
 simp(disch:=first|omega|assumption) only[df74,Option.getD_some,yh,go_sem]
 refine hQ1 _ _ (zay fun KP' Q2 hKP hQ2=>?_)
 simp(disch:=first|omega|assumption) only[df74,go_sem]
 refine goA_intro fun b hb=>?_
 have n1:b4≠b:=fun e=>by subst e;rw[hb] at h4;cases h4
 simp(disch:=first|omega|assumption) only[h4,n1,l4,go_sem]
 have e4:splice c4 0 [.int .i64 n]=[.int .i64 n]:=by
  unfold splice;simp only[List.take_zero,yR,Al2,Al3];rw[List.drop_eq_nil_of_le (by rw[l4];decide),List.append_nil]
 rw[e4]
 exact hQ2 _ _ _ (hq _ _ hb)
theorem zct:∀(n:Nat) (l:List Tok) (s:List UInt8) (e:Int),s.length<n→yY n l s=.error e→e=2
 | 0,_,_,_,h,_=>absurd h (Nat.not_lt_zero _)
 | n+1,l,s,e,h,hr=>by
  simp only[yY] at hr
  split at hr
  ·cases hr
  split at hr
  ·rename_i hne hg
   have h1:=zfD s
   have h2:0<s.length:=List.length_pos_iff.2 hne
   exact zct n _ _ _ (by simp;omega) hr
  ·cases ho:yC s with
   | none=>rw[ho] at hr;cases hr;rfl
   | some x =>
    rw[ho] at hr
    have:=zbS (show yC s=some (x.1,x.2) from ho)
    exact zct n _ _ _ (by omega) hr
theorem zcD {s:List UInt8} {e:Int} (h:Za s=.error e):e≠0:=by
 unfold Za at h
 split at h
 ·cases h;decide
 split at h
 ·rw[zct _ _ _ _ (Nat.lt_succ_self _) h];decide
 ·cases h;decide
def zna (Out:Int→Heap→Prop):AEnd→Heap→Prop:=fun e H'=>match e with|.ret v=>∃ n:Int,v=.int .i64 n∧Out n H'|.pan _=>False
theorem res_run {ρ:Env} {H:Heap} {b4:Nat} {e:Int} (r4:ρ 4=.ptr b4 0) (h4:H b4=some (.cells [.int .i64 e])):resvs ρ H sp31.res=some [.int .i64 e]:=by
 simp(disch:=first|omega|assumption) only[sp31,resvs,resv,r4,h4,go_sem]
theorem znM {s:List UInt8} {Hc:Heap} {clo:FuncId} {caps:List AV} (hl:s.length≤YU) (hcal:Program.callable Tryz.prog clo=true) (Out:Int→Heap→Prop)
  (h1:∀ n,Za s=.error n→Out n Hc)
  (h2:∀ L,Za s=.ok L→∀ r,Hc r=none→ACalls Tryz.prog clo (.ptr r 0::caps) (Hc.upd r (prc L [] 0)) (fun e H'=>match e with
   | .ret _=>∃ p t dp,p++t=L∧H' r=some (prc L p dp)∧Out (if t=[] then 0 else 2) H'
   | .pan v=>∃ n,v=yh n∧∀ H,Out n H)) :
  ACalls Tryz.prog 31 [.str s,.clo clo [] caps] Hc (zna Out):=by
 refine ACalls.of_sp sp31 ckS31 (Al4 _) ?_
 unfold awpD
 refine zay fun KP Q hKP hQ=>?_
 simp(disch:=first|omega|assumption) only[sp31,go_sem]
 refine goA_intro fun b4 hb4=>?_
 simp(disch:=first|omega|assumption) only[go_sem]
 refine hQ _ _ _ (zay fun KP1 Q1 hKP1 hQ1=>?_)
 simp(disch:=first|omega|assumption) only[sp31,go_sem]
 refine goK_pure (Pure.low (zm3 s hl)) ?_
 cases hR:Za s with
 | error n =>
  have hn:¬ (n=0):=zcD hR
  simp(disch:=first|omega|assumption) only[readA,go_sem]
  refine hQ1 _ _ _ (zay fun KP2 Q2 hKP2 hQ2=>?_)
  simp(disch:=first|omega|assumption) only[sp31,hn,go_sem]
  refine hQ2 _ _ _ ?_
  show finQ sp31.res (zna Out) .ret _ _
  simp only[finQ]
  rw[res_run (b4:=b4) (e:=n) rfl (upd_same ..)]
  exact⟨Hc,(Low.refl _).upd hb4,n,rfl,h1 n hR⟩
 | ok L =>
  simp(disch:=first|omega|assumption) only[readA,go_sem]
  refine hQ1 _ _ _ (zay fun KP2 Q2 hKP2 hQ2=>?_)
  simp(disch:=first|omega|assumption) only[sp31,go_sem]
  refine hQ2 _ _ _ (zcz fun Q3 hQ3=>?_)
  simp(disch:=first|omega|assumption) only[sp31,go_sem]
  refine hQ3 _ _ ⟨74,_,rfl,by decide +kernel,zay fun KP4 Q4 hKP4 hQ4=>?_⟩
  have fin:∀(ρ1:Env) (H H2:Heap) (e:Int),ρ1 4=.ptr b4 0→H b4=some (.cells [.int .i64 e])→Low H2 H→Out e H2→finS sp31 (zna Out) ρ1 H:=by
   intro ρ1 H H2 e r4 g4 hlow ho
   refine⟨_,res_run (b4:=b4) (e:=e) ?_ g4,H2,hlow,e,rfl,ho⟩
   rw[keep_get,if_pos (by decide)];exact r4
  have hpan:∀(n:Int) (H0 H':Heap) (c4:List AV),Low H0 H'→H0 b4=some (.cells c4)→c4.length=1→(∀ H,Out n H)→KP4 (yh n) H':=by
   intro n H0 H' c4 hlow g4 l4 ho
   exact hKP4 _ _ ⟨H0,hlow,zmf g4 l4 fun b x hb=>fin _ _ Heap.emp n rfl (upd_same ..) (Low.of_sub (sub_emp _)) (ho _)⟩
  simp(disch:=first|omega|assumption) only[sp31,go_sem]
  refine goA_intro fun br hbr=>?_
  have hbr4:br≠b4:=fun e=>by subst e;rw[upd_same] at hbr;cases hbr
  have hbrH:Hc br=none:=by rw[upd_ne hbr4] at hbr;exact hbr
  simp(disch:=first|omega|assumption) only[hcal,go_sem]
  obtain⟨x4,hx4⟩:∃ x4:AObj,x4=.cells [.int .i64 0]:=⟨_,rfl⟩
  have hun:(Hc.upd b4 (.cells [.int .i64 0])).upd br (.cells [.sl .no 2 (cKs L),.int .i64 0,.int .i64 0])=Heap.union (Hc.upd br (prc L [] 0)) (Heap.one b4 x4):=by
   funext c
   by_cases e1:c=br
   ·subst e1;rw[upd_same];simp[Heap.union,Heap.upd,prc]
   ·rw[upd_ne e1]
    by_cases e2:c=b4
    ·subst e2;rw[upd_same];simp[Heap.union,Heap.upd,Heap.one,e1,hb4,hx4]
    ·rw[upd_ne e2];simp[Heap.union,Heap.upd,Heap.one,e1,e2]
  have hd:Heap.Disj (Hc.upd br (prc L [] 0)) (Heap.one b4 x4):=fun c=>by
   by_cases e:c=b4
   ·subst e;exact .inl (by rw[upd_ne (Ne.symm hbr4)];exact hb4)
   ·exact .inr (by simp[Heap.one,e])
  have hc:=ACalls.frame hd (h2 L hR br hbrH)
  rw[hun]
  refine goK_calls hc fun e H' ⟨A',hq,hd',hH'⟩=>?_
  subst hH'
  have hB4:Heap.one b4 x4 b4=some (.cells [.int .i64 0]):=by simp[Heap.one,hx4]
  have hA4:A' b4=none:=by
   rcases hd' b4 with h|h
   ·exact h
   ·rw[hB4] at h;cases h
  have g4:Heap.union A' (Heap.one b4 x4) b4=some (.cells [.int .i64 0]):=by simp[Heap.union,hA4,hB4]
  cases e with
  | pan v =>
   obtain⟨n,hv,ho⟩:=hq
   subst hv
   exact hpan n (Heap.one b4 x4) _ _ (Low.of_sub fun c x hc=>by
    rcases hd' c with h|h
    ·simp[Heap.union,h,hc]
    ·rw[hc] at h;cases h) hB4 rfl ho
  | ret v =>
   obtain⟨p,t,dp,hp,hr,ho⟩:=hq
   have gr:Heap.union A' (Heap.one b4 x4) br=some (prc L p dp):=by simp[Heap.union,hr]
   have lowA:∀ b x (Hx:Heap),(∀ c y,A' c=some y→Hx c=some y)→Hx b=none→Low A' ((Hx.upd b x).upd b4 (.cells [.int .i64 0]))∧Low A' ((Hx.upd b x).upd b4 (.cells [.int .i64 2])):=fun b x Hx hs hb=>by
    have sub:∀ z,∀ c y,A' c=some y→((Hx.upd b x).upd b4 z) c=some y:=fun z c y hcy=>by
     rw[upd_ne (fun e=>by rw[e,hA4] at hcy;cases hcy),upd_ne (fun e=>by rw[← e,hs _ _ hcy] at hb;cases hb)]
     exact hs _ _ hcy
    exact⟨Low.of_sub (sub _),Low.of_sub (sub _)⟩
   have subU:∀ c y,A' c=some y→Heap.union A' (Heap.one b4 x4) c=some y:=fun c y hc=>by simp[Heap.union,hc]
   show goR _ _ _ _ _ _ _ _ _
   simp(disch:=first|omega|assumption) only[go_sem]
   refine goK_ret (zj7 hp gr) fun v5 H5 ⟨hv5,hH5⟩=>?_
   subst hv5;subst hH5
   cases t with
   | nil =>
    simp only[if_true] at ho
    simp(disch:=first|omega|assumption) only[g4,go_sem]
    refine hQ4 _ _ _ ⟨_,Low.refl _,znD fun b y hb=>?_⟩
    have n4:b4≠b:=fun e=>by subst e;rw[upd_same] at hb;cases hb
    refine fin _ _ A' 0 rfl (by rw[upd_ne n4,upd_same]) ?_ ho
    refine Low.of_sub fun c z hcz=>?_
    have hc4:c≠b4:=fun e=>by rw[e,hA4] at hcz;cases hcz
    have hcb:c≠b:=fun e=>by rw[← e,upd_ne hc4,subU _ _ hcz] at hb;cases hb
    rw[upd_ne hcb,upd_ne hc4];exact subU _ _ hcz
   | cons a u =>
    rw[if_neg (by simp)] at ho
    simp(disch:=first|omega|assumption) only[go_sem]
    exact goK_both (zne _ br 2) (fun _ _ h=>h.elim) fun v H6 ⟨h6,h7⟩=>by
     subst h6;subst h7
     exact hKP4 _ _ ⟨_,Low.refl _,zmf g4 rfl fun b y hb=>fin _ _ A' 2 rfl (upd_same ..) (lowA b y _ subU hb).2 ho⟩
def ZG {α:Type} (f:TS→PR α):Prop:=∀ t n,f t=.error n→n≠0
theorem zr {α β:Type} {x:PR α} {f:α→TS→PR β} {e:Int} (h:pb x f=.error e) (hx:∀ n,x=.error n→n≠0) (hf:∀ a t,x=.ok (a,t)→f a t=.error e→e≠0):e≠0:=by
 rcases x with n|⟨a,t⟩
 ·cases h;exact hx _ rfl
 ·exact hf a t rfl h
theorem yE (m:List UInt8):ZG (yp m):=fun t n h=>by
 unfold yp at h
 split at h
 ·cases h
 ·cases h;decide
theorem ye:ZG zZ:=fun t n h=>by
 unfold zZ at h
 split at h
 ·cases h
 ·cases h;decide
theorem zdi (ty:TyD):ZG (YZ ty):=fun t n h=>by
 unfold YZ at h
 split at h<;>cases h
theorem zcf {α:Type} {m:List UInt8} {f:TS→PR α} (hf:ZG f) (hl:∀ t a t',f t=.ok (a,t')→t'.length<t.length):∀(n:Nat) (l:List α) (t:TS) (e:Int),t.length<n→zA m f n l t=.error e→e≠0
 | 0,_,_,_,h,_=>absurd h (Nat.not_lt_zero _)
 | n+1,l,t,e,hn,h=>by
  rw[zA] at h
  split at h
  ·cases h
  ·exact zr h (fun k hk=>hf _ _ hk) fun a t' ha h'=>zcf hf hl n _ _ _ (by have:=hl _ _ _ ha;omega) h'
theorem Y3 {α:Type} {m:List UInt8} {f:TS→PR α} (hf:ZG f) (hl:∀ t a t',f t=.ok (a,t')→t'.length<t.length):ZG (yA m f):=fun t n h =>
 zr h (fun k hk=>hf _ _ hk) fun a t' ha h'=>zcf hf hl _ _ _ _ (Nat.lt_succ_self _) h'
theorem zcl {α:Type} {m:List UInt8} {f:TS→PR α} (hf:ZG f) (hl:∀ t a t',f t=.ok (a,t')→t'.length<t.length):∀(n:Nat) (l:List α) (t:TS) (e:Int),t.length<n→yd m f n l t=.error e→e≠0
 | 0,_,_,_,h,_=>absurd h (Nat.not_lt_zero _)
 | n+1,l,t,e,hn,h=>by
  rw[yd] at h
  split at h
  ·rename_i hp
   have hlt:=zdb hp
   exact zr h (fun k hk=>hf _ _ hk) fun a t' ha h'=>zcl hf hl n _ _ _ (by have:=hl _ _ _ ha;omega) h'
  ·cases h
theorem zfP:∀ k,ZG (YS k)
 | 0=>fun t n h=>by
  rw[ZC,zb7.eq_def] at h
  split at h
  ·cases h;decide
  ·exact zr h (fun k hk=>ye _ _ hk) fun s t1 _ h'=>zdi _ _ _ h'
 | k+1=>fun t n h=>by
  rw[ZC,zb7.eq_def] at h
  split at h
  ·exact zr h (fun e he=>zfP k _ _ he) fun ty t1 _ h'=>zr h' (fun e he=>yE _ _ _ he) fun _ t2 _ h''=>zdi _ _ _ h''
  ·exact zr h (fun k hk=>ye _ _ hk) fun s t1 _ h'=>zdi _ _ _ h'
theorem zd8 {f:TS→PR Val} (hf:ZG f):ZG (zX f):=fun t n h =>
 zr h (fun e he=>ye _ _ he) fun s t1 _ h'=>zr h' (fun e he=>yE _ _ _ he) fun _ t2 _ h2=>zr h2 (fun e he=>hf _ _ he) fun x t3 _ h3=>by cases h3
theorem ziK {fixed:Bool} {sub:Option (TS→PR Val)} (hs:∀ f,sub=some f→ZG f∧GP bV wfV 1 f):ZG (Z8 fixed sub):=fun t n h=>by
 rw[Z8.eq_def] at h
 split at h
 ·cases h
 split at h
 ·cases h
 split at h
 ·cases h
 split at h
 ·cases sub with
  | none=>cases h;decide
  | some f =>
   obtain⟨h1,h2⟩:=hs f rfl
   exact zr h (fun e he=>zcf h1 (h2.lt (by decide)) _ _ _ _ (Nat.lt_succ_self _) he) fun l t' _ h'=>by cases h'
 split at h
 ·cases sub with
  | none=>cases h;decide
  | some f =>
   obtain⟨h1,h2⟩:=hs f rfl
   exact zr h (fun e he=>zcf (zd8 h1) ((y1 h2).lt (by decide)) _ _ _ _ (Nat.lt_succ_self _) he) fun l t' _ h'=>by cases h'
 split at h
 ·cases h;decide
 ·exact zr h (fun e he=>yE _ _ _ he) fun _ t1 _ h1=>zr h1 (fun e he=>ye _ _ he) fun s t2 _ h2=>by cases h2
theorem zf2 (fixed:Bool):∀ k,ZG (yy fixed k)
 | 0=>fun t n h=>ziK (sub:=none) (fun f hf=>by cases hf) t n (by rw[zY] at h;exact h)
 | k+1=>fun t n h=>ziK (sub:=some (yy fixed k)) (fun f hf=>by cases hf;exact⟨zf2 fixed k,Zs fixed k⟩) t n (by rw[zY] at h;exact h)
theorem zjM (fixed:Bool) (k:Nat):ZG (Z9 fixed k):=fun t n h=>by
 unfold Z9 at h
 split at h
 ·exact Y3 (zd8 (zf2 fixed k)) ((y1 (Zs fixed k)).lt (by decide)) _ _ h
 ·cases h
theorem zlH (fixed:Bool) (k:Nat):ZG (zcv fixed k):=fun t n h =>
 zr h (fun e he=>ye _ _ he) fun s t1 _ h1=>zr h1 (fun e he=>zjM _ _ _ _ he) fun a t2 _ h2=>by cases h2
theorem zld (fixed:Bool) (k:Nat):ZG (zaA fixed k):=fun t n h =>
 zcl (zlH fixed k) ((zdc fixed k).lt (by decide)) _ _ _ _ (Nat.lt_succ_self _) h
theorem zkN (p:List UInt8→Bool):∀ l:List (List UInt8),wL (l.dropWhile p)≤wL l
 | []=>Al4 _
 | x::r=>by
  rw[List.dropWhile_cons]
  split
  ·have:=zkN p r;rw[Zx];omega
  ·exact Al4 _
theorem zkf (l:List (List UInt8)):wL l.reverse=wL l:=by
 induction l with
 | nil=>rfl
 | cons x r ih=>rw[List.reverse_cons,zhW,ih,Zx,Zx];simp[wL];omega
theorem zhU (raw:List UInt8):(yt raw).length≤raw.length+1:=by
 have h1:=za9 raw []
 have h2:wL (zaz (zw raw))≤wL (zw raw):=by
  cases hx:zw raw with
  | nil=>exact Al4 _
  | cons x r =>
   simp only[zaz]
   rw[Zx,Zx]
   have:=zfU (indM (x::r)).toNat r
   omega
 unfold yt zaG
 have h3:=zda ((((zaz (zw raw)).dropWhile z1).reverse.dropWhile z1).reverse)
 rw[zkf] at h3
 have h4:=zkN z1 ((zaz (zw raw)).dropWhile z1).reverse
 rw[zkf] at h4
 have h5:=zkN z1 (zaz (zw raw))
 have h6:wL (zw raw)≤raw.length+1:=by simpa[wL,zw] using h1
 omega
theorem zmX {s t:List UInt8} {x:Tok} (h:yC s=some (x,t)):x.s.length+t.length≤s.length+1:=by
 cases s with
 | nil=>cases h
 | cons c r =>
  rw[zfb] at h
  split at h
  ·cases hr:yU (r.length+1) [] (r.drop 2) with
   | none=>rw[hr] at h;cases h
   | some y =>
    rw[hr] at h
    simp only[z6,Al1,Al8] at h
    obtain⟨rfl,rfl⟩:=h
    have h1:=(zdm _ _ _ _ _ (show yU _ _ _=some (y.1,y.2) from hr)).1
    have h2:=zhU y.1
    simp at h1 ⊢
    omega
  split at h
  ·cases hr:Z5 ym r with
   | none=>rw[hr] at h;cases h
   | some y =>
    rw[hr] at h
    simp only[z6,Al1,Al8] at h
    obtain⟨rfl,rfl⟩:=h
    have h1:=zmZ (show Z5 ym r=some (y.1,y.2) from hr)
    simp only[Al2]
    omega
  split at h
  ·rename_i hp
   have hl:=Zk _ _ hp
   have hd3:yS.length=3:=rfl
   rw[hd3] at hl
   cases h;simp[hd3] at hl ⊢;omega
  split at h
  ·cases h;simp;omega
  split at h
  ·cases h;simp;omega
  split at h
  ·cases h
  split at h
  ·cases h
  ·cases h;simp;omega
theorem zfK:∀(n:Nat) (l:List Tok) (s:List UInt8) (l':List Tok),yY n l s=.ok l'→wT l'≤wT l+6*s.length
 | 0,_,_,_,h=>by cases h
 | n+1,l,s,l',h=>by
  simp only[yY] at h
  split at h
  ·cases h;omega
  split at h
  ·have:=zfK n _ _ _ h
   simp at this;omega
  ·cases ho:yC s with
   | none=>rw[ho] at h;cases h
   | some x =>
    rw[ho] at h
    have h1:=zbS (show yC s=some (x.1,x.2) from ho)
    have h2:=zmX (show yC s=some (x.1,x.2) from ho)
    have h3:=zfK n _ _ _ h
    have h4:wT (l++[x.1])=wT l+wK x.1:=by simp[wT]
    rw[h4,wK] at h3
    omega
theorem zh4 {s:List UInt8} {L:List Tok} (h:Za s=.ok L):wT L≤zJ:=by
 obtain⟨h1,_,h3⟩:=zgr h
 have h4:=zfK _ _ _ _ h3
 have e:wT ([]:List Tok)=0:=rfl
 rw[e] at h4
 simp only[zJ];omega
theorem zm4 {b4 b6:Nat} {x y:AObj} (h:b6≠b4):(Heap.emp.upd b4 x).upd b6 y=Heap.union (Heap.one b6 y) (Heap.one b4 x):=by
 funext c
 by_cases e1:c=b6
 ·subst e1;simp[Heap.union,Heap.upd,Heap.one]
 ·by_cases e2:c=b4
  ·subst e2;simp[Heap.union,Heap.upd,Heap.one,e1]
  ·simp[Heap.union,Heap.upd,Heap.one,e1,e2,Heap.emp]
theorem zl1 {b4 b6:Nat} {x y:AObj} (h:b6≠b4):Heap.Disj (Heap.one b6 y) (Heap.one b4 x):=fun c=>by
 by_cases e:c=b4
 ·subst e;exact .inl (by simp[Heap.one,Ne.symm h])
 ·exact .inr (by simp[Heap.one,e])
theorem zns {A:Heap} {b4:Nat} {x:AObj} (h:Heap.Disj A (Heap.one b4 x)):Heap.union A (Heap.one b4 x) b4=some x:=by
 have hB:Heap.one b4 x b4=some x:=by simp[Heap.one]
 rcases h b4 with h|h
 ·simp[Heap.union,h,hB]
 ·rw[hB] at h;cases h
theorem zod {A B:Heap} {b:Nat} {x:AObj} (h:A b=some x):Heap.union A B b=some x:=by simp[Heap.union,h]
end Go.Proofs.YtaielcdfcgpbiaaGreatDoor

namespace Go.Proofs.YtaielcdfcgpbiaaGreatDoor
open Go.Ab
theorem zje (a b:List DirD) (ha:bDs a≤Lim):Pure Tryz.prog 109 [.sl .no 2 (cDs a),.sl .no 2 (cDs b)] (.bool (eqd a b)):=by
 refine Pure.go ir109 ck109 (Al4 _) fun KP Q hQ=>?_
 have h1:=zc6 a
 have h2:=zc6 b
 have hla:=ziM a
 simp only[Lim] at ha
 by_cases hl:a.length=b.length
 case neg =>
  have hl':¬ ((a.length:Int)=b.length):=by omega
  have hne:a≠b:=fun e=>hl (by rw[e])
  simp(disch:=first|omega|assumption) only[ir109,h1,h2,hl',go_sem]
  exact hQ _ _ _ _ nofun rfl (by simp[tupOf,envOf,AV.strip,AV.strip1,zo hne])
 have hl':((a.length:Int)=b.length)=True:=eq_true (by omega)
 simp(disch:=first|omega|assumption) only[ir109,h1,h2,hl',go_sem]
 refine goL_range a 5 (fun _:Unit=>[]) (fun done rest n H=>b.take done.length=done) () (by simp(disch:=first|omega|assumption) only[go_sem]) rfl ?_ ?_
 ·rintro n H J hp hlt
  simp(disch:=first|omega|assumption) only[h1,hlt,go_sem]
  exact hQ _ _ _ _ nofun rfl (by simp[tupOf,envOf,AV.strip,AV.strip1,zU (zbZ hl hp)])
 ·rintro done x rest n H J hd hlt _ hp hJ
  obtain⟨y,r,hb⟩:=zb8 hd hl hp
  have g1:=zfN hd
  have g2:=zfN hb
  have hlt2:(done.length:Int)<b.length:=by omega
  have hbm:=ziH done x rest
  rw[← hd] at hbm
  have hst:=zaH hb
  have hne:x≠y→a≠b:=zdY hd hb
  obtain⟨s,v⟩:=x
  obtain⟨t,u⟩:=y
  simp only[bD] at hbm
  by_cases hs:s=t
  case neg =>
   have hne2:=hne (by simp[hs])
   simp(disch:=first|omega|assumption) only[h1,h2,hlt,hlt2,g1,g2,hs,cD,go_sem]
   exact hQ _ _ _ _ nofun rfl (by simp[tupOf,envOf,AV.strip,AV.strip1,zo hne2])
  simp(disch:=first|omega|assumption) only[h1,h2,hlt,hlt2,g1,g2,hs,cD,go_sem]
  refine goK_pure (zky v u (by simp only[Lim];omega)) ?_
  by_cases hv:v=u
  ·simp(disch:=first|omega|assumption) only[zU hv,go_sem]
   exact goJ (hJ () _ (by rw[hs,hv];exact hst)) (by simp(disch:=first|omega|assumption) only[wrap64,go_sem])
  ·have:=hne (by simp[hv])
   simp(disch:=first|omega|assumption) only[zo hv,go_sem]
   exact hQ _ _ _ _ nofun rfl (by simp[tupOf,envOf,AV.strip,AV.strip1,zo this])
theorem zgm {P:Tok→Prop} {a b:Tok} {l:List Tok} (ha:P a) (hb:P b) (hl:∀ x∈l,P x):∀ x∈a::(l++[b]),P x:=fun x hx=>by
 rcases List.mem_cons.1 hx with rfl|hx
 ·exact ha
 rcases List.mem_append.1 hx with hx|hx
 ·exact hl x hx
 ·rw[List.mem_singleton] at hx;subst hx;exact hb
mutual
theorem zf0:∀ v:Val,Ys zm v=true→wfV v→∀ x∈zM v,zi x=true
 | .mk k n s l m,h,hw=>by
  simp only[Ys] at h
  simp only[zM]
  have rm:∀ c:UInt8,zcG [c]=true→zi ⟨1,[c]⟩=true:=fun c hc=>by simp[zi,hc]
  have rw2:∀ s:List UInt8,zm s=true→zi ⟨2,s⟩=true:=fun s hs=>by simp[zi,hs]
  by_cases k6:k=6
  ·subst k6
   simp only[if_true,Al0] at h
   simp only[show ¬ ((6:Int)=0) by decide,show ¬ ((6:Int)=1) by decide,show ¬ ((6:Int)=2) by decide,show ¬ ((6:Int)=3) by decide,show ¬ ((6:Int)=4) by decide,show ¬ ((6:Int)=5) by decide,show ¬ ((6:Int)=8) by decide,if_true,if_false]
   exact zgm (P:=fun x=>zi x=true) (rm 91 (by decide)) (rm 93 (by decide)) (zgt l h.1 hw.2.1)
  by_cases k7:k=7
  ·subst k7
   simp only[show ¬ ((7:Int)=6) by decide,if_true,if_false,Al0] at h
   simp only[show ¬ ((7:Int)=0) by decide,show ¬ ((7:Int)=1) by decide,show ¬ ((7:Int)=2) by decide,show ¬ ((7:Int)=3) by decide,show ¬ ((7:Int)=4) by decide,show ¬ ((7:Int)=5) by decide,show ¬ ((7:Int)=8) by decide,show ¬ ((7:Int)=6) by decide,if_false]
   exact zgm (P:=fun x=>zi x=true) (rm 123 (by decide)) (rm 125 (by decide)) (zgD m h.1 hw.2.2)
  rw[if_neg k6,if_neg k7] at h
  simp only[zD,Al0] at h
  obtain⟨_,h⟩:=h
  by_cases k0:k=0
  ·rw[if_pos k0]
   intro x hx;rw[List.mem_singleton] at hx;subst hx;exact rw2 _ (by decide)
  rw[if_neg k0] at h ⊢
  by_cases k1:k=1
  ·rw[if_pos k1]
   intro x hx;rw[List.mem_singleton] at hx;subst hx
   cases decide (n=1)<;>exact rw2 _ (by decide)
  rw[if_neg k1] at h ⊢
  by_cases k2:k=2
  ·rw[if_pos k2]
   intro x hx;rw[List.mem_singleton] at hx;subst hx
   have h1:=(zdx hw.1).1
   unfold Zd at h1
   simp only[Al0,zn] at h1
   simp[zi,h1.2]
  rw[if_neg k2] at h ⊢
  by_cases k3:k=3
  ·rw[if_pos k3] at h ⊢
   intro x hx;rw[List.mem_singleton] at hx;subst hx
   simp only[zcU,Al0,ZH,zn] at h
   rcases h.2 with h4|h4
   ·simp[zi,h4]
   ·simp[zi,h4.1]
  rw[if_neg k3] at h ⊢
  by_cases k4:k=4
  ·rw[if_pos k4] at h ⊢
   intro x hx;rw[List.mem_singleton] at hx;subst hx
   simp only[Al0] at h
   simp[zi,h.2]
  rw[if_neg k4] at h ⊢
  by_cases k5:k=5
  ·rw[if_pos k5] at h ⊢
   intro x hx;rw[List.mem_singleton] at hx;subst hx
   simp only[Al0] at h
   exact rw2 _ h.2.1
  rw[if_neg k5] at h ⊢
  by_cases k8:k=8
  ·rw[if_pos k8] at h ⊢
   simp only[Al0] at h
   intro x hx
   rcases List.mem_cons.1 hx with rfl|hx
   ·exact rm 36 (by decide)
   ·rw[List.mem_singleton] at hx;subst hx;exact rw2 _ h.2
  ·rw[if_neg k8] at h;cases h
theorem zgt:∀ l:List Val,YY zm l=true→zi9 l→∀ x∈Zw l,zi x=true
 | [],_,_=>fun x hx=>by cases hx
 | v::r,h,hw=>fun x hx=>by
  simp only[YY,Al0] at h
  rcases List.mem_append.1 hx with hx|hx
  ·exact zf0 v h.1 hw.1 x hx
  ·exact zgt r h.2 hw.2 x hx
theorem zlQ:∀ v:Mem,zgF zm v=true→wfM v→∀ x∈YD v,zi x=true
 | .mk s v,h,hw=>fun x hx=>by
  simp only[zgF,Al0] at h
  simp only[YD] at hx
  rcases List.mem_cons.1 hx with rfl|hx
  ·simp[zi,h.1]
  rcases List.mem_cons.1 hx with rfl|hx
  ·have:zcG [58]=true:=by decide
   simp[zi,this]
  ·exact zf0 v h.2 hw x hx
theorem zgD:∀ l:List Mem,Y2 zm l=true→zcs l→∀ x∈yi l,zi x=true
 | [],_,_=>fun x hx=>by cases hx
 | v::r,h,hw=>fun x hx=>by
  simp only[Y2,Al0] at h
  rcases List.mem_append.1 hx with hx|hx
  ·exact zlQ v h.1 hw.1 x hx
  ·exact zgD r h.2 hw.2 x hx
end
open Go.Lib
def RT (t:TS):Prop:=∀ x∈t,zi x=true
def GR {α:Type} (ok:α→Prop) (f:TS→PR α):Prop:=∀ t a t',RT t→f t=.ok (a,t')→ok a∧RT t'
theorem RT.tail {t:TS} (h:RT t):RT t.tail:=fun x hx=>h x (List.mem_of_mem_tail hx)
theorem RT.hd {t:TS} (h:RT t) (hk:(hdT t).k≠0):zi (hdT t)=true:=by
 cases t with
 | nil=>exact absurd rfl hk
 | cons x t=>exact h x (.head _)
theorem ziJ {t:TS} (h:RT t) (hk:(hdT t).k=2):zm (hdT t).s=true:=by
 have:=h.hd (by rw[hk];decide)
 simpa[zi,hk] using this
theorem zmx {t:TS} (h:RT t) (hk:(hdT t).k=3∨(hdT t).k=4):Zl (hdT t).s=(hdT t).k:=by
 have:=h.hd (by omega)
 unfold zi at this
 rw[if_neg (by omega),if_neg (by omega),if_pos hk] at this
 simpa using this
theorem znj {t:TS} (h:RT t) (hk:(hdT t).k=5):validD (hdT t).s=true:=by
 have:=h.hd (by rw[hk];decide)
 simpa[zi,hk] using this
theorem y7 (m:List UInt8):GR T1 (yp m):=fun t a t' hr h=>by
 unfold yp at h
 split at h
 ·simp only[Yy,Al8] at h;obtain⟨_,rfl⟩:=h;exact⟨trivial,hr.tail⟩
 ·cases h
theorem yD:GR (fun s=>zm s=true) zZ:=fun t a t' hr h=>by
 unfold zZ at h
 split at h
 ·rename_i hk
  simp only[Yy,Al8] at h;obtain⟨rfl,rfl⟩:=h;exact⟨ziJ hr hk,hr.tail⟩
 ·cases h
theorem zc4 {α:Type} {ok:α→Prop} {m:List UInt8} {f:TS→PR α} (hf:GR ok f):∀(n:Nat) (l:List α) (t:TS) (l':List α) (t':TS),RT t→(∀ x∈l,ok x)→zA m f n l t=.ok (l',t')→(∀ x∈l',ok x)∧RT t'
 | 0,_,_,_,_,_,_,h=>by cases h
 | n+1,l,t,l',t',hr,hl,h=>by
  simp only[zA] at h
  split at h
  ·simp only[Yy,Al8] at h;obtain⟨rfl,rfl⟩:=h;exact⟨hl,hr.tail⟩
  ·obtain⟨x,t1,h1,h2⟩:=ze h
   have g:=hf _ _ _ hr h1
   exact zc4 hf n _ _ _ _ g.2 (zc8 hl g.1) h2
theorem zdH {α:Type} {ok:α→Prop} {m:List UInt8} {f:TS→PR α} (hf:GR ok f):∀(n:Nat) (l:List α) (t:TS) (l':List α) (t':TS),RT t→(∀ x∈l,ok x)→yd m f n l t=.ok (l',t')→(∀ x∈l',ok x)∧RT t'
 | 0,_,_,_,_,_,_,h=>by cases h
 | n+1,l,t,l',t',hr,hl,h=>by
  simp only[yd] at h
  split at h
  ·obtain⟨x,t1,h1,h2⟩:=ze h
   have g:=hf _ _ _ hr.tail h1
   exact zdH hf n _ _ _ _ g.2 (zc8 hl g.1) h2
  ·simp only[Yy,Al8] at h;obtain⟨rfl,rfl⟩:=h;exact⟨hl,hr⟩
theorem zaK {α:Type} {ok:α→Prop} {m:List UInt8} {f:TS→PR α} (hf:GR ok f):GR (fun l=>l.length≠0∧∀ x∈l,ok x) (yA m f):=fun t l t' hr h=>by
 obtain⟨x,t1,h1,h2⟩:=ze h
 have g:=hf _ _ _ hr h1
 have g2:=zc4 hf _ [x] _ _ _ g.2 (fun y hy=>by simp at hy;subst hy;exact g.1) h2
 refine⟨⟨?_,g2.1⟩,g2.2⟩
 have:∀(n:Nat) (l:List α) (t:TS) (l':List α) (t':TS),zA m f n l t=.ok (l',t')→l.length≤l'.length:=by
  intro n
  induction n with
  | zero=>intro l t l' t' h;cases h
  | succ n ih =>
   intro l t l' t' h
   simp only[zA] at h
   split at h
   ·simp only[Yy,Al8] at h;obtain⟨rfl,rfl⟩:=h;exact Al4 _
   ·obtain⟨y,t2,h3,h4⟩:=ze h
    have:=ih _ _ _ _ h4
    simp at this;omega
 have:=this _ _ _ _ _ h2
 simp at this;omega
theorem zfL {ty:TyD} {t:TS} {a:TyD} {t':TS} (hr:RT t) (h:YZ ty t=.ok (a,t')):a.nm=ty.nm∧RT t':=by
 unfold YZ at h
 split at h
 ·simp only[Yy,Al8] at h;obtain⟨rfl,rfl⟩:=h;exact⟨rfl,hr.tail⟩
 ·simp only[Yy,Al8] at h;obtain⟨rfl,rfl⟩:=h;exact⟨rfl,hr⟩
theorem zm1:∀ n,GR (fun ty=>zm ty.nm=true) (YS n):=by
 intro n
 induction n with
 | zero =>
  intro t a t' hr h
  rw[ZC,zb7.eq_def] at h
  split at h
  ·cases h
  ·obtain⟨s,t1,h1,h2⟩:=ze h
   have g:=yD _ _ _ hr h1
   have g2:=zfL g.2 h2
   exact⟨by show zm a.nm=true;rw[g2.1];exact g.1,g2.2⟩
 | succ n ih =>
  intro t a t' hr h
  rw[ZC,zb7.eq_def] at h
  split at h
  ·obtain⟨ty,t1,h1,h2⟩:=ze h
   obtain⟨_,t2,h3,h4⟩:=ze h2
   have g:=ih _ _ _ hr.tail h1
   have g1:=y7 _ _ _ _ g.2 h3
   have g2:=zfL g1.2 h4
   exact⟨by show zm a.nm=true;rw[g2.1];exact g.1,g2.2⟩
  ·obtain⟨s,t1,h1,h2⟩:=ze h
   have g:=yD _ _ _ hr h1
   have g2:=zfL g.2 h2
   exact⟨by show zm a.nm=true;rw[g2.1];exact g.1,g2.2⟩
theorem zko:GR (fun ty=>zN ty=true) (YS 4):=fun t a t' hr h=>by
 have g:=zm1 4 _ _ _ hr h
 obtain⟨h1,h2,h3,h4⟩:=(zb2 4 _ _ _ h).ok
 refine⟨?_,g.2⟩
 simp only[zN,Al0,zn]
 exact⟨g.1,h1,by omega,h3,h4⟩
def okV (fixed:Bool) (k:Nat) (v:Val):Prop:=pl v∧zG v≤k∧(fixed=true→zO v []=[])
def okM (fixed:Bool) (k:Nat):Mem→Prop
 | .mk s v=>zm s=true∧okV fixed k v
theorem zeH {fixed:Bool} {k:Nat} {f:TS→PR Val} (hf:GR (okV fixed k) f):GR (okM fixed k) (zX f):=fun t x t' hr h=>by
 obtain⟨s,t1,h1,h2⟩:=ze h
 obtain⟨_,t2,h3,h4⟩:=ze h2
 obtain⟨v,t3,h5,h6⟩:=ze h4
 simp only[Yy,Al8] at h6
 obtain⟨rfl,rfl⟩:=h6
 have g1:=yD _ _ _ hr h1
 have g2:=y7 _ _ _ _ g1.2 h3
 have g3:=hf _ _ _ g2.2 h5
 exact⟨⟨g1.1,g3.1⟩,g3.2⟩
theorem ziE {a b n:Int} (h1:a≤n) (h2:b≤n):mm2 true a b≤n:=by simp only[mm2,if_true];split<;>assumption
theorem zdU {k:Nat}:∀ {l:List Val} {n:Int},n≤k→(∀ v∈l,zG v≤k)→yw l n≤k
 | [],n,h,_=>h
 | v::r,n,h,hl=>by
  simp only[yw]
  exact zdU (ziE h (hl v (.head _))) fun w hw=>hl w (.tail _ hw)
theorem zdB {k:Nat}:∀ {l:List Mem} {n:Int},n≤k→(∀ v∈l,y0 v≤k)→yv l n≤k
 | [],n,h,_=>h
 | v::r,n,h,hl=>by
  simp only[yv]
  exact zdB (ziE h (hl v (.head _))) fun w hw=>hl w (.tail _ hw)
theorem ze5:∀ {l:List Val},(∀ v∈l,zO v []=[])→yN l []=[]
 | [],_=>rfl
 | v::r,h=>by simp only[yN];rw[h v (.head _)];exact ze5 fun w hw=>h w (.tail _ hw)
theorem zeF:∀ {l:List Mem},(∀ v∈l,YC v []=[])→yO l []=[]
 | [],_=>rfl
 | v::r,h=>by simp only[yO];rw[h v (.head _)];exact zeF fun w hw=>h w (.tail _ hw)
theorem zgC {may:List UInt8→Bool}:∀ {l:List Val},(∀ v∈l,Ys may v=true)→YY may l=true
 | [],_=>rfl
 | v::r,h=>by simp only[YY,h v (.head _),Bool.true_and];exact zgC fun w hw=>h w (.tail _ hw)
theorem zgx {may:List UInt8→Bool}:∀ {l:List Mem},(∀ v∈l,zgF may v=true)→Y2 may l=true
 | [],_=>rfl
 | v::r,h=>by simp only[Y2,h v (.head _),Bool.true_and];exact zgx fun w hw=>h w (.tail _ hw)
theorem zdt:zaD 0 [] [] []=true:=rfl
theorem znd {fixed:Bool} {k:Nat} {l:List Val} (h:∀ v∈l,okV fixed k v):okV fixed (k+1) (.mk 6 0 [] l []):=by
 refine⟨?_,?_,fun e=>?_⟩
 ·simp only[pl,Ys,if_true,zdt,Bool.and_true]
  exact zgC fun v hv=>(h v hv).1
 ·have:=zdU (l:=l) (n:=0) (k:=k) (by omega) fun v hv=>(h v hv).2.1
  simp only[zG,if_true];omega
 ·simp only[zO]
  rw[if_neg (by decide),if_pos trivial]
  exact ze5 fun v hv=>(h v hv).2.2 e
theorem znT {fixed:Bool} {k:Nat} {l:List Mem} (h:∀ v∈l,okM fixed k v):okV fixed (k+1) (.mk 7 0 [] [] l):=by
 refine⟨?_,?_,fun e=>?_⟩
 ·simp only[pl,Ys,zdt,Bool.and_true]
  rw[if_neg (by decide),if_pos trivial]
  refine zgx fun x hx=>?_
  obtain⟨s,v⟩:=x
  have:=h _ hx
  simp only[zgF,Al0]
  exact⟨this.1,this.2.1⟩
 ·have:=zdB (l:=l) (n:=0) (k:=k) (by omega) fun x hx=>by
   obtain⟨s,v⟩:=x
   exact(h _ hx).2.2.1
  simp only[zG]
  rw[if_neg (by decide),if_pos trivial];omega
 ·simp only[zO]
  rw[if_neg (by decide),if_neg (by decide),if_pos trivial]
  refine zeF fun x hx=>?_
  obtain⟨s,v⟩:=x
  exact(h _ hx).2.2.2 e
theorem zah {k:Int} (h6:k≠6) (h7:k≠7) (h8:k≠8) {n:Int} {s:List UInt8} (hs:zD k n s [] []=true) (fixed:Bool) (d:Nat):okV fixed d (.mk k n s [] []):=by
 refine⟨?_,?_,fun _=>?_⟩
 ·simp only[pl,Ys]
  rw[if_neg h6,if_neg h7];exact hs
 ·simp only[zG]
  rw[if_neg h6,if_neg h7];omega
 ·simp only[zO]
  rw[if_neg h8,if_neg h6,if_neg h7]
theorem zlP {s:List UInt8} (h:zm s=true) (fixed:Bool) (d:Nat):okV fixed d (Yb s):=by
 unfold Yb
 split
 ·exact zah (k:=0) (by decide) (by decide) (by decide) (by rfl) fixed d
 ·rename_i h1
  split
  ·exact zah (k:=1) (by decide) (by decide) (by decide) (by rfl) fixed d
  ·rename_i h2
   split
   ·exact zah (k:=1) (by decide) (by decide) (by decide) (by rfl) fixed d
   ·rename_i h3
    refine zah (k:=5) (by decide) (by decide) (by decide) ?_ fixed d
    simp[zD,zdt,zgc,h,h1,h2,h3]
theorem znp {s:List UInt8} (h:Zl s=3∨Zl s=4) (fixed:Bool) (d:Nat):okV fixed d (zcq s):=by
 unfold zcq
 cases hw:Zd s with
 | true =>
  exact zah (k:=2) (by decide) (by decide) (by decide) (by simp[zD,zdt]) fixed d
 | false =>
  refine zah (k:=3) (by decide) (by decide) (by decide) ?_ fixed d
  have:zcU s=true:=by
   simp only[zcU,hw,Bool.not_false,Bool.and_true,ZH,zn]
   exact h.symm
  simp[zD,zdt,this]
theorem ziN (fixed:Bool) (k:Nat) (ih:∀ n,k=n+1→GR (okV fixed n) (yy fixed n)):GR (okV fixed k) (yy fixed k):=fun t v t' hr h=>by
 rw[zY,Z8.eq_def] at h
 split at h
 ·rename_i hk
  simp only[Yy,Al8] at h;obtain⟨rfl,rfl⟩:=h
  exact⟨zlP (ziJ hr hk) _ _,hr.tail⟩
 split at h
 ·rename_i hk
  simp only[Yy,Al8] at h;obtain⟨rfl,rfl⟩:=h
  have:=zmx hr hk
  exact⟨znp (by omega) _ _,hr.tail⟩
 split at h
 ·rename_i hk
  simp only[Yy,Al8] at h;obtain⟨rfl,rfl⟩:=h
  exact⟨zah (k:=4) (by decide) (by decide) (by decide) (by simp[zD,zdt,znj hr hk]) _ _,hr.tail⟩
 split at h
 ·cases k with
  | zero=>cases h
  | succ n =>
   obtain⟨l,t1,h1,h2⟩:=ze h
   simp only[Yy,Al8] at h2;obtain⟨rfl,rfl⟩:=h2
   have g:=zc4 (ih n rfl) _ [] _ _ _ hr.tail (fun x hx=>nomatch hx) h1
   exact⟨znd g.1,g.2⟩
 split at h
 ·cases k with
  | zero=>cases h
  | succ n =>
   obtain⟨l,t1,h1,h2⟩:=ze h
   simp only[Yy,Al8] at h2;obtain⟨rfl,rfl⟩:=h2
   have g:=zc4 (zeH (ih n rfl)) _ [] _ _ _ hr.tail (fun x hx=>nomatch hx) h1
   exact⟨znT g.1,g.2⟩
 split at h
 ·cases h
 ·rename_i hf
  obtain⟨_,t1,h1,h2⟩:=ze h
  obtain⟨s,t2,h3,h4⟩:=ze h2
  simp only[Yy,Al8] at h4;obtain⟨rfl,rfl⟩:=h4
  have g1:=y7 _ _ _ _ hr h1
  have g2:=yD _ _ _ g1.2 h3
  refine⟨⟨?_,?_,fun e=>absurd e hf⟩,g2.2⟩
  ·simp[pl,Ys,zD,zdt,g2.1]
  ·simp only[zG];rw[if_neg (by decide),if_neg (by decide)];omega
theorem zhG (fixed:Bool):∀ k,GR (okV fixed k) (yy fixed k)
 | 0=>ziN fixed 0 fun n h=>by cases h
 | k+1=>ziN fixed (k+1) fun n h=>by cases h;exact zhG fixed k
theorem zeS {fixed:Bool} {k:Nat} {dp:Int} (hk:dp+k=16) (h0:0≤dp) {v:Val} (h:okV fixed k v):zF dp fixed v=true:=by
 obtain⟨h1,h2,h3⟩:=h
 simp only[zF,ZQ,Al0,ZH,Bool.not_eq_true',zn]
 refine⟨⟨h1,by omega⟩,by omega,?_⟩
 cases fixed with
 | false=>exact .inl rfl
 | true=>exact .inr (by rw[h3 rfl];rfl)
theorem zi3 {fixed:Bool} {k:Nat} {dp:Int} (hk:dp+k=16) (h0:0≤dp) {l:List Mem} (h:∀ x∈l,okM fixed k x):ZW dp fixed l=true:=by
 refine yf.2 fun x hx=>?_
 obtain⟨s,v⟩:=x
 have:=h _ hx
 simp only[zb9,Al0]
 exact⟨this.1,zeS hk h0 this.2⟩
theorem zlY {fixed:Bool} {k:Nat} {dp:Int} (hk:dp+k=16) (h0:0≤dp):GR (fun l=>ZW dp fixed l=true) (Z9 fixed k):=fun t a t' hr h=>by
 unfold Z9 at h
 split at h
 ·have g:=zaK (zeH (zhG fixed k)) _ _ _ hr.tail h
  exact⟨zi3 hk h0 g.1.2,g.2⟩
 ·simp only[Yy,Al8] at h;obtain⟨rfl,rfl⟩:=h;exact⟨rfl,hr⟩
theorem zmU {fixed:Bool} {k:Nat} {dp:Int} (hk:dp+k=16) (h0:0≤dp):GR (fun d=>YH dp fixed d=true) (zcv fixed k):=fun t a t' hr h=>by
 obtain⟨s,t1,h1,h2⟩:=ze h
 obtain⟨l,t2,h3,h4⟩:=ze h2
 simp only[Yy,Al8] at h4;obtain⟨rfl,rfl⟩:=h4
 have g1:=yD _ _ _ hr h1
 have g2:=zlY hk h0 _ _ _ g1.2 h3
 exact⟨by simp[YH,g1.1,g2.1],g2.2⟩
theorem zlR {fixed:Bool} {k:Nat} {dp:Int} (hk:dp+k=16) (h0:0≤dp):GR (fun l=>Yf dp fixed l=true) (zaA fixed k):=fun t a t' hr h=>by
 have g:=zdH (zmU hk h0) _ [] _ _ _ hr (fun x hx=>nomatch hx) h
 exact⟨yf.2 g.1,g.2⟩
end Go.Proofs.YtaielcdfcgpbiaaGreatDoor
namespace Go.Proofs.YtaielcdfcgpbiaaGreatDoor
open Go.Ab
def lD (x:DirD):Nat:=2+x.nm.length+bMs x.args
def lDs (l:List DirD):Nat:=(l.map lD).sum
mutual
def lS:SelD→Nat
 | .mk _ al nm args dirs on sels=>2+nm.length+al.length+on.length+bMs args+lDs dirs+lSs sels
def lSs:List SelD→Nat
 | []=>0
 | x::r=>lS x+lSs r
end
def lF (x:FragD):Nat:=1+lDs x.dirs+lSs x.sels+x.nm.length
theorem kMk:zi (pk [40])=true∧zi (pk [41])=true∧zi (pk [64])=true∧zi (pk [58])=true∧zi (pk [123])=true∧zi (pk [125])=true∧zi (pk [46,46,46])=true∧zi (pk [36])=true∧zi (pk [61])=true∧zi (pk [91])=true∧zi (pk [93])=true∧zi (pk [33])=true:=by decide +kernel
theorem kNm (s:List UInt8):zi (wk s)=zm s:=rfl
theorem zf3 (v:Val) (h:pl v) (hw:wfV v):(zM v).all zi=true:=yf.2 (zf0 v h hw)
theorem zd0 {dp:Int} {fixed:Bool} {v:Val} (h:zF dp fixed v=true):pl v:=by
 simp only[zF,ZQ,Al0] at h
 exact h.1.1
theorem ze8 {dp:Int} {fixed:Bool}:∀ l:List Mem,ZW dp fixed l=true→zcs l→(yi l).all zi=true
 | [],_,_=>rfl
 | .mk s v::l,h,hw=>by
  simp only[ZW,List.all_cons,Al0,zb9] at h
  have e:yi (.mk s v::l)=wk s::pk [58]::(zM v++yi l):=by simp[yi,YD,wk,pk]
  rw[e]
  simp only[List.all_cons,List.all_append,Al0,kNm]
  exact⟨h.1.1,kMk.2.2.2.1,zf3 v (zd0 h.1.2) hw.1,ze8 (dp:=dp) (fixed:=fixed) l h.2 hw.2⟩
theorem zjF {dp:Int} {fixed:Bool} (l:List Mem) (h:ZW dp fixed l=true) (hw:zcs l):(YF l).all zi=true:=by
 unfold YF
 split
 ·rfl
 ·simp only[List.all_cons,List.all_append,Al0,List.all_nil,and_true]
  exact⟨kMk.1,ze8 l h hw,kMk.2.1⟩
theorem zl7 {dp:Int} {fixed:Bool} (l:List DirD) (h:Yf dp fixed l=true) (hw:zi1 l):(tDs l).all zi=true:=by
 refine yf.2 fun x hx=>?_
 obtain⟨d,hd,hx⟩:=List.mem_flatMap.1 hx
 have h1:=yf.1 h d hd
 simp only[YH,Al0] at h1
 have:(tD d).all zi=true:=by
  simp only[tD,List.all_cons,Al0,kNm]
  exact⟨kMk.2.2.1,h1.1,zjF d.args h1.2 (hw d hd)⟩
 exact yf.1 this x hx
theorem zkK (n:Nat) (m:Int):∀ k,(zan n m k).all zi=true:=by
 have hp:∀ i,(zaS n m i).all zi=true:=fun i=>by
  unfold zaS
  by_cases h1:i<n<;>cases h2:zaE m i<;>simp[h1,kMk]
 intro k
 induction k with
 | zero=>exact hp 0
 | succ k ih=>rw[zan,List.all_append,hp,ih];rfl
theorem zim (t:TyD) (h:zN t=true):(tTy t).all zi=true:=by
 simp only[zN,Al0] at h
 simp only[tTy,List.all_append,List.all_cons,Al0,kNm]
 refine⟨yf.2 fun x hx=>?_,h.1,zkK _ _ _⟩
 rw[List.eq_of_mem_replicate hx]
 exact kMk.2.2.2.2.2.2.2.2.2.1
theorem zm8 (x:VarD) (hr:yW x=true) (hw:wfW x):wT (tPa x)≤240*bW x:=by
 simp only[yW,Al0] at hr
 have h1:=zkw x.t hr.2.1
 have h2:=zk0 x.d hw.2.2
 have h3:=zbz x.d
 have h4:wT (tDf x.has x.d)≤5+wT (zM x.d):=by
  unfold tDf
  split
  ·simp only[zI,Yz,Al2,Al3];omega
  ·simp[wT]
 simp only[tPa,bW,zI,Zz,Yz,YL,Al2,Al3]
 omega
theorem zh9 (l:List VarD) (hr:l.all yW=true) (hw:∀ y∈l,wfW y):wT (l.flatMap tPa)≤240*bWs l:=Y0 _ fun y hy=>zm8 y (yf.1 hr y hy) (hw y hy)
theorem znZ (x:FldD) (hr:Zm x=true) (hw:wfL x):wT (tL x)≤256*bL x:=by
 simp only[Zm,Al0] at hr
 obtain⟨_,hr1,hr2,hr3⟩:=hr
 obtain⟨w1,_,_,w2⟩:=hw
 have h1:=zh9 x.ps hr1 w1
 have h2:=zkw x.t hr2
 have h3:=znm x.dirs w2
 have h4:wT (tPb x.ps)≤10+wT (x.ps.flatMap tPa):=by
  unfold tPb
  split
  ·simp[wT]
  ·simp only[zI,Zz,zai,Yz,Al2,Al3];omega
 simp only[tL,bL,zI,Zz,Yz,YL,Al2,Al3]
 omega
theorem zk4 (m:List UInt8) (hm:m.length=1) (l:List (List UInt8)):wT (tNs m l)≤16*bT l:=by
 cases l with
 | nil=>simp[tNs,wT]
 | cons a r =>
  have h1:wT (r.flatMap fun s=>[pk m,wk s])≤16*bT r:=Y0 _ fun s _=>by
   simp only[zI,zai,Yz,YL];omega
  have h2:bT (a::r)=1+a.length+bT r:=by simp[bT]
  simp only[tNs,zI,YL]
  omega
theorem zmO (l:List (List UInt8)):wT (l.map wk)≤16*bT l:=by
 induction l with
 | nil=>simp[wT]
 | cons a r ih =>
  have h2:bT (a::r)=1+a.length+bT r:=by simp[bT]
  simp only[List.map_cons,zI,YL]
  omega
theorem znN (x:DefD) (hr:zL x=true) (hw:wfE x):wT (tE x)≤256*bE x:=by
 obtain⟨w1,w2⟩:=hw
 simp only[zL,Al0] at hr
 obtain⟨_,hr⟩:=hr
 unfold tE
 simp only[bE]
 have hf:=zk4 [38] rfl x.faces
 have hp:=zk4 [124] rfl x.parts
 have hq:=zmO x.parts
 by_cases k1:x.k=1∨x.k=2
 ·rw[if_pos k1] at hr ⊢
  simp only[Al0] at hr
  have h1:wT (x.flds.flatMap tL)≤256*bLs x.flds:=Y0 _ fun y hy=>znZ y (yf.1 hr.2.1 y hy) (w1 y hy)
  have h2:wT (if x.faces.length=0 then ([]:List Tok) else wk [105,109,112,108,101,109,101,110,116,115]::tNs [38] x.faces)≤14+wT (tNs [38] x.faces):=by
   split
   ·simp[wT]
   ·simp only[zI,YL,Al2,Al3];omega
  have h3:(if x.k=1 then [116,121,112,101] else [105,110,116,101,114,102,97,99,101]:List UInt8).length≤9:=by split<;>decide
  simp only[zI,Zz,zai,Yz,YL,Al2,Al3]
  omega
 rw[if_neg k1] at hr ⊢
 by_cases k3:x.k=3
 ·rw[if_pos k3]
  simp only[zI,Yz,YL,Al2,Al3]
  omega
 rw[if_neg k3] at hr ⊢
 by_cases k4:x.k=4
 ·rw[if_pos k4]
  simp only[zI,Zz,zai,Yz,YL,Al2,Al3]
  omega
 rw[if_neg k4] at hr ⊢
 by_cases k5:x.k=5
 ·rw[if_pos k5] at hr
  simp only[Al0] at hr
  have h1:=zh9 x.ps hr.1 w2
  simp only[zI,Zz,zai,Yz,YL,Al2,Al3]
  omega
 ·rw[if_neg k5] at hr;cases hr
theorem zly (s:SchD) (hr:yF s=true) (hw:zdh s):wT (Yd s)≤256*zcr s+64:=by
 simp only[yF,Al0] at hr
 have h1:wT (s.defs.flatMap tE)≤256*bEs s.defs:=Y0 _ fun y hy=>znN y (yf.1 hr.1 y hy) (hw y hy)
 have h2:wT (if s.m=[] then ([]:List Tok) else [wk [109,117,116,97,116,105,111,110],pk [58],wk s.m])≤21+s.m.length:=by
  split
  ·simp[wT]
  ·simp only[zI,zai,Yz,YL,Al2,Al3];omega
 simp only[Yd,tRt,zcr,zI,Zz,zai,Yz,YL,Al2,Al3]
 omega
theorem zaV {α:Type} {f:α→List Tok} (l:List α) (h:∀ y∈l,(f y).all zi=true):(l.flatMap f).all zi=true:=by
 refine yf.2 fun x hx=>?_
 obtain⟨y,hm,hx⟩:=List.mem_flatMap.1 hx
 exact yf.1 (h y hm) x hx
theorem ziF (x:VarD) (h:yW x=true) (hw:wfW x):(tPa x).all zi=true:=by
 simp only[yW,Al0] at h
 simp only[tPa,List.all_cons,List.all_append,Al0,kNm]
 refine⟨h.1,kMk.2.2.2.1,zim _ h.2.1,?_⟩
 unfold tDf
 split
 ·rename_i hh
  have h2:=h.2.2
  rw[za5,if_pos hh] at h2
  simp only[List.all_cons,Al0]
  exact⟨kMk.2.2.2.2.2.2.2.2.1,zf3 _ (zd0 h2) hw.2.2⟩
 ·rfl
theorem zmC (x:FldD) (h:Zm x=true) (hw:wfL x):(tL x).all zi=true:=by
 simp only[Zm,Al0] at h
 obtain⟨h0,h1,h2,h3⟩:=h
 obtain⟨w1,_,_,w2⟩:=hw
 simp only[tL,List.all_cons,List.all_append,Al0,kNm]
 refine⟨h0,?_,kMk.2.2.2.1,zim _ h2,zl7 _ h3 w2⟩
 unfold tPb
 split
 ·rfl
 ·simp only[List.all_cons,List.all_append,Al0,List.all_nil,and_true]
  exact⟨kMk.1,zaV _ fun y hy=>ziF y (yf.1 h1 y hy) (w1 y hy),kMk.2.1⟩
theorem kM2:zi (pk [38])=true∧zi (pk [124])=true:=by decide +kernel
theorem zix (m:List UInt8) (hm:zi (pk m)=true) (l:List (List UInt8)) (h:l.all zm=true):(tNs m l).all zi=true:=by
 cases l with
 | nil=>rfl
 | cons a r =>
  simp only[List.all_cons,Al0] at h
  simp only[tNs,List.all_cons,Al0,kNm]
  refine⟨h.1,zaV _ fun y hy=>?_⟩
  simp only[List.all_cons,List.all_nil,Al0,and_true,kNm]
  exact⟨hm,yf.1 h.2 y hy⟩
theorem zmK (x:DefD) (hr:zL x=true) (hw:wfE x):(tE x).all zi=true:=by
 obtain⟨w1,w2⟩:=hw
 simp only[zL,Al0] at hr
 obtain⟨hn,hr⟩:=hr
 unfold tE
 by_cases k1:x.k=1∨x.k=2
 ·rw[if_pos k1] at hr ⊢
  simp only[Al0] at hr
  simp only[List.all_cons,List.all_append,Al0,List.all_nil,and_true,kNm]
  refine⟨by split;exact zik;exact zij,hn,?_,kMk.2.2.2.2.1,zaV _ fun y hy=>zmC y (yf.1 hr.2.1 y hy) (w1 y hy),kMk.2.2.2.2.2.1⟩
  split
  ·rfl
  ·simp only[List.all_cons,Al0,kNm]
   exact⟨zae,zix _ kM2.1 _ hr.1⟩
 rw[if_neg k1] at hr ⊢
 by_cases k3:x.k=3
 ·rw[if_pos k3] at hr ⊢
  simp only[Al0] at hr
  simp only[List.all_cons,Al0,kNm]
  exact⟨zbP,hn,kMk.2.2.2.2.2.2.2.2.1,zix _ kM2.2 _ hr.1⟩
 rw[if_neg k3] at hr ⊢
 by_cases k4:x.k=4
 ·rw[if_pos k4] at hr ⊢
  simp only[Al0] at hr
  simp only[List.all_cons,List.all_append,Al0,List.all_nil,and_true,kNm]
  refine⟨zc3,hn,kMk.2.2.2.2.1,?_,kMk.2.2.2.2.2.1⟩
  rw[List.all_map]
  exact hr.1.1
 rw[if_neg k4] at hr ⊢
 by_cases k5:x.k=5
 ·rw[if_pos k5] at hr
  simp only[Al0] at hr
  simp only[List.all_cons,List.all_append,Al0,List.all_nil,and_true,kNm]
  exact⟨zca,hn,kMk.2.2.2.2.1,zaV _ fun y hy=>ziF y (yf.1 hr.1 y hy) (w2 y hy),kMk.2.2.2.2.2.1⟩
 ·rw[if_neg k5] at hr;cases hr
theorem zj4 (s:SchD) (hr:yF s=true) (hw:zdh s):(Yd s).all zi=true:=by
 simp only[yF,Al0,ZH,zn] at hr
 simp only[Yd,tRt,List.all_cons,List.all_append,Al0,List.all_nil,and_true,kNm]
 refine⟨⟨zcJ,kMk.2.2.2.2.1,zdR,kMk.2.2.2.1,hr.2.1,?_,kMk.2.2.2.2.2.1⟩,zaV _ fun y hy=>zmK y (yf.1 hr.1 y hy) (hw y hy)⟩
 split
 ·rfl
 ·rename_i hm
  simp only[List.all_cons,List.all_nil,Al0,and_true,kNm]
  exact⟨zhY,kMk.2.2.2.1,hr.2.2.resolve_left hm⟩
abbrev zag (H:Heap) (r:Nat) (L t:TS) (dp:Nat):Prop:=∃ p,p++t=L∧H r=some (prc L p dp)
section
variable {H:Heap} {r:Nat} {L t:TS} {dp:Nat}
theorem zbn (hl:wT L≤zJ):L.length≤zJ:=Nat.le_trans (zdM L) hl
theorem zmw (h:zag H r L t dp) (m:List UInt8):ACalls Tryz.prog 158 [.ptr r 0,.str m] H (fun e H'=>∃ v,e=.ret v∧(v=.bool (isW m t)∧H'=H)) :=
 let ⟨_,hp,hr⟩:=h;znY hp hr m
theorem zgv (h:zag H r L t dp) (hl:wT L≤zJ) (m:List UInt8):ACalls Tryz.prog 98 [.ptr r 0,.str m] H (fun e H'=>∃ v,e=.ret v∧(v=.bool (isP m t)∧Pat H r L (Zg m t) dp H')) :=
 let ⟨_,hp,hr⟩:=h;zbq hp (zbn hl) hr m
theorem Yx (h:zag H r L t dp) (hl:wT L≤zJ) (m:List UInt8):ACalls Tryz.prog 100 [.ptr r 0,.str m] H (fun e H'=>∃ v,e=.ret v∧(v=.bool (isW m t)∧Pat H r L (zR m t) dp H')) :=
 let ⟨_,hp,hr⟩:=h;znG hp (zbn hl) hr m
theorem zaa (h:zag H r L t dp) (hl:wT L≤zJ) (m:List UInt8):ACalls Tryz.prog 84 [.ptr r 0,.str m] H (RpE H r L dp (yp m t) fun _=>.tup []) :=
 let ⟨_,hp,hr⟩:=h;zft hp (zbn hl) hr m
theorem zaY (h:zag H r L t dp) (hl:wT L≤zJ):ACalls Tryz.prog 85 [.ptr r 0] H (RpE H r L dp (zZ t) AV.str) :=
 let ⟨_,hp,hr⟩:=h;zd5 hp (zbn hl) hr
theorem zkm (h:zag H r L t dp) (hl:wT L≤zJ):ACalls Tryz.prog 38 [.ptr r 0] H (RpE H r L dp (YS 4 t) (fun x=>.agg (cTy x))) :=
 let ⟨_,hp,hr⟩:=h;zmJ hp hl hr
theorem zmW (h:zag H r L t (16-16)) (hl:wT L≤zJ):ACalls Tryz.prog 33 [.ptr r 0,.bool true] H (RpE H r L (16-16) (yy true 16 t) fun v=>.agg (cV v)) :=
 let ⟨p,hp,hr⟩:=h;zcm true 16 (Al4 _) _ r L p t hp hl hr
theorem zms (h:zag H r L t (16-16)) (hl:wT L≤zJ):ACalls Tryz.prog 196 [.ptr r 0,.bool true] H (RpE H r L (16-16) (zaA true 16 t) (fun l=>.sl .no 2 (cDs l))) :=
 let ⟨_,hp,hr⟩:=h;zmM (Al4 _) hp hl hr
end
theorem Yc (s:List UInt8) (t:TS):zx (wk s::t)=wk s::t:=by simp[zx,y6,wk]
theorem zhA (x:VarD) (h:yW x=true) (hw:wfW x) (t:TS) (h1:isP [33] t=false) (h2:isP [61] t=false):yr (tPa x++t)=.ok (x,t):=by
 obtain⟨nm,ty,has,d⟩:=x
 simp only[yW,Al0] at h
 obtain⟨_,r1,r2⟩:=h
 cases has with
 | true =>
  simp only[za5,if_true] at r2
  have e:tPa ⟨nm,ty,true,d⟩++t=wk nm::pk [58]::(tTy ty++(pk [61]::(zM d++t))):=by simp[tPa,tDf]
  rw[e]
  unfold yr
  simp only[Yc,yl,zk,z8,zbA ty r1 _ (show isP [33] (pk [61]::(zM d++t))=false by rw[yj];decide),yj,decide_true,if_true,List.tail_cons,zd7 (dp:=0) (k:=16) (by decide) r2 hw.2.2 t]
 | false =>
  simp only[za5,Al7,if_false] at r2
  have e:tPa ⟨nm,ty,false,d⟩++t=wk nm::pk [58]::(tTy ty++t):=by simp[tPa,tDf]
  rw[e,znq r2]
  unfold yr
  simp only[Yc,yl,zk,z8,zbA ty r1 _ h1,h2,Al7,if_false]
theorem zh2 (x:VarD) (t:TS) (m:List UInt8):isP m (tPa x++t)=false:=by simp only[tPa,Al6,zch]
theorem zd9 (m:List UInt8) (hm:m≠[33]) (hm2:m≠[61]) (l:List VarD) (hl:l≠[]) (h:l.all yW=true) (hw:∀ x∈l,wfW x) (t:TS):yA m yr (l.flatMap tPa++pk m::t)=.ok (l,t) :=
 YQ (F:=fun t=>isP [33] t=false∧isP [61] t=false) (fun t=>by simp only[yj];exact⟨decide_eq_false hm,decide_eq_false hm2⟩) l hl (fun x _ t=>⟨zh2 x t _,zh2 x t _⟩) (fun x _ t=>zh2 x t _)
  (fun x hx t ht=>zhA x (yf.1 h x hx) (hw x hx) t ht.1 ht.2) t
def zmv (t:TS):Prop:=isP [33] t=false∧isP [40] t=false∧isP [64] t=false
theorem zhN (x:FldD) (h:Zm x=true) (hw:wfL x) (t:TS) (ht:zmv t):yX (tL x++t)=.ok (x,t):=by
 obtain⟨nm,ps,ty,dirs⟩:=x
 simp only[Zm,Al0] at h
 obtain⟨_,r1,r2,r3⟩:=h
 obtain⟨w1,_,_,w4⟩:=hw
 obtain⟨t1,t2,t3⟩:=ht
 have hd:=zjA (k:=16) (dp:=0) (by decide) dirs r3 w4 t t2 t3
 have hb:isP [33] (tDs dirs++t)=false:=zj8 _ (by decide) _ _ t1
 have hty:=zbA ty r2 (tDs dirs++t) hb
 have e:tL ⟨nm,ps,ty,dirs⟩++t=wk nm::(tPb ps++pk [58]::(tTy ty++(tDs dirs++t))):=by simp[tL]
 rw[e]
 unfold yX
 simp only[Yc,z8,zk]
 unfold tPb
 by_cases hl:ps.length=0
 ·obtain rfl:ps=[]:=Zi.1 hl
  simp only[Al3,if_true,yR,yj]
  rw[decide_eq_false (by decide)]
  simp only[Al7,if_false,zk,yl,hty,hd]
 ·have hne:ps≠[]:=fun e=>hl (by rw[e];rfl)
  rw[if_neg hl]
  simp only[Al6,yj,decide_true,if_true,List.tail_cons,ZF,yR]
  rw[zd9 _ (by decide) (by decide) ps hne r1 w1]
  simp only[zk,yl,hty,hd]
theorem zib (x:FldD) (t:TS) (m:List UInt8):isP m (tL x++t)=false:=by simp only[tL,Al6,zch]
theorem zhq (l:List FldD) (hl:l≠[]) (h:l.all Zm=true) (hw:∀ x∈l,wfL x) (t:TS):yA [125] yX (l.flatMap tL++pk [125]::t)=.ok (l,t) :=
 YQ (F:=zmv) (fun t=>by simp only[zmv,yj];decide) l hl (fun x _ t=>⟨zib x t _,zib x t _,zib x t _⟩) (fun x _ t=>zib x t _)
  (fun x hx t ht=>zhN x (yf.1 h x hx) (hw x hx) t ht) t
theorem zcT (m:List UInt8):∀(r:List (List UInt8)) (n:Nat) (l:List (List UInt8)) (t:TS),r.length<n→isP m t=false→yd m zZ n l ((r.flatMap fun s=>[pk m,wk s])++t)=.ok (l++r,t)
 | [],n,l,t,hn,ht=>by
  obtain⟨k,rfl⟩:∃ k,n=k+1:=⟨n-1,by omega⟩
  simp[yd,ht]
 | s::r,n,l,t,hn,ht=>by
  simp only[Al2] at hn
  obtain⟨k,rfl⟩:∃ k,n=k+1:=⟨n-1,by omega⟩
  simp only[List.flatMap_cons,Al6,yR,yd,yj,decide_true,if_true,List.tail_cons,z8,zk]
  rw[zcT m r k _ t (by omega) ht]
  simp
theorem zdk (m:List UInt8) (l:List (List UInt8)) (hl:l≠[]) (t:TS) (ht:isP m t=false):ZN m (tNs m l++t)=.ok (l,t):=by
 cases l with
 | nil=>exact absurd rfl hl
 | cons s r =>
  unfold ZN
  simp only[tNs,Al6,zch,Al7,if_false,z8,zk]
  have e:r.length≤(r.flatMap fun s=>[pk m,wk s]).length:=ZL r fun x _ e=>by simp at e
  rw[zcT m r _ _ t (by rw[Al5];omega) ht]
  simp
theorem zjb (s:List UInt8) (h:yK s=true) (t:TS):ZI (wk s::t)=.ok (s,t):=by
 unfold ZI
 simp only[yK,Al0,zn] at h
 simp only[Yc,YW,h.1,h.2.1,h.2.2,decide_false,Al7,or_self,if_false,z8]
theorem zjz (l:List (List UInt8)) (hl:l≠[]) (h:l.all yK=true) (t:TS):yA [125] ZI (l.map wk++pk [125]::t)=.ok (l,t):=by
 have e:l.map wk=l.flatMap fun s=>[wk s]:=by
  clear hl h
  induction l with
  | nil=>rfl
  | cons s r ih=>simp[ih]
 rw[e]
 exact YQ (tk:=fun s=>[wk s]) (F:=fun _=>True) (fun t=>trivial) l hl (fun x _ t=>trivial) (fun x _ t=>by simp only[Al6,yR,zch]) (fun x hx t ht=>zjb x (yf.1 h x hx) t) t
def zjs (t:TS):Prop:=isP [124] t=false
theorem zjP (d:SR) (x:DefD) (h:zL x=true) (hw:wfE x) (t:TS) (ht:zjs t):zy d (tE x++t)=.ok (Zo d x,t):=by
 obtain⟨k,nm,faces,flds,parts,ps⟩:=x
 simp only[zL,Al0] at h
 obtain⟨hn,h⟩:=h
 obtain⟨w1,w2⟩:=hw
 by_cases hk:k=1∨k=2
 ·rw[if_pos hk] at h
  simp only[Al0,zn] at h
  obtain⟨h1,h2,h3,h4,h5⟩:=h
  obtain rfl:parts=[]:=Zi.1 h4
  obtain rfl:ps=[]:=Zi.1 h5
  have hne:flds≠[]:=fun e=>h3 (by rw[e];rfl)
  have hf:=zhq flds hne h2 w1 t
  have ho:zaT k (wk nm::((if faces.length=0 then [] else wk [105,109,112,108,101,109,101,110,116,115]::tNs [38] faces)++(pk [123]::(flds.flatMap tL++pk [125]::t))))=.ok (⟨k,nm,faces,flds,[],[]⟩,t):=by
   unfold zaT
   simp only[z8,zk]
   by_cases hl:faces.length=0
   ·obtain rfl:faces=[]:=Zi.1 hl
    simp only[Al3,if_true,yR,zkI,Al7,if_false,zk,yl,hf]
   ·have hfn:faces≠[]:=fun e=>hl (by rw[e];rfl)
    rw[if_neg hl]
    simp only[Al6,YW,decide_true,if_true,List.tail_cons]
    rw[zdk [38] faces hfn (pk [123]::(flds.flatMap tL++pk [125]::t)) (by rw[yj];decide)]
    simp only[zk,yl,hf]
  have e:tE ⟨k,nm,faces,flds,[],[]⟩++t=wk (if k=1 then [116,121,112,101] else [105,110,116,101,114,102,97,99,101])::(wk nm::((if faces.length=0 then [] else wk [105,109,112,108,101,109,101,110,116,115]::tNs [38] faces)++(pk [123]::(flds.flatMap tL++pk [125]::t)))):=by
   simp only[tE];rw[if_pos hk];simp
  rw[e]
  unfold zy Yk
  rw[Yc]
  rcases hk with rfl|rfl
  ·simp only[if_true,YW,List.tail_cons,ho,zk]
   rw[if_neg (by rintro⟨_,h⟩;revert h;decide),if_pos (by decide)]
  ·simp only[show ¬ ((2:Int)=1) by decide,if_false,YW,List.tail_cons,ho,zk]
   rw[if_neg (by rintro⟨_,h⟩;revert h;decide),if_neg (by decide),if_pos (by decide)]
 rw[if_neg hk] at h
 by_cases h3:k=3
 ·subst h3
  simp only[if_true,Al0,zn] at h
  obtain⟨g1,g2,g3,g4,g5⟩:=h
  obtain rfl:faces=[]:=Zi.1 g3
  obtain rfl:flds=[]:=Zi.1 g4
  obtain rfl:ps=[]:=Zi.1 g5
  have hne:parts≠[]:=fun e=>g2 (by rw[e];rfl)
  have e:tE ⟨3,nm,[],[],parts,[]⟩++t=wk [117,110,105,111,110]::wk nm::pk [61]::(tNs [124] parts++t):=by
   simp only[tE];rw[if_neg (by decide),if_pos trivial];simp
  rw[e]
  unfold zy Yk ZR
  rw[Yc]
  simp only[YW,List.tail_cons,z8,zk,yl,zdk [124] parts hne t ht]
  rw[if_neg (by rintro⟨_,h⟩;revert h;decide),if_neg (by decide),if_neg (by decide),if_pos (by decide)]
 rw[if_neg h3] at h
 by_cases h4:k=4
 ·subst h4
  simp only[if_true,Al0,zn] at h
  obtain⟨⟨g1,g1'⟩,g2,g3,g4,g5⟩:=h
  obtain rfl:faces=[]:=Zi.1 g3
  obtain rfl:flds=[]:=Zi.1 g4
  obtain rfl:ps=[]:=Zi.1 g5
  have hne:parts≠[]:=fun e=>g2 (by rw[e];rfl)
  have e:tE ⟨4,nm,[],[],parts,[]⟩++t=wk [101,110,117,109]::wk nm::pk [123]::(parts.map wk++pk [125]::t):=by
   simp only[tE];rw[if_neg (by decide),if_neg (by decide),if_pos trivial];simp
  rw[e]
  unfold zy Yk Y1
  rw[Yc]
  simp only[YW,List.tail_cons,z8,zk,yl,zjz parts hne g1' t]
  rw[if_neg (by rintro⟨_,h⟩;revert h;decide),if_neg (by decide),if_neg (by decide),if_neg (by decide),if_pos (by decide)]
 rw[if_neg h4] at h
 by_cases h5:k=5
 ·subst h5
  simp only[if_true,Al0,zn] at h
  obtain⟨g1,g2,g3,g4,g5⟩:=h
  obtain rfl:faces=[]:=Zi.1 g3
  obtain rfl:flds=[]:=Zi.1 g4
  obtain rfl:parts=[]:=Zi.1 g5
  have hne:ps≠[]:=fun e=>g2 (by rw[e];rfl)
  have e:tE ⟨5,nm,[],[],[],ps⟩++t=wk [105,110,112,117,116]::wk nm::pk [123]::(ps.flatMap tPa++pk [125]::t):=by
   simp only[tE];rw[if_neg (by decide),if_neg (by decide),if_neg (by decide)];simp
  rw[e]
  unfold zy Yk ZK
  rw[Yc]
  simp only[YW,List.tail_cons,z8,zk,yl,zd9 [125] (by decide) (by decide) ps hne g1 w2 t]
  rw[if_neg (by rintro⟨_,h⟩;revert h;decide),if_neg (by decide),if_neg (by decide),if_neg (by decide),if_neg (by decide),if_pos (by decide)]
 ·rw[if_neg h5] at h;cases h
theorem zmn (x:DefD) (t:TS):(hdT (tE x++t)).k=2:=by
 unfold tE
 repeat' split
 all_goals rfl
theorem zmu (l:List DefD) (t:TS) (ht:zjs t):zjs (l.flatMap tE++t):=by
 cases l with
 | nil=>exact ht
 | cons x r =>
  have:=zmn x (r.flatMap tE++t)
  simp only[zjs,List.flatMap_cons,ZF,isP,this]
  rfl
theorem zmr (x:DefD) (t:TS):tE x++t≠[]:=fun e=>by have:=zmn x t;rw[e] at this;simp[hdT] at this
theorem zdZ:∀(l:List DefD),l.all zL=true→(∀ x∈l,wfE x)→∀(n:Nat) (d:SR),l.length<n→Zy n d (l.flatMap tE)=.ok (⟨d.defs++l,d.q,d.m,d.told⟩,[])
 | [],_,_,n,d,hn=>by
  obtain⟨k,rfl⟩:∃ k,n=k+1:=⟨n-1,by omega⟩
  simp[Zy]
 | x::r,h,hw,n,d,hn=>by
  simp only[List.all_cons,Al0] at h
  simp only[Al2] at hn
  obtain⟨k,rfl⟩:∃ k,n=k+1:=⟨n-1,by omega⟩
  have hf:zjs (r.flatMap tE):=by have:=zmu r [] (by simp[zjs,isP,hdT]);simpa using this
  rw[List.flatMap_cons,Zy,if_neg (zmr _ _),zjP d x h.1 (hw x (.head _)) _ hf,zk,zdZ r h.2 (fun y hy=>hw y (.tail _ hy)) k _ (by omega)]
  simp[Zo]
theorem ziR (d:SR) (q m:List UInt8) (hd:d.told=false) (t:TS):zy d (tRt q m++t)=.ok (⟨d.defs,q,m,true⟩,t):=by
 unfold zy Yk
 have e:tRt q m++t=wk [115,99,104,101,109,97]::pk [123]::wk [113,117,101,114,121]::pk [58]::wk q::((if m=[] then [] else [wk [109,117,116,97,116,105,111,110],pk [58],wk m])++(pk [125]::t)):=by simp[tRt]
 rw[e,Yc,if_pos ⟨hd,by rw[YW];decide⟩]
 unfold zaB
 simp only[List.tail_cons,yl,zk,YW,decide_true,if_true,z8]
 by_cases hm:m=[]
 ·subst hm
  simp only[if_true,yR,zkI,Al7,if_false,zk,yl]
 ·simp only[hm,if_false,Al6,yR,YW,decide_true,if_true,List.tail_cons,yl,zk,z8]
theorem zkC (s:SchD) (h:yF s=true) (hw:zdh s):zbY (Yd s)=.ok (⟨s.defs,s.q,s.m,true⟩,[]):=by
 simp only[yF,Al0] at h
 unfold zbY Yd
 rw[ziR sr0 s.q s.m rfl,zk]
 have hl:s.defs.length≤(s.defs.flatMap tE).length:=ZL s.defs fun x _ e=>by have:=zmr x [];rw[List.append_nil] at this;exact this e
 rw[zdZ s.defs h.1 hw _ _ (by omega)]
 rfl
theorem zac (t:TS):zx t <:+ t∧wT (zx t)≤wT t:=by
 unfold zx
 split
 ·rename_i h
  have:=zbD (t:=t) (by rw[h];decide)
  exact⟨this.1,by omega⟩
 ·exact⟨List.suffix_refl _,Al4 _⟩
theorem ZU:GP bW wfW 1 yr:=fun t a t' h=>by
 obtain⟨s,t2,h3,h4⟩:=ze h
 obtain⟨_,t3,h5,h6⟩:=ze h4
 obtain⟨ty,t4,h7,h8⟩:=ze h6
 have g0:=zac t
 have g2:=zK _ _ _ h3
 have g3:=yg _ _ _ _ h5
 have g4:=zb2 4 _ _ _ h7
 have w2:=g2.w
 have w3:=g3.w
 have w4:=g4.w
 simp only[b0] at w3
 have hw:=zis g4.ok
 split at h8
 ·rename_i hp
  have h0:=YA hp
  obtain⟨v,t5,h9,h10⟩:=ze h8
  cases h10
  have g5:=Zs true 16 _ _ _ h9
  have w5:=g5.w
  exact⟨((((g5.suf.trans h0.1).trans g4.suf).trans g3.suf).trans g2.suf).trans g0.1,by simp only[bW];omega,hw.1,hw.2,g5.ok⟩
 ·cases h8
  exact⟨((g4.suf.trans g3.suf).trans g2.suf).trans g0.1,by simp only[bW,zfm.1];omega,hw.1,hw.2,zfm.2⟩
theorem ZT:GP bL wfL 1 yX:=fun t a t' h=>by
 obtain⟨s,t1,h1,h2⟩:=ze h
 obtain⟨ps,t2,h3,h4⟩:=ze h2
 obtain⟨_,t3,h5,h6⟩:=ze h4
 obtain⟨ty,t4,h7,h8⟩:=ze h6
 obtain⟨ds,t5,h9,h10⟩:=ze h8
 cases h10
 have g0:=zac t
 have g1:=zK _ _ _ h1
 have g2:t2 <:+ t1∧bWs ps+wT t2≤wT t1∧∀ x∈ps,wfW x:=by
  split at h3
  ·rename_i hp
   have h0:=YA hp
   have g:=Yv ZU _ _ _ h3
   have w:=g.w
   have e:=zkj ps
   exact⟨g.suf.trans h0.1,by omega,g.ok⟩
  ·cases h3;exact⟨List.suffix_refl _,by simp[bWs],fun x hx=>(by cases hx)⟩
 have g3:=yg _ _ _ _ h5
 have g4:=zb2 4 _ _ _ h7
 have g5:=zjj true 16 _ _ _ h9
 have w1:=g1.w
 have w3:=g3.w
 have w4:=g4.w
 have w5:=g5.w
 simp only[b0] at w3
 have hw:=zis g4.ok
 exact⟨((((g5.suf.trans g4.suf).trans g3.suf).trans g2.1).trans g1.suf).trans g0.1,by simp only[bL];omega,g2.2.2,hw.1,hw.2,g5.ok⟩
theorem zbc:GP List.length T1 4 ZI:=fun t a t' h=>by
 unfold ZI at h
 split at h
 ·cases h
 ·have g0:=zac t
  have g1:=zK _ _ _ h
  have w1:=g1.w
  exact⟨g1.suf.trans g0.1,by omega,trivial⟩
theorem GP.low {α:Type} {b:α→Nat} {ok:α→Prop} {c c':Nat} {f:TS→PR α} (h:GP b ok c f) (hc:c'≤c):GP b ok c' f:=fun t a t' e=>by
 have g:=h t a t' e
 have w:=g.w
 exact⟨g.suf,by omega,g.ok⟩
theorem zmp (l:List (List UInt8)):bT l=sm List.length l:=by
 unfold bT sm
 induction l with
 | nil=>rfl
 | cons s r ih=>simp only[List.map_cons,List.sum_cons,Al2];omega
theorem znh (l:List FldD):bLs l+l.length=sm bL l:=rfl
theorem zdp (m:List UInt8):GP bT T1 1 (ZN m):=fun t a t' h=>by
 obtain⟨s,t1,h1,h2⟩:=ze h
 have g0:(if isP m t then t.tail else t) <:+ t∧wT (if isP m t then t.tail else t)≤wT t:=by
  split
  ·rename_i hp;have:=YA hp;exact⟨this.1,by omega⟩
  ·exact⟨List.suffix_refl _,Al4 _⟩
 have g1:=zK _ _ _ h1
 have w1:=g1.w
 have g2:=zbw (zK.low (by decide)) _ [s] _ _ _ (fun x hx=>trivial) h2
 have e:=zmp a
 have e1:sm List.length [s]=s.length+1:=by simp[sm]
 exact⟨(g2.1.trans g1.suf).trans g0.1,by omega,trivial⟩
theorem zbN (k:Int):GP bE wfE 1 (zaT k):=fun t a t' h=>by
 obtain⟨s,t1,h1,h2⟩:=ze h
 obtain⟨fs,t2,h3,h4⟩:=ze h2
 obtain⟨_,t3,h5,h6⟩:=ze h4
 obtain⟨l,t4,h7,h8⟩:=ze h6
 cases h8
 have g1:=zK _ _ _ h1
 have g2:t2 <:+ t1∧bT fs+wT t2≤wT t1:=by
  split at h3
  ·rename_i hp
   have h0:=zbe hp
   have g:=zdp _ _ _ _ h3
   have w:=g.w
   exact⟨g.suf.trans h0.1,by omega⟩
  ·cases h3;exact⟨List.suffix_refl _,by simp[bT]⟩
 have g3:=yg _ _ _ _ h5
 have g4:=Yv ZT _ _ _ h7
 have w1:=g1.w
 have w3:=g3.w
 have w4:=g4.w
 simp only[b0] at w3
 have e:=znh l
 exact⟨((g4.suf.trans g3.suf).trans g2.1).trans g1.suf,by simp only[bE,bT,bWs,List.map_nil,List.sum_nil] at g2 ⊢;omega,g4.ok,fun y hy=>nomatch hy⟩
theorem ze0:GP bE wfE 1 Y1:=fun t a t' h=>by
 obtain⟨s,t1,h1,h2⟩:=ze h
 obtain⟨_,t3,h5,h6⟩:=ze h2
 obtain⟨l,t4,h7,h8⟩:=ze h6
 cases h8
 have g1:=zK _ _ _ h1
 have g3:=yg _ _ _ _ h5
 have g4:=Yv (zbc.low (by decide)) _ _ _ h7
 have w1:=g1.w
 have w3:=g3.w
 have w4:=g4.w
 simp only[b0] at w3
 have e:=zmp l
 exact⟨(g4.suf.trans g3.suf).trans g1.suf,by simp only[bE,bLs,bWs,List.map_nil,List.sum_nil,show bT []=0 from rfl] at e ⊢;omega,fun y hy=>(nomatch hy),fun y hy=>nomatch hy⟩
theorem zds:GP bE wfE 1 ZR:=fun t a t' h=>by
 obtain⟨s,t1,h1,h2⟩:=ze h
 obtain⟨_,t3,h5,h6⟩:=ze h2
 obtain⟨l,t4,h7,h8⟩:=ze h6
 cases h8
 have g1:=zK _ _ _ h1
 have g3:=yg _ _ _ _ h5
 have g4:=zdp _ _ _ _ h7
 have w1:=g1.w
 have w3:=g3.w
 have w4:=g4.w
 simp only[b0] at w3
 exact⟨(g4.suf.trans g3.suf).trans g1.suf,by simp only[bE,bLs,bWs,List.map_nil,List.sum_nil,show bT []=0 from rfl];omega,fun y hy=>(nomatch hy),fun y hy=>nomatch hy⟩
theorem zdN:GP bE wfE 1 ZK:=fun t a t' h=>by
 obtain⟨s,t1,h1,h2⟩:=ze h
 obtain⟨_,t3,h5,h6⟩:=ze h2
 obtain⟨l,t4,h7,h8⟩:=ze h6
 cases h8
 have g1:=zK _ _ _ h1
 have g3:=yg _ _ _ _ h5
 have g4:=Yv ZU _ _ _ h7
 have w1:=g1.w
 have w3:=g3.w
 have w4:=g4.w
 simp only[b0] at w3
 have e:=zkj l
 exact⟨(g4.suf.trans g3.suf).trans g1.suf,by simp only[bE,bLs,List.map_nil,List.sum_nil,show bT []=0 from rfl];omega,fun y hy=>(nomatch hy),g4.ok⟩
def bSR (d:SR):Nat:=bEs d.defs+d.q.length+d.m.length
def zhs (d:SR):Prop:=∀ x∈d.defs,wfE x
theorem zgl (l:List DefD) (x:DefD):bEs (l++[x])=bEs l+bE x:=by simp[bEs]
theorem zke {d:SR} {x:DefD} (hw:zhs d) (hx:wfE x):zhs (Zo d x)∧bSR (Zo d x)=bSR d+bE x:=by
 refine⟨fun y hy=>?_,by simp only[bSR,Zo,zgl];omega⟩
 rcases List.mem_append.1 hy with h|h
 ·exact hw y h
 ·simp at h;subst h;exact hx
structure SchFit (d:SR) (t:TS) (d':SR) (t':TS):Prop where
 suf:t' <:+ t
 w:bSR d'+1+wT t'≤bSR d+wT t
 wf:zhs d→zhs d'
theorem zeB {d:SR} {t:TS} {d':SR} {t':TS} (h:zaB d t=.ok (d',t')):SchFit d t d' t':=by
 obtain⟨_,t1,h1,h2⟩:=ze h
 obtain⟨_,t2,h3,h4⟩:=ze h2
 obtain⟨_,t3,h5,h6⟩:=ze h4
 obtain⟨q,t4,h7,h8⟩:=ze h6
 obtain⟨m,t5,h9,h10⟩:=ze h8
 obtain⟨_,t6,h11,h12⟩:=ze h10
 cases h12
 have g1:=yg _ _ _ _ h1
 have g2:t2 <:+ t1∧wT t2≤wT t1:=by
  split at h3
  ·rename_i hw;cases h3;have h0:=zbe hw;exact⟨h0.1,by omega⟩
  ·cases h3
 have g3:=yg _ _ _ _ h5
 have g4:=zK _ _ _ h7
 have g5:t5 <:+ t4∧m.length+wT t5≤wT t4:=by
  split at h9
  ·rename_i hw
   have h0:=zbe hw
   obtain⟨_,t7,h13,h14⟩:=ze h9
   have g6:=yg _ _ _ _ h13
   have g7:=zK _ _ _ h14
   have w6:=g6.w
   have w7:=g7.w
   exact⟨(g7.suf.trans g6.suf).trans h0.1,by simp only[b0] at w6;omega⟩
  ·cases h9;exact⟨List.suffix_refl _,by simp⟩
 have g6:=yg _ _ _ _ h11
 have w1:=g1.w
 have w3:=g3.w
 have w4:=g4.w
 have w6:=g6.w
 simp only[b0] at w1 w3 w6
 exact⟨((((g6.suf.trans g5.1).trans g4.suf).trans g3.suf).trans g2.1).trans g1.suf,by simp only[bSR];omega,fun hw=>hw⟩
theorem zaW {d:SR} {w:List UInt8} {t:TS} (hw:isW w t=true) {f:TS→PR DefD} (hf:GP bE wfE 1 f) {d':SR} {t':TS} (h:pb (f t.tail) (fun x t=>.ok (Zo d x,t))=.ok (d',t')):SchFit d t d' t':=by
 obtain⟨x,t1,h1,h2⟩:=ze h
 cases h2
 have h0:=zbe hw
 have g:=hf _ _ _ h1
 have w1:=g.w
 have e:bSR (Zo d x)=bSR d+bE x:=by simp only[bSR,Zo,zgl];omega
 exact⟨g.suf.trans h0.1,by omega,fun hw=>(zke hw g.ok).1⟩
theorem zcC {d:SR} {t:TS} {d':SR} {t':TS} (h:zy d t=.ok (d',t')):SchFit d t d' t':=by
 unfold zy at h
 have g0:=zac t
 generalize zx t=u at h g0
 suffices hs:SchFit d u d' t' from ⟨hs.suf.trans g0.1,by have:=hs.w;omega,hs.wf⟩
 unfold Yk at h
 split at h
 ·rename_i hc
  have h0:=zbe hc.2
  have g:=zeB h
  have w:=g.w
  exact⟨g.suf.trans h0.1,by omega,g.wf⟩
 split at h
 ·rename_i hc;exact zaW hc (zbN 1) h
 split at h
 ·rename_i hc;exact zaW hc (zbN 2) h
 split at h
 ·rename_i hc;exact zaW hc zds h
 split at h
 ·rename_i hc;exact zaW hc ze0 h
 split at h
 ·rename_i hc;exact zaW hc zdN h
 ·cases h
theorem zgy (d d':SR) (t:TS):¬ zy d t=.ok (d',t):=fun h=>by
 unfold zy at h
 have g0:=zac t
 generalize zx t=u at h g0
 have tl:∀ w,isW w u=true→wT u.tail<wT t:=fun w hw=>by have:=zbe hw;omega
 have put:∀ {f:TS→PR DefD},GP bE wfE 1 f→wT u.tail<wT t→pb (f u.tail) (fun x t=>(.ok (Zo d x,t):PR SR))=.ok (d',t)→False:=fun {f} hf hl h=>by
  obtain⟨x,t1,h1,h2⟩:=ze h
  cases h2
  have:=(hf _ _ _ h1).w
  omega
 unfold Yk at h
 split at h
 ·rename_i hc
  have h1:=tl _ hc.2
  have h2:=zmY (zeB h).suf
  omega
 split at h
 ·rename_i hc;exact put (zbN 1) (tl _ hc) h
 split at h
 ·rename_i hc;exact put (zbN 2) (tl _ hc) h
 split at h
 ·rename_i hc;exact put zds (tl _ hc) h
 split at h
 ·rename_i hc;exact put ze0 (tl _ hc) h
 split at h
 ·rename_i hc;exact put zdN (tl _ hc) h
 ·cases h
theorem SchFit.lt {d:SR} {t:TS} {d':SR} {t':TS} (h:SchFit d t d' t') (hd:bSR d≤bSR d'):t'.length<t.length:=by
 obtain⟨p,hp⟩:=h.suf
 have h2:=h.w
 cases p with
 | nil=>simp at hp;subst hp;omega
 | cons x p=>rw[← hp];simp;omega
theorem zea:∀(n:Nat) (d:SR) (t:TS) (d':SR) (t':TS),Zy n d t=.ok (d',t')→t'=[]∧bSR d'≤bSR d+wT t∧(zhs d→zhs d')
 | 0,_,_,_,_,h=>by cases h
 | n+1,d,t,d',t',h=>by
  simp only[Zy] at h
  split at h
  ·rename_i ht;cases h;exact⟨ht,by omega,id⟩
  ·obtain⟨d1,t1,h1,h2⟩:=ze h
   have g1:=zcC h1
   have g2:=zea n _ _ _ _ h2
   have w:=g1.w
   exact⟨g2.1,by omega,fun hw=>g2.2.2 (g1.wf hw)⟩
theorem zgR {t:TS} {d:SR} {t':TS} (h:zbY t=.ok (d,t')):t'=[]∧bSR d≤wT t∧zhs d:=by
 obtain⟨d1,t1,h1,h2⟩:=ze h
 have g1:=zcC h1
 have g2:=zea _ _ _ _ _ h2
 have w:=g1.w
 have e:bSR sr0=0:=rfl
 exact⟨g2.1,by omega,g2.2.2 (g1.wf fun x hx=>nomatch hx)⟩
theorem RT.said {t:TS} (h:RT t):RT (zx t):=by unfold zx;split;exact h.tail;exact h
theorem zgT:GR (fun x=>yW x=true) yr:=fun t a t' hr h=>by
 obtain⟨s,t2,h3,h4⟩:=ze h
 obtain⟨_,t3,h5,h6⟩:=ze h4
 obtain⟨ty,t4,h7,h8⟩:=ze h6
 have g2:=yD _ _ _ hr.said h3
 have g3:=y7 _ _ _ _ g2.2 h5
 have g4:=zko _ _ _ g3.2 h7
 split at h8
 ·obtain⟨v,t5,h9,h10⟩:=ze h8
  cases h10
  have g5:=zhG true 16 _ _ _ g4.2.tail h9
  refine⟨?_,g5.2⟩
  simp only[yW,g2.1,g4.1,za5,if_true,Bool.true_and]
  exact zeS (by omega) (by omega) g5.1
 ·cases h8
  refine⟨?_,g4.2⟩
  simp only[yW,g2.1,g4.1,za5,Bool.true_and]
  exact zU rfl
theorem zkh:GR (fun x=>Zm x=true) yX:=fun t a t' hr h=>by
 obtain⟨s,t1,h1,h2⟩:=ze h
 obtain⟨ps,t2,h3,h4⟩:=ze h2
 obtain⟨_,t3,h5,h6⟩:=ze h4
 obtain⟨ty,t4,h7,h8⟩:=ze h6
 obtain⟨ds,t5,h9,h10⟩:=ze h8
 cases h10
 have g1:=yD _ _ _ hr.said h1
 have g2:ps.all yW=true∧RT t2:=by
  split at h3
  ·have:=zaK zgT _ _ _ g1.2.tail h3;exact⟨yf.2 this.1.2,this.2⟩
  ·cases h3;exact⟨rfl,g1.2⟩
 have g3:=y7 _ _ _ _ g2.2 h5
 have g4:=zko _ _ _ g3.2 h7
 have g5:=zlR (fixed:=true) (k:=16) (dp:=0) (by omega) (by omega) _ _ _ g4.2 h9
 exact⟨by simp[Zm,g1.1,g2.1,g4.1,g5.1],g5.2⟩
theorem zlw:GR (fun s=>zm s=true∧yK s=true) ZI:=fun t a t' hr h=>by
 unfold ZI at h
 split at h
 ·cases h
 ·rename_i hc
  have g1:=yD _ _ _ hr.said h
  refine⟨⟨g1.1,?_⟩,g1.2⟩
  unfold zZ at h
  split at h
  ·rename_i hk
   simp only[Yy,Al8] at h
   simp only[isW,hk,h.1,decide_true,Bool.true_and,zn,not_or] at hc
   simp[yK,hc]
  ·cases h
theorem ziy (m:List UInt8):GR (fun l=>l.length≠0∧l.all zm=true) (ZN m):=fun t a t' hr h=>by
 obtain⟨s,t1,h1,h2⟩:=ze h
 have hr2:RT (if isP m t then t.tail else t):=by split;exact hr.tail;exact hr
 have g1:=yD _ _ _ hr2 h1
 have g2:=zdH yD _ [s] _ _ _ g1.2 (fun x hx=>by simp at hx;subst hx;exact g1.1) h2
 refine⟨⟨?_,yf.2 g2.1⟩,g2.2⟩
 have:∀(n:Nat) (l:List (List UInt8)) (t:TS) (l':List (List UInt8)) (t':TS),yd m zZ n l t=.ok (l',t')→l.length≤l'.length:=by
  intro n
  induction n with
  | zero=>intro l t l' t' h;cases h
  | succ n ih =>
   intro l t l' t' h
   simp only[yd] at h
   split at h
   ·obtain⟨y,t2,h3,h4⟩:=ze h
    have:=ih _ _ _ _ h4
    simp at this;omega
   ·cases h;exact Al4 _
 have:=this _ _ _ _ _ h2
 simp at this;omega
theorem zk1 (k:Int) (hk:k=1∨k=2):GR (fun x=>zL x=true) (zaT k):=fun t a t' hr h=>by
 obtain⟨s,t1,h1,h2⟩:=ze h
 obtain⟨fs,t2,h3,h4⟩:=ze h2
 obtain⟨_,t3,h5,h6⟩:=ze h4
 obtain⟨l,t4,h7,h8⟩:=ze h6
 cases h8
 have g1:=yD _ _ _ hr h1
 have g2:fs.all zm=true∧RT t2:=by
  split at h3
  ·have:=ziy _ _ _ _ g1.2.tail h3;exact⟨this.1.2,this.2⟩
  ·cases h3;exact⟨rfl,g1.2⟩
 have g3:=y7 _ _ _ _ g2.2 h5
 have g4:=zaK zkh _ _ _ g3.2 h7
 refine⟨?_,g4.2⟩
 simp only[zL,g1.1,g2.1,yf.2 g4.1.2,Bool.true_and]
 rw[if_pos hk]
 simpa using g4.1.1
theorem zlr:GR (fun x=>zL x=true) Y1:=fun t a t' hr h=>by
 obtain⟨s,t1,h1,h2⟩:=ze h
 obtain⟨_,t3,h5,h6⟩:=ze h2
 obtain⟨l,t4,h7,h8⟩:=ze h6
 cases h8
 have g1:=yD _ _ _ hr h1
 have g3:=y7 _ _ _ _ g1.2 h5
 have g4:=zaK zlw _ _ _ g3.2 h7
 refine⟨?_,g4.2⟩
 simp only[zL,g1.1,yf.2 fun x hx=>(g4.1.2 x hx).1,yf.2 fun x hx=>(g4.1.2 x hx).2,Bool.true_and]
 rw[if_neg (by decide),if_neg (by decide),if_pos trivial]
 simpa using g4.1.1
theorem zj0:GR (fun x=>zL x=true) ZR:=fun t a t' hr h=>by
 obtain⟨s,t1,h1,h2⟩:=ze h
 obtain⟨_,t3,h5,h6⟩:=ze h2
 obtain⟨l,t4,h7,h8⟩:=ze h6
 cases h8
 have g1:=yD _ _ _ hr h1
 have g3:=y7 _ _ _ _ g1.2 h5
 have g4:=ziy _ _ _ _ g3.2 h7
 refine⟨?_,g4.2⟩
 simp only[zL,g1.1,g4.1.2,Bool.true_and]
 rw[if_neg (by decide),if_pos trivial]
 simpa using g4.1.1
theorem zla:GR (fun x=>zL x=true) ZK:=fun t a t' hr h=>by
 obtain⟨s,t1,h1,h2⟩:=ze h
 obtain⟨_,t3,h5,h6⟩:=ze h2
 obtain⟨l,t4,h7,h8⟩:=ze h6
 cases h8
 have g1:=yD _ _ _ hr h1
 have g3:=y7 _ _ _ _ g1.2 h5
 have g4:=zaK zgT _ _ _ g3.2 h7
 refine⟨?_,g4.2⟩
 simp only[zL,g1.1,yf.2 g4.1.2,Bool.true_and]
 rw[if_neg (by decide),if_neg (by decide),if_neg (by decide),if_pos trivial]
 simpa using g4.1.1
def zgE (d:SR):Prop:=d.defs.all zL=true∧(d.told=true→zm d.q=true∧(d.m=[]∨zm d.m=true))
theorem zlG {d:SR} {t:TS} {d':SR} {t':TS} (hr:RT t) (hd:zgE d) (h:zaB d t=.ok (d',t')):zgE d'∧RT t'∧d'.told=true:=by
 obtain⟨_,t1,h1,h2⟩:=ze h
 obtain⟨_,t2,h3,h4⟩:=ze h2
 obtain⟨_,t3,h5,h6⟩:=ze h4
 obtain⟨q,t4,h7,h8⟩:=ze h6
 obtain⟨m,t5,h9,h10⟩:=ze h8
 obtain⟨_,t6,h11,h12⟩:=ze h10
 cases h12
 have g1:=y7 _ _ _ _ hr h1
 have g2:RT t2:=by
  split at h3
  ·cases h3;exact g1.2.tail
  ·cases h3
 have g3:=y7 _ _ _ _ g2 h5
 have g4:=yD _ _ _ g3.2 h7
 have g5:(m=[]∨zm m=true)∧RT t5:=by
  split at h9
  ·obtain⟨_,t7,h13,h14⟩:=ze h9
   have g6:=y7 _ _ _ _ g4.2.tail h13
   have g7:=yD _ _ _ g6.2 h14
   exact⟨.inr g7.1,g7.2⟩
  ·cases h9;exact⟨.inl rfl,g4.2⟩
 have g6:=y7 _ _ _ _ g5.2 h11
 exact⟨⟨hd.1,fun _=>⟨g4.1,g5.1⟩⟩,g6.2,rfl⟩
theorem zd2 {d:SR} {t:TS} (hr:RT t) (hd:zgE d) {f:TS→PR DefD} (hf:GR (fun x=>zL x=true) f) {d':SR} {t':TS} (h:pb (f t.tail) (fun x t=>.ok (Zo d x,t))=.ok (d',t')):zgE d'∧RT t':=by
 obtain⟨x,t1,h1,h2⟩:=ze h
 cases h2
 have g:=hf _ _ _ hr.tail h1
 exact⟨⟨by simp[Zo,hd.1,g.1],hd.2⟩,g.2⟩
theorem ziw {d:SR} {t:TS} {d':SR} {t':TS} (hr:RT t) (hd:zgE d) (h:zy d t=.ok (d',t')):zgE d'∧RT t':=by
 unfold zy at h
 have hr:=hr.said
 generalize zx t=u at h hr
 unfold Yk at h
 split at h
 ·have g:=zlG hr.tail hd h;exact⟨g.1,g.2.1⟩
 split at h
 ·exact zd2 hr hd (zk1 1 (.inl rfl)) h
 split at h
 ·exact zd2 hr hd (zk1 2 (.inr rfl)) h
 split at h
 ·exact zd2 hr hd zj0 h
 split at h
 ·exact zd2 hr hd zlr h
 split at h
 ·exact zd2 hr hd zla h
 ·cases h
theorem zgp:∀(n:Nat) (d:SR) (t:TS) (d':SR) (t':TS),RT t→zgE d→Zy n d t=.ok (d',t')→zgE d'
 | 0,_,_,_,_,_,_,h=>by cases h
 | n+1,d,t,d',t',hr,hd,h=>by
  simp only[Zy] at h
  split at h
  ·cases h;exact hd
  ·obtain⟨d1,t1,h1,h2⟩:=ze h
   have g:=ziw hr hd h1
   exact zgp n _ _ _ _ g.2 g.1 h2
theorem zno {t:TS} {d:SR} {t':TS} (hr:RT t) (h:zbY t=.ok (d,t')):yF (zbL d)=true:=by
 obtain⟨d1,t1,h1,h2⟩:=ze h
 have g:=ziw hr ⟨rfl,fun e=>absurd e (by decide)⟩ h1
 have g2:=zgp _ _ _ _ _ g.2 g.1 h2
 unfold zbL yF
 split
 ·rename_i ht
  have:=g2.2 ht
  simp only[g2.1,this.1,Bool.true_and,ZH,zn]
  exact this.2
 ·simp only[g2.1,Bool.true_and,Al0,ZH,zn]
  refine⟨by decide,?_⟩
  split
  ·exact .inr (by decide)
  ·exact .inl rfl
end Go.Proofs.YtaielcdfcgpbiaaGreatDoor
