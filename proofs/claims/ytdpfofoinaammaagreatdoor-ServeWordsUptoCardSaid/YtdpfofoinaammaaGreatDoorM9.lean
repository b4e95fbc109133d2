import Derived.Test.YtdpfofoinaammaaGreatDoorRows
import Derived.Test.YtdpfofoinaammaaGreatDoorM8
set_option maxRecDepth 100000
set_option linter.all false
namespace Go.Proofs.YtdpfofoinaammaaGreatDoor
open Go.Ab Go.Lib
theorem Ra (xs:List (List AV)) (hl:xs.length≤1048576) (hs:xs.map (·.map AV.strip1)=xs):zz Tryz.prog 82 [.sl .no 6 xs] (.sl .no 6 xs):=by
 refine zz.go ir82 ck82 (yX _) fun KP Q hQ=>?_
 simp(disch:=first|omega|assumption) only[ir82,go_sem]
 refine W8 (fun h=>?_) ?_
 ·simp(disch:=first|omega|assumption) only[go_sem]
  exact hQ _ _ _ _ nofun rfl (by simp[zL,zd,AV.strip,AV.strip1,h])
 ·simp(disch:=first|omega|assumption) only[go_sem]
  refine ZR (yI.full _ _ _) ?_ ?_ fun o' H' h1 h2 h3=>?_
  ·simp;omega
  ·simp[maxLen];omega
  ·simp(disch:=first|omega|assumption) only[go_sem]
   refine hQ _ _ _ _ nofun rfl ?_
   simp only[zL,zd,AV.strip,AV.strip1,UE,hs,if_true]
theorem QY (xs:List (List AV)) (hl:xs.length≤1048576) (hs:xs.map (·.map AV.strip1)=xs):zz Tryz.prog 83 [.sl .no 5 xs] (.sl .no 5 xs):=by
 refine zz.go ir83 ck83 (yX _) fun KP Q hQ=>?_
 simp(disch:=first|omega|assumption) only[ir83,go_sem]
 refine W8 (fun h=>?_) ?_
 ·simp(disch:=first|omega|assumption) only[go_sem]
  exact hQ _ _ _ _ nofun rfl (by simp[zL,zd,AV.strip,AV.strip1,h])
 ·simp(disch:=first|omega|assumption) only[go_sem]
  refine ZR (yI.full _ _ _) ?_ ?_ fun o' H' h1 h2 h3=>?_
  ·simp;omega
  ·simp[maxLen];omega
  ·simp(disch:=first|omega|assumption) only[go_sem]
   refine hQ _ _ _ _ nofun rfl ?_
   simp only[zL,zd,AV.strip,AV.strip1,UE,hs,if_true]
theorem SK (xs:List (List AV)) (hl:xs.length≤1048576) (hs:xs.map (·.map AV.strip1)=xs):zz Tryz.prog 84 [.sl .no 4 xs] (.sl .no 4 xs):=by
 refine zz.go ir84 ck84 (yX _) fun KP Q hQ=>?_
 simp(disch:=first|omega|assumption) only[ir84,go_sem]
 refine W8 (fun h=>?_) ?_
 ·simp(disch:=first|omega|assumption) only[go_sem]
  exact hQ _ _ _ _ nofun rfl (by simp[zL,zd,AV.strip,AV.strip1,h])
 ·simp(disch:=first|omega|assumption) only[go_sem]
  refine ZR (yI.full _ _ _) ?_ ?_ fun o' H' h1 h2 h3=>?_
  ·simp;omega
  ·simp[maxLen];omega
  ·simp(disch:=first|omega|assumption) only[go_sem]
   refine hQ _ _ _ _ nofun rfl ?_
   simp only[zL,zd,AV.strip,AV.strip1,UE,hs,if_true]
theorem Rg (xs:List (List AV)) (hl:xs.length≤1048576) (hs:xs.map (·.map AV.strip1)=xs):zz Tryz.prog 85 [.sl .no 6 xs] (.sl .no 6 xs):=by
 refine zz.go ir85 ck85 (yX _) fun KP Q hQ=>?_
 simp(disch:=first|omega|assumption) only[ir85,go_sem]
 refine W8 (fun h=>?_) ?_
 ·simp(disch:=first|omega|assumption) only[go_sem]
  exact hQ _ _ _ _ nofun rfl (by simp[zL,zd,AV.strip,AV.strip1,h])
 ·simp(disch:=first|omega|assumption) only[go_sem]
  refine ZR (yI.full _ _ _) ?_ ?_ fun o' H' h1 h2 h3=>?_
  ·simp;omega
  ·simp[maxLen];omega
  ·simp(disch:=first|omega|assumption) only[go_sem]
   refine hQ _ _ _ _ nofun rfl ?_
   simp only[zL,zd,AV.strip,AV.strip1,UE,hs,if_true]
theorem Qj (xs:List (List AV)) (hl:xs.length≤1048576) (hs:xs.map (·.map AV.strip1)=xs):zz Tryz.prog 90 [.sl .no 7 xs] (.sl .no 7 xs):=by
 refine zz.go ir90 ck90 (yX _) fun KP Q hQ=>?_
 simp(disch:=first|omega|assumption) only[ir90,go_sem]
 refine W8 (fun h=>?_) ?_
 ·simp(disch:=first|omega|assumption) only[go_sem]
  exact hQ _ _ _ _ nofun rfl (by simp[zL,zd,AV.strip,AV.strip1,h])
 ·simp(disch:=first|omega|assumption) only[go_sem]
  refine ZR (yI.full _ _ _) ?_ ?_ fun o' H' h1 h2 h3=>?_
  ·simp;omega
  ·simp[maxLen];omega
  ·simp(disch:=first|omega|assumption) only[go_sem]
   refine hQ _ _ _ _ nofun rfl ?_
   simp only[zL,zd,AV.strip,AV.strip1,UE,hs,if_true]
theorem Rr (xs:List (List AV)) (hl:xs.length≤1048576) (hs:xs.map (·.map AV.strip1)=xs):zz Tryz.prog 96 [.sl .no 1 xs] (.sl .no 1 xs):=by
 refine zz.go ir96 ck96 (yX _) fun KP Q hQ=>?_
 simp(disch:=first|omega|assumption) only[ir96,go_sem]
 refine W8 (fun h=>?_) ?_
 ·simp(disch:=first|omega|assumption) only[go_sem]
  exact hQ _ _ _ _ nofun rfl (by simp[zL,zd,AV.strip,AV.strip1,h])
 ·simp(disch:=first|omega|assumption) only[go_sem]
  refine ZR (yI.full _ _ _) ?_ ?_ fun o' H' h1 h2 h3=>?_
  ·simp;omega
  ·simp[maxLen];omega
  ·simp(disch:=first|omega|assumption) only[go_sem]
   refine hQ _ _ _ _ nofun rfl ?_
   simp only[zL,zd,AV.strip,AV.strip1,UE,hs,if_true]
theorem SJ (xs:List (List AV)) (hl:xs.length≤1048576) (hs:xs.map (·.map AV.strip1)=xs):zz Tryz.prog 255 [.sl .no 2 xs] (.sl .no 2 xs):=by
 refine zz.go ir255 ck255 (yX _) fun KP Q hQ=>?_
 simp(disch:=first|omega|assumption) only[ir255,go_sem]
 refine W8 (fun h=>?_) ?_
 ·simp(disch:=first|omega|assumption) only[go_sem]
  exact hQ _ _ _ _ nofun rfl (by simp[zL,zd,AV.strip,AV.strip1,h])
 ·simp(disch:=first|omega|assumption) only[go_sem]
  refine ZR (yI.full _ _ _) ?_ ?_ fun o' H' h1 h2 h3=>?_
  ·simp;omega
  ·simp[maxLen];omega
  ·simp(disch:=first|omega|assumption) only[go_sem]
   refine hQ _ _ _ _ nofun rfl ?_
   simp only[zL,zd,AV.strip,AV.strip1,UE,hs,if_true]
def Z8 (sz:Nat) (xs:List AV):Option AV:=match xs with
 | [.sl .no s l]=>if s=sz∧l.length≤1048576∧Xp (l.map (·.map AV.strip1)) l=true∧AV.freess l=true then some (.sl .no sz l) else none
 | _=>none
theorem y9 {f:FuncId} {sz:Nat} (hc:∀ xs:List (List AV),xs.length≤1048576→xs.map (·.map AV.strip1)=xs→zz Tryz.prog f [.sl .no sz xs] (.sl .no sz xs)) {xs:List AV} {r:AV} (h:Z8 sz xs=some r):RI f xs r:=by
 unfold Z8 at h
 split at h
 ·rename_i s l
  split at h
  ·rename_i hk
   obtain⟨rfl,h1,h2,h3⟩:=hk
   simp only[zx] at h;subst h
   exact⟨by simp[AV.frees,AV.free,h3],by simp[AV.free,h3],hc l h1 (X8 _ _ h2)⟩
  ·cases h
 ·cases h
def Ov (f:FuncId) (xs:List AV):Option AV :=
 if f=82 then Z8 6 xs
 else if f=83 then Z8 5 xs
 else if f=84 then Z8 4 xs
 else if f=85 then Z8 6 xs
 else if f=90 then Z8 7 xs
 else if f=96 then Z8 1 xs
 else if f=255 then Z8 2 xs
 else PW f xs
theorem yW (f:FuncId) (xs:List AV) (r:AV) (h:Ov f xs=some r):RI f xs r:=by
 unfold Ov at h
 split at h
 ·rename_i e;subst e;exact y9 Ra h
 split at h
 ·rename_i e;subst e;exact y9 QY h
 split at h
 ·rename_i e;subst e;exact y9 SK h
 split at h
 ·rename_i e;subst e;exact y9 Rg h
 split at h
 ·rename_i e;subst e;exact y9 Qj h
 split at h
 ·rename_i e;subst e;exact y9 Rr h
 split at h
 ·rename_i e;subst e;exact y9 SJ h
 exact QE f xs r h
abbrev Oj (R:AV→zb→Prop):zZ→zb→Prop:=fun e H'=>∃ v,e=.ret v∧R v H'
def Vc:List UInt8:=[95,95,116,121,112,101,110,97,109,101]
def ZO:List AV:=[.int .i64 0,.str [],.str Vc,.sl .no 6 [],.sl .no 2 [],.str [],.sl .no 7 []]
noncomputable def Mz:Tr:=(.node 470 (.fn ir470 false) (.node 363 (.fn ir363 false) (.node 59 (.fn ir59 false) .leaf .leaf) (.node 390 (.fn ir390 false) .leaf .leaf)) (.node 513 (.fn ir513 false) (.node 512 (.fn ir512 false) .leaf .leaf) (.node 514 (.fn ir514 false) .leaf .leaf)))
theorem Sa:ZA Tryz.prog Mz:=⟨⟨ck470,by kernel_rfl⟩,⟨⟨ck363,by kernel_rfl⟩,⟨⟨ck59,by kernel_rfl⟩,trivial,trivial⟩,⟨⟨ck390,by kernel_rfl⟩,trivial,trivial⟩⟩,⟨⟨ck513,by kernel_rfl⟩,⟨⟨ck512,by kernel_rfl⟩,trivial,trivial⟩,⟨⟨ck514,by kernel_rfl⟩,trivial,trivial⟩⟩⟩
theorem Mx:zz Tryz.prog 363 [.agg ZO] (.str Vc):=zz.of_ev2 (ZA.tab Sa yW) 1000 100 rfl rfl (by decide +kernel)
theorem holdsA:zz Tryz.prog 390 [.sl .no 6 [],.sl .no 2 []] (.bool true):=zz.of_ev2 (ZA.tab Sa yW) 1000 100 rfl rfl (by decide +kernel)
theorem Qw (c:AV):zz Tryz.prog 471 [.sl .nil 2 [],c] (.int .i64 (-1)):=by
 refine zz.go ir471 ck471 (yX _) fun KP Q hQ=>?_
 simp(disch:=first|omega|assumption) only[ir471,go_sem]
 refine R0 (fun _:Unit=>[]) (fun _ _=>True) (fun _=>0) () (by simp(disch:=first|omega|assumption) only[go_sem]) trivial ?_
 rintro⟨⟩ H1 J _ hJ
 simp(disch:=first|omega|assumption) only[go_sem]
 exact hQ _ _ _ _ nofun rfl (by simp[zL,zd,AV.strip,AV.strip1])
theorem Mn {γ:Gh} {w:World} {H:zb} {b1 b2 cap sz:Nat} {c0:AV} {x rest sp:List AV} (hs:zn γ w H) (h1:H b1=some (.cells (c0::.ms b2 0 1 cap::rest))) (h2:H b2=some (.cells (x++sp))) (hne:b1≠b2) (hx:x.length=sz) :
  zn (fun c=>if c=b2 then .imm else γ c) w ((H.del b2).upd b1 (.cells (c0::.sl .no sz [x]::rest)))∧Z9 γ w (fun c=>if c=b2 then .imm else γ c) w:=by
 cases hs b1 _ h1 with
 | cells _ vs E hk hb hl hone hr =>
 cases hs b2 _ h2 with
 | cells _ us E2 hk2 hb2 hl2 hone2 hr2 =>
 have m:Z9 γ w (fun c=>if c=b2 then .imm else γ c) w:=⟨yX _,fun c q u hu hp=>⟨by by_cases e:c=b2<;>simp[y8,e] at hp ⊢;exact hp,hu⟩,fun c arr E fr hc=>⟨arr,hc,rfl⟩⟩
 refine⟨fun c o hc=>?_,m⟩
 by_cases e:c=b1
 ·subst e
  rw[upd_same] at hc
  cases hc
  refine .cells _ vs E (by simp[hne,hk]) hb (by simpa using hl) hone fun i d v hd hv=>?_
  match i,hd,hv with
  | 0,hd,hv=>cases hd;exact(hr 0 _ v rfl hv).mono m
  | 1,hd,hv =>
   cases hd
   have hms:=hr 1 _ v rfl hv
   cases hms with
   | ms _ _ _ _ hlt hc hm =>
   have ht:∀ j,j<x.length→us[j]?=(us.take x.length)[j]?:=fun j hj=>by rw[Yj,if_pos hj]
   have key:Rep (fun c=>if c=b2 then .imm else γ c) w (.sl .no sz [x]) (.slice (some ⟨b2,0,none⟩) [x].length cap):=by
    refine Rep.sl_flat (us:=us.take x.length) (fun y hy=>?_) ?_ (fun j u hj=>?_) (fun j c u hc hj=>?_) hc hm trivial
    ·rw[List.mem_singleton] at hy;rw[hy,hx]
    ·simp only[List.flatten_cons,List.flatten_nil,List.append_nil,List.length_take,Qn] at hl2 ⊢;omega
    ·have hlt2:=(yK.1 hj).1
     rw[List.length_take] at hlt2
     rw[← ht j (by omega)] at hj
     refine⟨?_,by simp[y8],hone2 j u hj⟩
     rw[Nat.zero_add,cell_of_row w b2 j _ _ _ hb2,List.getElem?_toArray];exact hj
    ·have hlt2:=(yK.1 hj).1
     rw[List.length_take] at hlt2
     rw[← ht j (by omega)] at hj
     simp only[List.flatten_cons,List.flatten_nil,List.append_nil] at hc
     exact(hr2 j c u (by rw[Y6 (by omega)];exact hc) hj).mono m
   exact key
  | i+2,hd,hv=>exact(hr (i+2) d v hd hv).mono m
 ·rw[upd_ne e] at hc
  unfold zb.del at hc
  split at hc
  ·cases hc
  ·rename_i e2
   exact(hs c o hc).kept m (by simp[e2]) rfl
theorem zt.nested {P:Program} {f:FuncId} {args:List AV} {H:zb} {R:zb→Prop}
  (h:zt P f args H (fun e H'=>e=.ret (.tup [])∧(R H'∨∃ b1 b2 cap sz c0 x rest sp,H b2=none∧H' b1=some (.cells (c0::.ms b2 0 1 cap::rest))∧H' b2=some (.cells (x++sp))∧b1≠b2∧x.length=sz∧R ((H'.del b2).upd b1 (.cells (c0::.sl .no sz [x]::rest)))))) :
  zt P f args H (fun e H'=>e=.ret (.tup [])∧R H'):=by
 intro γ w vs ht hs hv
 refine(h γ w vs ht hs hv).mono fun e w' ⟨γ',H',r,hext,hst,hkeys,hend,hq⟩=>?_
 obtain⟨rfl,hq⟩:=hq
 rcases hq with hq|⟨b1,b2,cap,sz,c0,x,rest,sp,hn,h1,h2,hne,hx,hq⟩
 ·exact⟨γ',H',_,hext,hst,hkeys,hend,rfl,hq⟩
 ·obtain⟨g1,m⟩:=Mn hst h1 h2 hne hx
  have hnew:w.heap.size≤b2:=by
   rcases hkeys b2 (by rw[h2];rfl) with h3|h3
   ·rw[hn] at h3;cases h3
   ·exact h3
  cases e with
  | panicked ch=>exact hend.elim
  | outgrown=>exact hend.elim
  | returned v =>
   have hr:Rep γ' w' (.tup []) v:=hend
   refine⟨_,_,.ret (.tup []),⟨⟨hext.mono.size,fun c o v hc hp=>?_,hext.mono.shape⟩,hext.os,hext.output,hext.frozen,fun c hc hn=>?_⟩,g1,fun c hc=>?_,hr.mono m,rfl,hq⟩
   ·obtain⟨h3,h4⟩:=hext.mono.cell c o v hc hp
    exact⟨by by_cases e:c=b2<;>simp[y8,e] at h3 ⊢;exact h3,h4⟩
   ·obtain⟨h3,h4⟩:=hext.frame c hc hn
    have e:c≠b2:=by omega
    exact⟨by simp only[e,if_false];exact h3,h4⟩
   ·by_cases e:c=b1
    ·subst e;exact hkeys c (by rw[h1];rfl)
    ·rw[upd_ne e] at hc
     refine hkeys c ?_
     unfold zb.del at hc
     split at hc
     ·cases hc
     ·exact hc
theorem Oy {H:zb} {g m:Nat} {a0 a1 a2 a3 a4 a5 a6:AV} (hg:H g=some (.cells [a0,a1,a2,a3,a4,a5,a6,.sl .nil 2 [],.mp m])) :
  zt Tryz.prog 391 [.ptr g 0,.agg ZO] H (Oj fun v H'=>v=.tup []∧∃ b cap rest,g≠b∧H' g=some (.cells [a0,a1,a2,a3,a4,a5,a6,.ms b 0 1 cap,.mp m])∧((∃ o,H' b=some (.cells (.str Vc::.sl o 7 [ZO]::rest)))∨∃ b2 cap2 sp,H b2=none∧b≠b2∧g≠b2∧H' b=some (.cells (.str Vc::.ms b2 0 1 cap2::rest))∧H' b2=some (.cells (ZO++sp)))):=by
 refine zt.go ir391 ck391 (yX _) fun KP Q hQ=>?_
 have ha:ZO=[.int .i64 0,.str [],.str Vc,.sl .no 6 [],.sl .no 2 [],.str [],.sl .no 7 []]:=rfl
 have hk:=Mx
 rw[ha] at hk ⊢
 simp(disch:=first|omega|assumption) only[ir391,hg,go_sem]
 refine zq hk ?_
 simp(disch:=first|omega|assumption) only[go_sem]
 refine z7 fun b4 hb4=>?_
 have h4:g≠b4:=fun e=>by subst e;rw[hg] at hb4;cases hb4
 simp(disch:=first|omega|assumption) only[hg,h4,Ne.symm h4,go_sem]
 refine zq (Qw _) ?_
 simp(disch:=first|omega|assumption) only[hg,h4,Ne.symm h4,go_sem]
 refine UW rfl (by simp) (by simp[maxLen]) (fun h=>by simp at h) fun _ b cap hb hc1 hc2=>?_
 have hgb:g≠b:=fun e=>by subst e;rw[upd_ne h4,hg] at hb;cases hb
 have h4b:b4≠b:=fun e=>by subst e;rw[upd_same] at hb;cases hb
 obtain⟨rest,hrest⟩:∃ rest,rest=yL [AV.str [],AV.sl Own.nil 7 []] (cap-1):=⟨_,rfl⟩
 have e1:([[AV.str Vc,AV.sl Own.nil 7 []]].flatten.map AV.strip2++yL [AV.str [],AV.sl Own.nil 7 []] (cap-[[AV.str Vc,AV.sl Own.nil 7 []]].length))=.str Vc::.sl .nil 7 []::rest:=by rw[hrest];rfl
 rw[e1]
 have e2:[[AV.str Vc,AV.sl Own.nil 7 []]].length=1:=rfl
 rw[e2]
 simp(disch:=first|omega|assumption) only[hg,h4,Ne.symm h4,hgb,Ne.symm hgb,h4b,Ne.symm h4b,go_sem]
 refine z7 fun b6 hb6=>?_
 have hg6:g≠b6:=fun e=>by subst e;rw[upd_same] at hb6;cases hb6
 have hb6b:b≠b6:=fun e=>by subst e;rw[upd_ne (Ne.symm hgb),upd_same] at hb6;cases hb6
 have h46:b4≠b6:=fun e=>by subst e;rw[upd_ne (Ne.symm h4),upd_ne h4b,upd_same] at hb6;cases hb6
 generalize hH6:(((H.upd b4 (yf.cells [AV.str Vc])).upd b (yf.cells (AV.str Vc::AV.sl Own.nil 7 []::rest))).upd g
   (yf.cells [a0,a1,a2,a3,a4,a5,a6,AV.ms b 0 1 cap,AV.mp m]))=H6
 have h6g:H6 g=some (.cells [a0,a1,a2,a3,a4,a5,a6,AV.ms b 0 1 cap,AV.mp m]):=by rw[← hH6,upd_same]
 have h6b:H6 b=some (.cells (AV.str Vc::AV.sl Own.nil 7 []::rest)):=by rw[← hH6,upd_ne (Ne.symm hgb),upd_same]
 have h6n:∀ c,H6 c=none→H c=none:=fun c hc=>by
  rw[← hH6] at hc
  simp only[zb.upd] at hc
  split at hc
  ·cases hc
  ·split at hc
   ·cases hc
   ·split at hc
    ·cases hc
    ·exact hc
 simp(disch:=first|omega|assumption) only[hg6,Ne.symm hg6,hb6b,Ne.symm hb6b,h46,Ne.symm h46,h6g,h6b,hgb,Ne.symm hgb,go_sem]
 refine⟨?_,?_⟩
 ·refine R2 (o:=.nil) (xs:=[]) rfl (by simp) (by simp[maxLen]) fun o1 H1 hs1=>?_
  have h1g:H1 g=some (.cells [a0,a1,a2,a3,a4,a5,a6,AV.ms b 0 1 cap,AV.mp m]):=hs1.kept g _ (by rw[upd_ne hg6,h6g]) (fun d e=>by cases e)
  have h1b:H1 b=some (.cells (AV.str Vc::AV.sl Own.nil 7 []::rest)):=hs1.kept b _ (by rw[upd_ne hb6b,h6b]) (fun d e=>by cases e)
  simp(disch:=first|omega|assumption) only[h1g,h1b,hgb,Ne.symm hgb,go_sem]
  refine⟨by omega,?_⟩
  refine hQ _ _ _ _ [] nofun (by simp(disch:=first|omega|assumption) only[ir391,yl,WJ,go_sem]) (Yt.refl _) ⟨rfl,b,cap,rest,hgb,?_,.inl ⟨o1,?_⟩⟩
  ·rw[upd_ne hgb,h1g]
  ·rw[upd_same];rfl
 ·refine UW rfl (by simp) (by simp[maxLen]) (fun h=>by simp at h) fun _ b2 cap2 hb2 hc3 hc4=>?_
  have hg2:g≠b2:=fun e=>by subst e;rw[upd_ne hg6,h6g] at hb2;cases hb2
  have hbb2:b≠b2:=fun e=>by subst e;rw[upd_ne hb6b,h6b] at hb2;cases hb2
  have h62:b6≠b2:=fun e=>by subst e;rw[upd_same] at hb2;cases hb2
  simp(disch:=first|omega|assumption) only[h6g,h6b,hgb,Ne.symm hgb,hg2,Ne.symm hg2,hbb2,Ne.symm hbb2,h62,Ne.symm h62,hg6,Ne.symm hg6,hb6b,Ne.symm hb6b,go_sem]
  refine⟨by omega,by simp,?_⟩
  refine hQ _ _ _ _ [] nofun (by simp(disch:=first|omega|assumption) only[ir391,yl,WJ,go_sem]) (Yt.refl _) ⟨rfl,b,cap,rest,hgb,?_,.inr ⟨b2,cap2,yL [AV.int IntKind.i64 0,AV.str [],AV.str [],AV.sl Own.nil 6 [],AV.sl Own.nil 2 [],AV.str [],AV.sl Own.nil 7 []] (cap2-1),h6n _ (by rw[upd_ne (Ne.symm h62)] at hb2;exact hb2),hbb2,hg2,?_,?_⟩⟩
  ·rw[upd_ne hg2,upd_ne hgb,upd_ne hg2,upd_ne hg6,h6g]
  ·rw[upd_ne hbb2,upd_same]
  ·rw[upd_same];rfl
theorem Oh {H:zb} {g m:Nat} {a0 a1 a2 a3 a4 a5 a6:AV} (hg:H g=some (.cells [a0,a1,a2,a3,a4,a5,a6,.sl .nil 2 [],.mp m])) :
  zt Tryz.prog 391 [.ptr g 0,.agg ZO] H (Oj fun v H'=>v=.tup []∧∃ b cap o rest,g≠b∧H' g=some (.cells [a0,a1,a2,a3,a4,a5,a6,.ms b 0 1 cap,.mp m])∧H' b=some (.cells (.str Vc::.sl o 7 [ZO]::rest))):=by
 refine(zt.nested (R:=fun H'=>∃ b cap o rest,g≠b∧H' g=some (.cells [a0,a1,a2,a3,a4,a5,a6,.ms b 0 1 cap,.mp m])∧H' b=some (.cells (.str Vc::.sl o 7 [ZO]::rest))) ((Oy hg).mono ?_)).mono ?_
 ·rintro _ H' ⟨v,rfl,rfl,b,cap,rest,hgb,h1,⟨o,h2⟩|⟨b2,cap2,sp,hn,hb2,hg2,h2,h3⟩⟩
  ·exact⟨rfl,.inl ⟨b,cap,o,rest,hgb,h1,h2⟩⟩
  ·refine⟨rfl,.inr ⟨b,b2,cap2,7,_,ZO,rest,sp,hn,h2,h3,hb2,rfl,b,cap,.no,rest,hgb,?_,upd_same ..⟩⟩
   rw[upd_ne hgb];simp only[zb.del,hg2,if_false];exact h1
 ·rintro _ H' ⟨rfl,h⟩;exact⟨_,rfl,rfl,h⟩
def O7 (g m:Nat) (a0 a1 a2 a3 a4 a5 a6:AV) (H':zb):Prop:=∃ b cap o rest,g≠b∧H' g=some (.cells [a0,a1,a2,a3,a4,a5,a6,.ms b 0 1 cap,.mp m])∧H' b=some (.cells (.str Vc::.sl o 7 [ZO]::rest))
theorem RD {H:zb} {g m:Nat} {a0 a1 a2 a3 a4 a6:AV} (hg:H g=some (.cells [a0,a1,a2,a3,a4,.sl .no 6 [],a6,.sl .nil 2 [],.mp m])) :
  zt Tryz.prog 264 [.ptr g 0,.sl .no 7 [ZO]] H (Oj fun v H'=>v=.tup []∧O7 g m a0 a1 a2 a3 a4 (.sl .no 6 []) a6 H'):=by
 refine zt.go ir264 ck264 (yX _) fun KP Q hQ=>?_
 simp(disch:=first|omega|assumption) only[ir264,hg,go_sem]
 refine R0 (fun s:Bool=>[(0,.ptr g 0),(6,.sl .no 7 [ZO]),(7,.int .i64 1),(8,.int .i64 (cond s 1 0))]) (fun s H'=>cond s (O7 g m a0 a1 a2 a3 a4 (.sl .no 6 []) a6 H') (H'=H)) (fun s=>cond s 0 1) false (by simp(disch:=first|omega|assumption) only[cond,go_sem]) rfl ?_
 rintro(_|_) H1 J hI hJ
 ·subst hI
  have ha:ZO=[.int .i64 0,.str [],.str Vc,.sl .no 6 [],.sl .no 2 [],.str [],.sl .no 7 []]:=rfl
  rw[ha] at hJ ⊢
  simp(disch:=first|omega|assumption) only[cond,hg,go_sem]
  refine z7 fun b5 hb5=>?_
  have h5:g≠b5:=fun e=>by subst e;rw[hg] at hb5;cases hb5
  simp(disch:=first|omega|assumption) only[hg,h5,Ne.symm h5,go_sem]
  refine zq holdsA ?_
  simp(disch:=first|omega|assumption) only[hg,h5,Ne.symm h5,go_sem]
  refine V2 (Oh (by rw[upd_ne h5,hg])) ?_
  rintro _ H2 ⟨v,rfl,rfl,h2⟩
  simp(disch:=first|omega|assumption) only[WQ,go_sem]
  exact hJ true H2 (by decide) h2
 ·simp(disch:=first|omega|assumption) only[cond,go_sem]
  refine hQ _ _ _ _ [] nofun (by simp(disch:=first|omega|assumption) only[ir264,yl,WJ,go_sem]) (Yt.refl _) ⟨rfl,hI⟩
theorem Q0 (s0 s1 s2 d0 d1:AV):zz Tryz.prog 150 [.agg [s0,s1,s2],.agg [d0,d1],.sl .no 6 [],.str [81,117,101,114,121],.sl .no 7 [ZO]] (.sl .no 2 [[.str Vc,.sl .no 7 [ZO]]]):=by
 refine zz.go ir150 ck150 (yX _) fun KP Q hQ=>?_
 simp(disch:=first|omega|assumption) only[ir150,go_sem]
 refine z7 fun b16 hb16=>?_
 simp(disch:=first|omega|assumption) only[go_sem]
 refine z7 fun b18 hb18=>?_
 simp(disch:=first|omega|assumption) only[go_sem]
 refine V2 (RD (upd_same ..)) ?_
 rintro _ H2 ⟨v,rfl,rfl,b,cap,o,rest,hgb,h2g,h2b⟩
 simp(disch:=first|omega|assumption) only[WQ,h2g,go_sem]
 refine ON h2b (by decide) (by simp) ?_
 have e1:ZT 2 1 ((AV.str Vc::AV.sl o 7 [ZO]::rest).drop 0)=[[.str Vc,.sl .no 7 [ZO]]]:=rfl
 rw[e1]
 simp(disch:=first|omega|assumption) only[go_sem]
 exact hQ _ _ _ [.sl .no 2 [[.str Vc,.sl .no 7 [ZO]]]] nofun (by simp(disch:=first|omega|assumption) only[ir150,yl,WJ,go_sem]) rfl
end Go.Proofs.YtdpfofoinaammaaGreatDoor
namespace Go.Proofs.YtdpfofoinaammaaGreatDoor
open Go.Ab
def sp46:Uc:=⟨27,2,5,(.reg [] [⟨some 4,none,.alloc [.int .i64 0],[]⟩]),(.seq (.reg [] [⟨some 13,none,.mv (.t 6),[]⟩,⟨some 14,none,.bi .neq .i64 (.t 13) (.k (.int .i64 0)),[]⟩])
 (.cond (.t 14) (.seq (.reg [] [⟨some 15,none,.mv (.t 6),[]⟩,⟨none,none,.st 1 (.t 4) (.t 15),[]⟩])
 (.ret)) (.skip))),[⟨some 16,none,.mkfn 98 [] [(.t 4)],[]⟩],16,(.seq (.reg [] [⟨some 17,none,.mv (.t 5),[]⟩,⟨some 18,none,.bld [.sl .nil 2 [],.int .i64 0,.int .i64 0] [(0,1,(.t 17))],[]⟩,⟨some 19,none,.box (.t 18),[]⟩,⟨some 7,none,.mv (.t 19),[]⟩])
 (.seq (.reg [] [⟨some 20,none,.mv (.t 1),[]⟩,⟨some 21,none,.mv (.t 7),[]⟩,⟨some 22,none,.callv (.t 20) [(.t 21)],[]⟩])
 (.seq (.seq (.reg [] [⟨some 23,none,.mv (.t 7),[]⟩,⟨some 24,none,.call 49 [(.t 23)],[]⟩])
 (.cond (.t 24) (.reg [] [⟨some 25,none,.mv (.t 7),[]⟩,⟨some 26,none,.call 99 [(.t 25),(.k (.int .i64 2))],[]⟩]) (.skip)))
 (.seq (.reg [] [⟨none,none,.st 1 (.t 4) (.k (.int .i64 0)),[]⟩])
 (.ret))))),[.c 4 1 false],some (.reg [] [⟨some 9,none,.mv (.t 0),[]⟩,⟨some 10,none,.call 97 [(.t 9)],[]⟩,⟨some 8,none,.mv (.t 10),[]⟩,⟨some 11,none,.ext (.t 8) 0,[]⟩,⟨some 12,none,.ext (.t 8) 1,[]⟩,⟨some 5,none,.mv (.t 11),[]⟩,⟨some 6,none,.mv (.t 12),[]⟩])⟩
theorem ckS46:Va Tryz.prog 46 sp46=true:=by kernel_rfl
def sp58:Uc:=⟨33,1,4,(.reg [] [⟨some 2,none,.alloc [.int .i64 0,.int .i64 0,.str [],.sl .nil 5 [],.sl .nil 6 []],[]⟩,⟨some 3,none,.alloc [.int .i64 0],[]⟩]),(.block 0 (.seq (.reg [] [⟨some 6,none,.mv (.t 0),[]⟩,⟨some 7,none,.lens (.t 6),[]⟩,⟨some 8,none,.bi .gtr .i64 (.t 7) (.k (.int .i64 8192)),[]⟩,⟨some 5,none,.mv (.t 8),[]⟩])
 (.cond (.t 5) (.seq (.reg [] [⟨some 9,none,.bld [.int .i64 0,.int .i64 0,.str [],.sl .nil 5 [],.sl .nil 6 []] [],[]⟩,⟨none,none,.st 5 (.t 2) (.t 9),[]⟩,⟨none,none,.st 1 (.t 3) (.k (.int .i64 3)),[]⟩])
 (.ret)) (.seq (.reg [] [⟨some 11,none,.mv (.t 0),[]⟩,⟨some 12,none,.call 56 [(.t 11)],[]⟩,⟨some 13,none,.not (.t 12),[]⟩,⟨some 10,none,.mv (.t 13),[]⟩])
 (.cond (.t 10) (.seq (.reg [] [⟨some 14,none,.bld [.int .i64 0,.int .i64 0,.str [],.sl .nil 5 [],.sl .nil 6 []] [],[]⟩,⟨none,none,.st 5 (.t 2) (.t 14),[]⟩,⟨none,none,.st 1 (.t 3) (.k (.int .i64 2)),[]⟩])
 (.ret)) (.skip)))))),[⟨some 15,none,.mkfn 114 [] [(.t 2),(.t 3)],[]⟩],15,(.seq (.reg [] [⟨some 16,none,.mv (.t 0),[]⟩,⟨some 17,none,.bld [.str [],.int .i64 0,.int .i64 0] [(0,1,(.t 16))],[]⟩,⟨some 18,none,.box (.t 17),[]⟩,⟨some 4,none,.mv (.t 18),[]⟩])
 (.seq (.reg [] [⟨some 19,none,.mv (.t 4),[]⟩,⟨some 20,none,.call 115 [(.t 19)],[]⟩,⟨none,none,.st 5 (.t 2) (.t 20),[]⟩])
 (.seq (.reg [] [⟨some 21,none,.mv (.t 4),[]⟩,⟨some 22,none,.call 116 [(.t 21)],[]⟩])
 (.seq (.seq (.reg [] [⟨some 23,none,.mv (.t 4),[]⟩,⟨some 24,none,.nilchk (.t 23),[]⟩,⟨some 25,none,.fa 1 (.t 24),[]⟩,⟨some 26,none,.ld 1 false (.t 25),[]⟩,⟨some 27,none,.mv (.t 0),[]⟩,⟨some 28,none,.lens (.t 27),[]⟩,⟨some 29,none,.bi .lss .i64 (.t 26) (.t 28),[]⟩])
 (.cond (.t 29) (.reg [] [⟨some 30,none,.mv (.t 4),[]⟩,⟨some 31,none,.call 117 [(.t 30),(.k (.int .i64 2))],[]⟩]) (.skip)))
 (.seq (.reg [] [⟨some 32,none,.ld 5 true (.t 2),[]⟩,⟨none,none,.st 5 (.t 2) (.t 32),[]⟩,⟨none,none,.st 1 (.t 3) (.k (.int .i64 0)),[]⟩])
 (.ret)))))),[.c 2 5 true,.c 3 1 false],none⟩
theorem ckS58:Va Tryz.prog 58 sp58=true:=by kernel_rfl
def df98:X9:=⟨16,1,4,[⟨some 1,none,.mv (.t 4),[]⟩],(.seq (.reg [] [⟨some 6,none,.mv (.t 1),[]⟩,⟨some 7,none,.tas 223 (.agg [.int .i64 0]) (.t 6),[]⟩,⟨some 5,none,.mv (.t 7),[]⟩,⟨some 8,none,.ext (.t 5) 0,[]⟩,⟨some 9,none,.ext (.t 5) 1,[]⟩,⟨some 2,none,.alloc [.int .i64 0],[]⟩,⟨none,none,.st 1 (.t 2) (.t 8),[]⟩,⟨some 3,none,.mv (.t 9),[]⟩])
 (.seq (.reg [] [⟨some 10,none,.mv (.t 3),[]⟩])
 (.cond (.t 10) (.reg [] [⟨some 11,none,.fa 0 (.t 2),[]⟩,⟨some 12,none,.ld 1 false (.t 11),[]⟩,⟨none,none,.st 1 (.t 0) (.t 12),[]⟩]) (.seq (.reg [] [⟨some 13,none,.mv (.t 1),[]⟩,⟨some 14,none,.ifnil true (.t 13),[]⟩])
 (.cond (.t 14) (.reg [] [⟨some 15,none,.mv (.t 1),[]⟩,⟨none,none,.pan (.t 15),[]⟩]) (.skip))))))⟩
theorem ckD98:YH Tryz.prog 98 df98=true:=by kernel_rfl
def df114:X9:=⟨18,2,5,[⟨some 2,none,.mv (.t 5),[]⟩],(.seq (.reg [] [⟨some 7,none,.mv (.t 2),[]⟩,⟨some 8,none,.tas 236 (.agg [.int .i64 0]) (.t 7),[]⟩,⟨some 6,none,.mv (.t 8),[]⟩,⟨some 9,none,.ext (.t 6) 0,[]⟩,⟨some 10,none,.ext (.t 6) 1,[]⟩,⟨some 3,none,.alloc [.int .i64 0],[]⟩,⟨none,none,.st 1 (.t 3) (.t 9),[]⟩,⟨some 4,none,.mv (.t 10),[]⟩])
 (.seq (.reg [] [⟨some 11,none,.mv (.t 4),[]⟩])
 (.cond (.t 11) (.reg [0,1,2,3,4] [⟨some 12,none,.bld [.int .i64 0,.int .i64 0,.str [],.sl .nil 5 [],.sl .nil 6 []] [],[]⟩,⟨some 13,none,.fa 0 (.t 3),[]⟩,⟨some 14,none,.ld 1 false (.t 13),[]⟩,⟨none,none,.st 5 (.t 0) (.t 12),[2]⟩,⟨none,none,.st 1 (.t 1) (.t 14),[]⟩]) (.seq (.reg [] [⟨some 15,none,.mv (.t 2),[]⟩,⟨some 16,none,.ifnil true (.t 15),[]⟩])
 (.cond (.t 16) (.reg [] [⟨some 17,none,.mv (.t 2),[]⟩,⟨none,none,.pan (.t 17),[]⟩]) (.skip))))))⟩
theorem ckD114:YH Tryz.prog 114 df114=true:=by kernel_rfl
open Go.Lib
def Nq:List UInt8:=[116,121,112,101,32,81,117,101,114,121,32,123,32,117,115,101,114,40,105,100,58,32,73,68,41,58,32,85,115,101,114,32,64,103,101,116,40,116,97,98,108,101,58,32,34,117,34,44,32,97,114,103,58,32,34,105,100,34,41,32,125,32,116,121,112,101,32,85,115,101,114,32,123,32,97,103,101,58,32,73,110,116,32,125]
def U6:AV:=(.agg [(.sl .no 6 [[.int .i64 1,.str [81,117,101,114,121],.sl .no 1 [],(.sl .no 6 [[.str [117,115,101,114],(.sl .no 10 [[.str [105,100],.str [73,68],.int .i64 0,.int .i64 0,.bool false,.int .i64 0,.int .i64 0,.str [],.sl .no 5 [],.sl .no 6 []]]),.str [85,115,101,114],.int .i64 0,.int .i64 0,(.sl .no 2 [[.str [103,101,116],(.sl .no 6 [[.str [116,97,98,108,101],.int .i64 4,.int .i64 0,.str [117],.sl .no 5 [],.sl .no 6 []],[.str [97,114,103],.int .i64 4,.int .i64 0,.str [105,100],.sl .no 5 [],.sl .no 6 []]])]])]]),.sl .no 1 [],.sl .no 10 []],[.int .i64 1,.str [85,115,101,114],.sl .no 1 [],(.sl .no 6 [[.str [97,103,101],.sl .no 10 [],.str [73,110,116],.int .i64 0,.int .i64 0,.sl .no 2 []]]),.sl .no 1 [],.sl .no 10 []]]),.str [81,117,101,114,121],.str []])
def SI:AV:=(.agg [(.sl .no 5 [[.int .i64 0,.str [],.sl .no 10 [],.sl .no 2 [],(.sl .no 7 [[.int .i64 0,.str [],.str [95,95,116,121,112,101,110,97,109,101],.sl .no 6 [],.sl .no 2 [],.str [],.sl .no 7 []]])]]),.sl .no 4 []])
noncomputable def N7:Tr:=(.node 262 (.fn ir262 false) (.node 136 (.fn ir136 false) (.node 72 (.fn ir72 true) (.node 41 (.fn ir41 false) (.node 25 (.fn ir25 true) (.node 16 (.fn ir16 false) (.node 12 (.fn ir12 true) (.node 7 (.fn ir7 false) (.node 5 (.fn ir5 false) .leaf .leaf) (.node 9 (.fn ir9 false) .leaf .leaf)) (.node 14 (.fn ir14 false) (.node 13 (.fn ir13 false) .leaf .leaf) (.node 15 (.fn ir15 false) .leaf .leaf))) (.node 22 (.fn ir22 false) (.node 18 (.fn ir18 false) (.node 17 (.fn ir17 false) .leaf .leaf) (.node 19 (.fn ir19 false) .leaf .leaf)) (.node 24 (.fn ir24 false) (.node 23 (.fn ir23 false) .leaf .leaf) .leaf))) (.node 34 (.fn ir34 false) (.node 30 (.fn ir30 false) (.node 27 (.fn ir27 false) (.node 26 (.fn ir26 false) .leaf .leaf) (.node 28 (.fn ir28 false) .leaf .leaf)) (.node 32 (.fn ir32 false) (.node 31 (.fn ir31 false) .leaf .leaf) (.node 33 (.fn ir33 true) .leaf .leaf))) (.node 38 (.fn ir38 true) (.node 36 (.fn ir36 false) (.node 35 (.fn ir35 false) .leaf .leaf) (.node 37 (.fn ir37 false) .leaf .leaf)) (.node 40 (.fn ir40 true) (.node 39 (.fn ir39 true) .leaf .leaf) .leaf)))) (.node 56 (.fn ir56 false) (.node 49 (.fn ir49 false) (.node 45 (.fn ir45 false) (.node 43 (.fn ir43 false) (.node 42 (.fn ir42 false) .leaf .leaf) (.node 44 (.fn ir44 false) .leaf .leaf)) (.node 47 (.fn ir47 false) (.node 46 (.sp sp46 98 df98 false) .leaf .leaf) (.node 48 (.fn ir48 false) .leaf .leaf))) (.node 53 (.fn ir53 false) (.node 51 (.fn ir51 false) (.node 50 (.fn ir50 false) .leaf .leaf) (.node 52 (.fn ir52 false) .leaf .leaf)) (.node 55 (.fn ir55 false) (.node 54 (.fn ir54 false) .leaf .leaf) .leaf))) (.node 65 (.fn ir65 false) (.node 60 (.fn ir60 false) (.node 58 (.sp sp58 114 df114 false) (.node 57 (.fn ir57 false) .leaf .leaf) (.node 59 (.fn ir59 false) .leaf .leaf)) (.node 62 (.fn ir62 false) (.node 61 (.fn ir61 false) .leaf .leaf) (.node 63 (.fn ir63 false) .leaf .leaf))) (.node 69 (.fn ir69 false) (.node 67 (.fn ir67 false) (.node 66 (.fn ir66 false) .leaf .leaf) (.node 68 (.fn ir68 false) .leaf .leaf)) (.node 71 (.fn ir71 false) (.node 70 (.fn ir70 false) .leaf .leaf) .leaf))))) (.node 103 (.fn ir103 false) (.node 87 (.fn ir87 false) (.node 80 (.fn ir80 false) (.node 76 (.fn ir76 false) (.node 74 (.fn ir74 false) (.node 73 (.fn ir73 false) .leaf .leaf) (.node 75 (.fn ir75 false) .leaf .leaf)) (.node 78 (.fn ir78 false) (.node 77 (.fn ir77 false) .leaf .leaf) (.node 79 (.fn ir79 false) .leaf .leaf))) (.node 84 (.fn ir84 false) (.node 82 (.fn ir82 false) (.node 81 (.fn ir81 false) .leaf .leaf) (.node 83 (.fn ir83 false) .leaf .leaf)) (.node 86 (.fn ir86 false) (.node 85 (.fn ir85 false) .leaf .leaf) .leaf))) (.node 95 (.fn ir95 false) (.node 91 (.fn ir91 false) (.node 89 (.fn ir89 false) (.node 88 (.fn ir88 true) .leaf .leaf) (.node 90 (.fn ir90 false) .leaf .leaf)) (.node 93 (.fn ir93 false) (.node 92 (.fn ir92 false) .leaf .leaf) (.node 94 (.fn ir94 false) .leaf .leaf))) (.node 100 (.fn ir100 false) (.node 97 (.fn ir97 false) (.node 96 (.fn ir96 false) .leaf .leaf) (.node 99 (.fn ir99 false) .leaf .leaf)) (.node 102 (.fn ir102 false) (.node 101 (.fn ir101 false) .leaf .leaf) .leaf)))) (.node 120 (.fn ir120 false) (.node 111 (.fn ir111 false) (.node 107 (.fn ir107 false) (.node 105 (.fn ir105 false) (.node 104 (.fn ir104 false) .leaf .leaf) (.node 106 (.fn ir106 false) .leaf .leaf)) (.node 109 (.fn ir109 false) (.node 108 (.fn ir108 false) .leaf .leaf) (.node 110 (.fn ir110 false) .leaf .leaf))) (.node 117 (.fn ir117 false) (.node 115 (.fn ir115 false) (.node 113 (.fn ir113 false) .leaf .leaf) (.node 116 (.fn ir116 false) .leaf .leaf)) (.node 119 (.fn ir119 false) (.node 118 (.fn ir118 false) .leaf .leaf) .leaf))) (.node 128 (.fn ir128 false) (.node 124 (.fn ir124 false) (.node 122 (.fn ir122 false) (.node 121 (.fn ir121 false) .leaf .leaf) (.node 123 (.fn ir123 false) .leaf .leaf)) (.node 126 (.fn ir126 false) (.node 125 (.fn ir125 false) .leaf .leaf) (.node 127 (.fn ir127 false) .leaf .leaf))) (.node 133 (.fn ir133 false) (.node 131 (.fn ir131 false) (.node 129 (.fn ir129 false) .leaf .leaf) (.node 132 (.fn ir132 false) .leaf .leaf)) (.node 135 (.fn ir135 false) (.node 134 (.fn ir134 false) .leaf .leaf) .leaf)))))) (.node 199 (.fn ir199 false) (.node 166 (.fn ir166 false) (.node 151 (.fn ir151 false) (.node 144 (.fn ir144 false) (.node 140 (.fn ir140 false) (.node 138 (.fn ir138 false) (.node 137 (.fn ir137 false) .leaf .leaf) (.node 139 (.fn ir139 false) .leaf .leaf)) (.node 142 (.fn ir142 false) (.node 141 (.fn ir141 false) .leaf .leaf) (.node 143 (.fn ir143 false) .leaf .leaf))) (.node 148 (.fn ir148 false) (.node 146 (.fn ir146 false) (.node 145 (.fn ir145 false) .leaf .leaf) (.node 147 (.fn ir147 false) .leaf .leaf)) (.node 150 (.fn ir150 false) (.node 149 (.fn ir149 false) .leaf .leaf) .leaf))) (.node 159 (.fn ir159 false) (.node 155 (.fn ir155 false) (.node 153 (.fn ir153 false) (.node 152 (.fn ir152 false) .leaf .leaf) (.node 154 (.fn ir154 false) .leaf .leaf)) (.node 157 (.fn ir157 false) (.node 156 (.fn ir156 false) .leaf .leaf) (.node 158 (.fn ir158 false) .leaf .leaf))) (.node 163 (.fn ir163 false) (.node 161 (.fn ir161 false) (.node 160 (.fn ir160 false) .leaf .leaf) (.node 162 (.fn ir162 false) .leaf .leaf)) (.node 165 (.fn ir165 false) (.node 164 (.fn ir164 false) .leaf .leaf) .leaf)))) (.node 182 (.fn ir182 false) (.node 174 (.fn ir174 false) (.node 170 (.fn ir170 false) (.node 168 (.fn ir168 false) (.node 167 (.fn ir167 false) .leaf .leaf) (.node 169 (.fn ir169 false) .leaf .leaf)) (.node 172 (.fn ir172 false) (.node 171 (.fn ir171 false) .leaf .leaf) (.node 173 (.fn ir173 false) .leaf .leaf))) (.node 178 (.fn ir178 false) (.node 176 (.fn ir176 false) (.node 175 (.fn ir175 false) .leaf .leaf) (.node 177 (.fn ir177 false) .leaf .leaf)) (.node 181 (.fn ir181 false) (.node 180 (.fn ir180 false) .leaf .leaf) .leaf))) (.node 192 (.fn ir192 false) (.node 187 (.fn ir187 false) (.node 184 (.fn ir184 false) (.node 183 (.fn ir183 false) .leaf .leaf) (.node 185 (.fn ir185 false) .leaf .leaf)) (.node 189 (.fn ir189 false) (.node 188 (.fn ir188 false) .leaf .leaf) (.node 191 (.fn ir191 false) .leaf .leaf))) (.node 196 (.fn ir196 false) (.node 194 (.fn ir194 false) (.node 193 (.fn ir193 false) .leaf .leaf) (.node 195 (.fn ir195 false) .leaf .leaf)) (.node 198 (.fn ir198 false) (.node 197 (.fn ir197 true) .leaf .leaf) .leaf))))) (.node 229 (.fn ir229 false) (.node 214 (.fn ir214 false) (.node 207 (.fn ir207 false) (.node 203 (.fn ir203 false) (.node 201 (.fn ir201 false) (.node 200 (.fn ir200 false) .leaf .leaf) (.node 202 (.fn ir202 false) .leaf .leaf)) (.node 205 (.fn ir205 false) (.node 204 (.fn ir204 false) .leaf .leaf) (.node 206 (.fn ir206 false) .leaf .leaf))) (.node 211 (.fn ir211 false) (.node 209 (.fn ir209 false) (.node 208 (.fn ir208 false) .leaf .leaf) (.node 210 (.fn ir210 false) .leaf .leaf)) (.node 213 (.fn ir213 false) (.node 212 (.fn ir212 false) .leaf .leaf) .leaf))) (.node 222 (.fn ir222 false) (.node 218 (.fn ir218 false) (.node 216 (.fn ir216 false) (.node 215 (.fn ir215 false) .leaf .leaf) (.node 217 (.fn ir217 false) .leaf .leaf)) (.node 220 (.fn ir220 false) (.node 219 (.fn ir219 false) .leaf .leaf) (.node 221 (.fn ir221 false) .leaf .leaf))) (.node 226 (.fn ir226 false) (.node 224 (.fn ir224 false) (.node 223 (.fn ir223 false) .leaf .leaf) (.node 225 (.fn ir225 false) .leaf .leaf)) (.node 228 (.fn ir228 false) (.node 227 (.fn ir227 false) .leaf .leaf) .leaf)))) (.node 248 (.fn ir248 false) (.node 241 (.fn ir241 false) (.node 237 (.fn ir237 false) (.node 235 (.fn ir235 false) (.node 234 (.fn ir234 false) .leaf .leaf) (.node 236 (.fn ir236 false) .leaf .leaf)) (.node 239 (.fn ir239 false) (.node 238 (.fn ir238 false) .leaf .leaf) (.node 240 (.fn ir240 false) .leaf .leaf))) (.node 245 (.fn ir245 false) (.node 243 (.fn ir243 false) (.node 242 (.fn ir242 false) .leaf .leaf) (.node 244 (.fn ir244 false) .leaf .leaf)) (.node 247 (.fn ir247 false) (.node 246 (.fn ir246 false) .leaf .leaf) .leaf))) (.node 255 (.fn ir255 false) (.node 252 (.fn ir252 false) (.node 250 (.fn ir250 false) (.node 249 (.fn ir249 false) .leaf .leaf) (.node 251 (.fn ir251 false) .leaf .leaf)) (.node 254 (.fn ir254 false) (.node 253 (.fn ir253 false) .leaf .leaf) .leaf)) (.node 259 (.fn ir259 false) (.node 257 (.fn ir257 false) (.node 256 (.fn ir256 false) .leaf .leaf) (.node 258 (.fn ir258 false) .leaf .leaf)) (.node 261 (.fn ir261 false) (.node 260 (.fn ir260 false) .leaf .leaf) .leaf))))))) (.node 391 (.fn ir391 false) (.node 326 (.fn ir326 false) (.node 294 (.fn ir294 false) (.node 279 (.fn ir279 false) (.node 272 (.fn ir272 false) (.node 266 (.fn ir266 false) (.node 264 (.fn ir264 false) (.node 263 (.fn ir263 false) .leaf .leaf) (.node 265 (.fn ir265 false) .leaf .leaf)) (.node 270 (.fn ir270 false) (.node 269 (.fn ir269 false) .leaf .leaf) (.node 271 (.fn ir271 false) .leaf .leaf))) (.node 276 (.fn ir276 false) (.node 274 (.fn ir274 false) (.node 273 (.fn ir273 false) .leaf .leaf) (.node 275 (.fn ir275 false) .leaf .leaf)) (.node 278 (.fn ir278 false) (.node 277 (.fn ir277 false) .leaf .leaf) .leaf))) (.node 287 (.fn ir287 false) (.node 283 (.fn ir283 false) (.node 281 (.fn ir281 false) (.node 280 (.fn ir280 false) .leaf .leaf) (.node 282 (.fn ir282 false) .leaf .leaf)) (.node 285 (.fn ir285 false) (.node 284 (.fn ir284 false) .leaf .leaf) (.node 286 (.fn ir286 false) .leaf .leaf))) (.node 291 (.fn ir291 false) (.node 289 (.fn ir289 false) (.node 288 (.fn ir288 false) .leaf .leaf) (.node 290 (.fn ir290 false) .leaf .leaf)) (.node 293 (.fn ir293 false) (.node 292 (.fn ir292 false) .leaf .leaf) .leaf)))) (.node 309 (.fn ir309 false) (.node 302 (.fn ir302 false) (.node 298 (.fn ir298 false) (.node 296 (.fn ir296 false) (.node 295 (.fn ir295 false) .leaf .leaf) (.node 297 (.fn ir297 false) .leaf .leaf)) (.node 300 (.fn ir300 false) (.node 299 (.fn ir299 false) .leaf .leaf) (.node 301 (.fn ir301 false) .leaf .leaf))) (.node 306 (.fn ir306 false) (.node 304 (.fn ir304 false) (.node 303 (.fn ir303 false) .leaf .leaf) (.node 305 (.fn ir305 false) .leaf .leaf)) (.node 308 (.fn ir308 false) (.node 307 (.fn ir307 false) .leaf .leaf) .leaf))) (.node 317 (.fn ir317 false) (.node 313 (.fn ir313 false) (.node 311 (.fn ir311 false) (.node 310 (.fn ir310 false) .leaf .leaf) (.node 312 (.fn ir312 false) .leaf .leaf)) (.node 315 (.fn ir315 false) (.node 314 (.fn ir314 false) .leaf .leaf) (.node 316 (.fn ir316 false) .leaf .leaf))) (.node 323 (.fn ir323 false) (.node 320 (.fn ir320 false) (.node 319 (.fn ir319 false) .leaf .leaf) (.node 322 (.fn ir322 false) .leaf .leaf)) (.node 325 (.fn ir325 false) (.node 324 (.fn ir324 false) .leaf .leaf) .leaf))))) (.node 356 (.fn ir356 false) (.node 341 (.fn ir341 false) (.node 334 (.fn ir334 false) (.node 330 (.fn ir330 false) (.node 328 (.fn ir328 false) (.node 327 (.fn ir327 false) .leaf .leaf) (.node 329 (.fn ir329 false) .leaf .leaf)) (.node 332 (.fn ir332 false) (.node 331 (.fn ir331 false) .leaf .leaf) (.node 333 (.fn ir333 false) .leaf .leaf))) (.node 338 (.fn ir338 false) (.node 336 (.fn ir336 false) (.node 335 (.fn ir335 false) .leaf .leaf) (.node 337 (.fn ir337 false) .leaf .leaf)) (.node 340 (.fn ir340 false) (.node 339 (.fn ir339 false) .leaf .leaf) .leaf))) (.node 349 (.fn ir349 false) (.node 345 (.fn ir345 false) (.node 343 (.fn ir343 false) (.node 342 (.fn ir342 false) .leaf .leaf) (.node 344 (.fn ir344 false) .leaf .leaf)) (.node 347 (.fn ir347 false) (.node 346 (.fn ir346 false) .leaf .leaf) (.node 348 (.fn ir348 false) .leaf .leaf))) (.node 353 (.fn ir353 false) (.node 351 (.fn ir351 false) (.node 350 (.fn ir350 false) .leaf .leaf) (.node 352 (.fn ir352 false) .leaf .leaf)) (.node 355 (.fn ir355 false) (.node 354 (.fn ir354 false) .leaf .leaf) .leaf)))) (.node 376 (.fn ir376 false) (.node 364 (.fn ir364 false) (.node 360 (.fn ir360 false) (.node 358 (.fn ir358 false) (.node 357 (.fn ir357 false) .leaf .leaf) (.node 359 (.fn ir359 false) .leaf .leaf)) (.node 362 (.fn ir362 false) (.node 361 (.fn ir361 false) .leaf .leaf) (.node 363 (.fn ir363 false) .leaf .leaf))) (.node 373 (.fn ir373 false) (.node 371 (.fn ir371 false) (.node 370 (.fn ir370 false) .leaf .leaf) (.node 372 (.fn ir372 false) .leaf .leaf)) (.node 375 (.fn ir375 false) (.node 374 (.fn ir374 false) .leaf .leaf) .leaf))) (.node 384 (.fn ir384 false) (.node 381 (.fn ir381 false) (.node 378 (.fn ir378 false) (.node 377 (.fn ir377 false) .leaf .leaf) (.node 380 (.fn ir380 false) .leaf .leaf)) (.node 383 (.fn ir383 false) (.node 382 (.fn ir382 false) .leaf .leaf) .leaf)) (.node 388 (.fn ir388 false) (.node 386 (.fn ir386 false) (.node 385 (.fn ir385 false) .leaf .leaf) (.node 387 (.fn ir387 false) .leaf .leaf)) (.node 390 (.fn ir390 false) (.node 389 (.fn ir389 false) .leaf .leaf) .leaf)))))) (.node 465 (.fn ir465 false) (.node 430 (.fn ir430 false) (.node 412 (.fn ir412 false) (.node 405 (.fn ir405 false) (.node 401 (.fn ir401 false) (.node 393 (.fn ir393 false) (.node 392 (.fn ir392 false) .leaf .leaf) (.node 400 (.fn ir400 false) .leaf .leaf)) (.node 403 (.fn ir403 false) (.node 402 (.fn ir402 false) .leaf .leaf) (.node 404 (.fn ir404 false) .leaf .leaf))) (.node 409 (.fn ir409 false) (.node 407 (.fn ir407 false) (.node 406 (.fn ir406 false) .leaf .leaf) (.node 408 (.fn ir408 false) .leaf .leaf)) (.node 411 (.fn ir411 false) (.node 410 (.fn ir410 false) .leaf .leaf) .leaf))) (.node 423 (.fn ir423 false) (.node 416 (.fn ir416 false) (.node 414 (.fn ir414 false) (.node 413 (.fn ir413 false) .leaf .leaf) (.node 415 (.fn ir415 false) .leaf .leaf)) (.node 418 (.fn ir418 false) (.node 417 (.fn ir417 false) .leaf .leaf) (.node 419 (.fn ir419 false) .leaf .leaf))) (.node 427 (.fn ir427 false) (.node 425 (.fn ir425 false) (.node 424 (.fn ir424 false) .leaf .leaf) (.node 426 (.fn ir426 false) .leaf .leaf)) (.node 429 (.fn ir429 false) (.node 428 (.fn ir428 false) .leaf .leaf) .leaf)))) (.node 447 (.fn ir447 false) (.node 438 (.fn ir438 false) (.node 434 (.fn ir434 false) (.node 432 (.fn ir432 false) (.node 431 (.fn ir431 false) .leaf .leaf) (.node 433 (.fn ir433 false) .leaf .leaf)) (.node 436 (.fn ir436 false) (.node 435 (.fn ir435 false) .leaf .leaf) (.node 437 (.fn ir437 false) .leaf .leaf))) (.node 442 (.fn ir442 false) (.node 440 (.fn ir440 false) (.node 439 (.fn ir439 false) .leaf .leaf) (.node 441 (.fn ir441 false) .leaf .leaf)) (.node 444 (.fn ir444 false) (.node 443 (.fn ir443 false) .leaf .leaf) .leaf))) (.node 455 (.fn ir455 false) (.node 451 (.fn ir451 false) (.node 449 (.fn ir449 false) (.node 448 (.fn ir448 false) .leaf .leaf) (.node 450 (.fn ir450 false) .leaf .leaf)) (.node 453 (.fn ir453 false) (.node 452 (.fn ir452 false) .leaf .leaf) (.node 454 (.fn ir454 false) .leaf .leaf))) (.node 459 (.fn ir459 false) (.node 457 (.fn ir457 false) (.node 456 (.fn ir456 false) .leaf .leaf) (.node 458 (.fn ir458 false) .leaf .leaf)) (.node 464 (.fn ir464 false) (.node 463 (.fn ir463 false) .leaf .leaf) .leaf))))) (.node 504 (.fn ir504 false) (.node 488 (.fn ir488 false) (.node 477 (.fn ir477 false) (.node 469 (.fn ir469 false) (.node 467 (.fn ir467 false) (.node 466 (.fn ir466 false) .leaf .leaf) (.node 468 (.fn ir468 false) .leaf .leaf)) (.node 471 (.fn ir471 false) (.node 470 (.fn ir470 false) .leaf .leaf) (.node 472 (.fn ir472 false) .leaf .leaf))) (.node 482 (.fn ir482 false) (.node 479 (.fn ir479 false) (.node 478 (.fn ir478 false) .leaf .leaf) (.node 481 (.fn ir481 false) .leaf .leaf)) (.node 484 (.fn ir484 false) (.node 483 (.fn ir483 false) .leaf .leaf) .leaf))) (.node 496 (.fn ir496 false) (.node 492 (.fn ir492 false) (.node 490 (.fn ir490 false) (.node 489 (.fn ir489 false) .leaf .leaf) (.node 491 (.fn ir491 false) .leaf .leaf)) (.node 494 (.fn ir494 false) (.node 493 (.fn ir493 false) .leaf .leaf) (.node 495 (.fn ir495 false) .leaf .leaf))) (.node 500 (.fn ir500 false) (.node 498 (.fn ir498 false) (.node 497 (.fn ir497 false) .leaf .leaf) (.node 499 (.fn ir499 false) .leaf .leaf)) (.node 503 (.fn ir503 false) (.node 501 (.fn ir501 false) .leaf .leaf) .leaf)))) (.node 532 (.fn ir532 false) (.node 519 (.fn ir519 false) (.node 512 (.fn ir512 false) (.node 506 (.fn ir506 false) (.node 505 (.fn ir505 false) .leaf .leaf) (.node 511 (.fn ir511 false) .leaf .leaf)) (.node 514 (.fn ir514 false) (.node 513 (.fn ir513 false) .leaf .leaf) (.node 515 (.fn ir515 false) .leaf .leaf))) (.node 529 (.fn ir529 false) (.node 521 (.fn ir521 false) (.node 520 (.fn ir520 false) .leaf .leaf) (.node 522 (.fn ir522 false) .leaf .leaf)) (.node 531 (.fn ir531 false) (.node 530 (.fn ir530 true) .leaf .leaf) .leaf))) (.node 549 (.fn ir549 false) (.node 542 (.fn ir542 false) (.node 534 (.fn ir534 false) (.node 533 (.fn ir533 false) .leaf .leaf) (.node 539 (.fn ir539 false) .leaf .leaf)) (.node 544 (.fn ir544 false) (.node 543 (.fn ir543 false) .leaf .leaf) .leaf)) (.node 554 (.fn ir554 false) (.node 551 (.fn ir551 false) (.node 550 (.fn ir550 false) .leaf .leaf) (.node 553 (.fn ir553 false) .leaf .leaf)) (.node 559 (.fn ir559 false) (.node 555 (.fn ir555 false) .leaf .leaf) .leaf))))))))
theorem XG:ZA Tryz.prog N7:=⟨⟨ck262,by kernel_rfl⟩,⟨⟨ck136,by kernel_rfl⟩,⟨⟨ck72,by kernel_rfl⟩,⟨⟨ck41,by kernel_rfl⟩,⟨⟨ck25,by kernel_rfl⟩,⟨⟨ck16,by kernel_rfl⟩,⟨⟨ck12,by kernel_rfl⟩,⟨⟨ck7,by kernel_rfl⟩,⟨⟨ck5,by kernel_rfl⟩,trivial,trivial⟩,⟨⟨ck9,by kernel_rfl⟩,trivial,trivial⟩⟩,⟨⟨ck14,by kernel_rfl⟩,⟨⟨ck13,by kernel_rfl⟩,trivial,trivial⟩,⟨⟨ck15,by kernel_rfl⟩,trivial,trivial⟩⟩⟩,⟨⟨ck22,by kernel_rfl⟩,⟨⟨ck18,by kernel_rfl⟩,⟨⟨ck17,by kernel_rfl⟩,trivial,trivial⟩,⟨⟨ck19,by kernel_rfl⟩,trivial,trivial⟩⟩,⟨⟨ck24,by kernel_rfl⟩,⟨⟨ck23,by kernel_rfl⟩,trivial,trivial⟩,trivial⟩⟩⟩,⟨⟨ck34,by kernel_rfl⟩,⟨⟨ck30,by kernel_rfl⟩,⟨⟨ck27,by kernel_rfl⟩,⟨⟨ck26,by kernel_rfl⟩,trivial,trivial⟩,⟨⟨ck28,by kernel_rfl⟩,trivial,trivial⟩⟩,⟨⟨ck32,by kernel_rfl⟩,⟨⟨ck31,by kernel_rfl⟩,trivial,trivial⟩,⟨⟨ck33,by kernel_rfl⟩,trivial,trivial⟩⟩⟩,⟨⟨ck38,by kernel_rfl⟩,⟨⟨ck36,by kernel_rfl⟩,⟨⟨ck35,by kernel_rfl⟩,trivial,trivial⟩,⟨⟨ck37,by kernel_rfl⟩,trivial,trivial⟩⟩,⟨⟨ck40,by kernel_rfl⟩,⟨⟨ck39,by kernel_rfl⟩,trivial,trivial⟩,trivial⟩⟩⟩⟩,⟨⟨ck56,by kernel_rfl⟩,⟨⟨ck49,by kernel_rfl⟩,⟨⟨ck45,by kernel_rfl⟩,⟨⟨ck43,by kernel_rfl⟩,⟨⟨ck42,by kernel_rfl⟩,trivial,trivial⟩,⟨⟨ck44,by kernel_rfl⟩,trivial,trivial⟩⟩,⟨⟨ck47,by kernel_rfl⟩,⟨⟨⟨ckS46,ckD98⟩,by kernel_rfl⟩,trivial,trivial⟩,⟨⟨ck48,by kernel_rfl⟩,trivial,trivial⟩⟩⟩,⟨⟨ck53,by kernel_rfl⟩,⟨⟨ck51,by kernel_rfl⟩,⟨⟨ck50,by kernel_rfl⟩,trivial,trivial⟩,⟨⟨ck52,by kernel_rfl⟩,trivial,trivial⟩⟩,⟨⟨ck55,by kernel_rfl⟩,⟨⟨ck54,by kernel_rfl⟩,trivial,trivial⟩,trivial⟩⟩⟩,⟨⟨ck65,by kernel_rfl⟩,⟨⟨ck60,by kernel_rfl⟩,⟨⟨⟨ckS58,ckD114⟩,by kernel_rfl⟩,⟨⟨ck57,by kernel_rfl⟩,trivial,trivial⟩,⟨⟨ck59,by kernel_rfl⟩,trivial,trivial⟩⟩,⟨⟨ck62,by kernel_rfl⟩,⟨⟨ck61,by kernel_rfl⟩,trivial,trivial⟩,⟨⟨ck63,by kernel_rfl⟩,trivial,trivial⟩⟩⟩,⟨⟨ck69,by kernel_rfl⟩,⟨⟨ck67,by kernel_rfl⟩,⟨⟨ck66,by kernel_rfl⟩,trivial,trivial⟩,⟨⟨ck68,by kernel_rfl⟩,trivial,trivial⟩⟩,⟨⟨ck71,by kernel_rfl⟩,⟨⟨ck70,by kernel_rfl⟩,trivial,trivial⟩,trivial⟩⟩⟩⟩⟩,⟨⟨ck103,by kernel_rfl⟩,⟨⟨ck87,by kernel_rfl⟩,⟨⟨ck80,by kernel_rfl⟩,⟨⟨ck76,by kernel_rfl⟩,⟨⟨ck74,by kernel_rfl⟩,⟨⟨ck73,by kernel_rfl⟩,trivial,trivial⟩,⟨⟨ck75,by kernel_rfl⟩,trivial,trivial⟩⟩,⟨⟨ck78,by kernel_rfl⟩,⟨⟨ck77,by kernel_rfl⟩,trivial,trivial⟩,⟨⟨ck79,by kernel_rfl⟩,trivial,trivial⟩⟩⟩,⟨⟨ck84,by kernel_rfl⟩,⟨⟨ck82,by kernel_rfl⟩,⟨⟨ck81,by kernel_rfl⟩,trivial,trivial⟩,⟨⟨ck83,by kernel_rfl⟩,trivial,trivial⟩⟩,⟨⟨ck86,by kernel_rfl⟩,⟨⟨ck85,by kernel_rfl⟩,trivial,trivial⟩,trivial⟩⟩⟩,⟨⟨ck95,by kernel_rfl⟩,⟨⟨ck91,by kernel_rfl⟩,⟨⟨ck89,by kernel_rfl⟩,⟨⟨ck88,by kernel_rfl⟩,trivial,trivial⟩,⟨⟨ck90,by kernel_rfl⟩,trivial,trivial⟩⟩,⟨⟨ck93,by kernel_rfl⟩,⟨⟨ck92,by kernel_rfl⟩,trivial,trivial⟩,⟨⟨ck94,by kernel_rfl⟩,trivial,trivial⟩⟩⟩,⟨⟨ck100,by kernel_rfl⟩,⟨⟨ck97,by kernel_rfl⟩,⟨⟨ck96,by kernel_rfl⟩,trivial,trivial⟩,⟨⟨ck99,by kernel_rfl⟩,trivial,trivial⟩⟩,⟨⟨ck102,by kernel_rfl⟩,⟨⟨ck101,by kernel_rfl⟩,trivial,trivial⟩,trivial⟩⟩⟩⟩,⟨⟨ck120,by kernel_rfl⟩,⟨⟨ck111,by kernel_rfl⟩,⟨⟨ck107,by kernel_rfl⟩,⟨⟨ck105,by kernel_rfl⟩,⟨⟨ck104,by kernel_rfl⟩,trivial,trivial⟩,⟨⟨ck106,by kernel_rfl⟩,trivial,trivial⟩⟩,⟨⟨ck109,by kernel_rfl⟩,⟨⟨ck108,by kernel_rfl⟩,trivial,trivial⟩,⟨⟨ck110,by kernel_rfl⟩,trivial,trivial⟩⟩⟩,⟨⟨ck117,by kernel_rfl⟩,⟨⟨ck115,by kernel_rfl⟩,⟨⟨ck113,by kernel_rfl⟩,trivial,trivial⟩,⟨⟨ck116,by kernel_rfl⟩,trivial,trivial⟩⟩,⟨⟨ck119,by kernel_rfl⟩,⟨⟨ck118,by kernel_rfl⟩,trivial,trivial⟩,trivial⟩⟩⟩,⟨⟨ck128,by kernel_rfl⟩,⟨⟨ck124,by kernel_rfl⟩,⟨⟨ck122,by kernel_rfl⟩,⟨⟨ck121,by kernel_rfl⟩,trivial,trivial⟩,⟨⟨ck123,by kernel_rfl⟩,trivial,trivial⟩⟩,⟨⟨ck126,by kernel_rfl⟩,⟨⟨ck125,by kernel_rfl⟩,trivial,trivial⟩,⟨⟨ck127,by kernel_rfl⟩,trivial,trivial⟩⟩⟩,⟨⟨ck133,by kernel_rfl⟩,⟨⟨ck131,by kernel_rfl⟩,⟨⟨ck129,by kernel_rfl⟩,trivial,trivial⟩,⟨⟨ck132,by kernel_rfl⟩,trivial,trivial⟩⟩,⟨⟨ck135,by kernel_rfl⟩,⟨⟨ck134,by kernel_rfl⟩,trivial,trivial⟩,trivial⟩⟩⟩⟩⟩⟩,⟨⟨ck199,by kernel_rfl⟩,⟨⟨ck166,by kernel_rfl⟩,⟨⟨ck151,by kernel_rfl⟩,⟨⟨ck144,by kernel_rfl⟩,⟨⟨ck140,by kernel_rfl⟩,⟨⟨ck138,by kernel_rfl⟩,⟨⟨ck137,by kernel_rfl⟩,trivial,trivial⟩,⟨⟨ck139,by kernel_rfl⟩,trivial,trivial⟩⟩,⟨⟨ck142,by kernel_rfl⟩,⟨⟨ck141,by kernel_rfl⟩,trivial,trivial⟩,⟨⟨ck143,by kernel_rfl⟩,trivial,trivial⟩⟩⟩,⟨⟨ck148,by kernel_rfl⟩,⟨⟨ck146,by kernel_rfl⟩,⟨⟨ck145,by kernel_rfl⟩,trivial,trivial⟩,⟨⟨ck147,by kernel_rfl⟩,trivial,trivial⟩⟩,⟨⟨ck150,by kernel_rfl⟩,⟨⟨ck149,by kernel_rfl⟩,trivial,trivial⟩,trivial⟩⟩⟩,⟨⟨ck159,by kernel_rfl⟩,⟨⟨ck155,by kernel_rfl⟩,⟨⟨ck153,by kernel_rfl⟩,⟨⟨ck152,by kernel_rfl⟩,trivial,trivial⟩,⟨⟨ck154,by kernel_rfl⟩,trivial,trivial⟩⟩,⟨⟨ck157,by kernel_rfl⟩,⟨⟨ck156,by kernel_rfl⟩,trivial,trivial⟩,⟨⟨ck158,by kernel_rfl⟩,trivial,trivial⟩⟩⟩,⟨⟨ck163,by kernel_rfl⟩,⟨⟨ck161,by kernel_rfl⟩,⟨⟨ck160,by kernel_rfl⟩,trivial,trivial⟩,⟨⟨ck162,by kernel_rfl⟩,trivial,trivial⟩⟩,⟨⟨ck165,by kernel_rfl⟩,⟨⟨ck164,by kernel_rfl⟩,trivial,trivial⟩,trivial⟩⟩⟩⟩,⟨⟨ck182,by kernel_rfl⟩,⟨⟨ck174,by kernel_rfl⟩,⟨⟨ck170,by kernel_rfl⟩,⟨⟨ck168,by kernel_rfl⟩,⟨⟨ck167,by kernel_rfl⟩,trivial,trivial⟩,⟨⟨ck169,by kernel_rfl⟩,trivial,trivial⟩⟩,⟨⟨ck172,by kernel_rfl⟩,⟨⟨ck171,by kernel_rfl⟩,trivial,trivial⟩,⟨⟨ck173,by kernel_rfl⟩,trivial,trivial⟩⟩⟩,⟨⟨ck178,by kernel_rfl⟩,⟨⟨ck176,by kernel_rfl⟩,⟨⟨ck175,by kernel_rfl⟩,trivial,trivial⟩,⟨⟨ck177,by kernel_rfl⟩,trivial,trivial⟩⟩,⟨⟨ck181,by kernel_rfl⟩,⟨⟨ck180,by kernel_rfl⟩,trivial,trivial⟩,trivial⟩⟩⟩,⟨⟨ck192,by kernel_rfl⟩,⟨⟨ck187,by kernel_rfl⟩,⟨⟨ck184,by kernel_rfl⟩,⟨⟨ck183,by kernel_rfl⟩,trivial,trivial⟩,⟨⟨ck185,by kernel_rfl⟩,trivial,trivial⟩⟩,⟨⟨ck189,by kernel_rfl⟩,⟨⟨ck188,by kernel_rfl⟩,trivial,trivial⟩,⟨⟨ck191,by kernel_rfl⟩,trivial,trivial⟩⟩⟩,⟨⟨ck196,by kernel_rfl⟩,⟨⟨ck194,by kernel_rfl⟩,⟨⟨ck193,by kernel_rfl⟩,trivial,trivial⟩,⟨⟨ck195,by kernel_rfl⟩,trivial,trivial⟩⟩,⟨⟨ck198,by kernel_rfl⟩,⟨⟨ck197,by kernel_rfl⟩,trivial,trivial⟩,trivial⟩⟩⟩⟩⟩,⟨⟨ck229,by kernel_rfl⟩,⟨⟨ck214,by kernel_rfl⟩,⟨⟨ck207,by kernel_rfl⟩,⟨⟨ck203,by kernel_rfl⟩,⟨⟨ck201,by kernel_rfl⟩,⟨⟨ck200,by kernel_rfl⟩,trivial,trivial⟩,⟨⟨ck202,by kernel_rfl⟩,trivial,trivial⟩⟩,⟨⟨ck205,by kernel_rfl⟩,⟨⟨ck204,by kernel_rfl⟩,trivial,trivial⟩,⟨⟨ck206,by kernel_rfl⟩,trivial,trivial⟩⟩⟩,⟨⟨ck211,by kernel_rfl⟩,⟨⟨ck209,by kernel_rfl⟩,⟨⟨ck208,by kernel_rfl⟩,trivial,trivial⟩,⟨⟨ck210,by kernel_rfl⟩,trivial,trivial⟩⟩,⟨⟨ck213,by kernel_rfl⟩,⟨⟨ck212,by kernel_rfl⟩,trivial,trivial⟩,trivial⟩⟩⟩,⟨⟨ck222,by kernel_rfl⟩,⟨⟨ck218,by kernel_rfl⟩,⟨⟨ck216,by kernel_rfl⟩,⟨⟨ck215,by kernel_rfl⟩,trivial,trivial⟩,⟨⟨ck217,by kernel_rfl⟩,trivial,trivial⟩⟩,⟨⟨ck220,by kernel_rfl⟩,⟨⟨ck219,by kernel_rfl⟩,trivial,trivial⟩,⟨⟨ck221,by kernel_rfl⟩,trivial,trivial⟩⟩⟩,⟨⟨ck226,by kernel_rfl⟩,⟨⟨ck224,by kernel_rfl⟩,⟨⟨ck223,by kernel_rfl⟩,trivial,trivial⟩,⟨⟨ck225,by kernel_rfl⟩,trivial,trivial⟩⟩,⟨⟨ck228,by kernel_rfl⟩,⟨⟨ck227,by kernel_rfl⟩,trivial,trivial⟩,trivial⟩⟩⟩⟩,⟨⟨ck248,by kernel_rfl⟩,⟨⟨ck241,by kernel_rfl⟩,⟨⟨ck237,by kernel_rfl⟩,⟨⟨ck235,by kernel_rfl⟩,⟨⟨ck234,by kernel_rfl⟩,trivial,trivial⟩,⟨⟨ck236,by kernel_rfl⟩,trivial,trivial⟩⟩,⟨⟨ck239,by kernel_rfl⟩,⟨⟨ck238,by kernel_rfl⟩,trivial,trivial⟩,⟨⟨ck240,by kernel_rfl⟩,trivial,trivial⟩⟩⟩,⟨⟨ck245,by kernel_rfl⟩,⟨⟨ck243,by kernel_rfl⟩,⟨⟨ck242,by kernel_rfl⟩,trivial,trivial⟩,⟨⟨ck244,by kernel_rfl⟩,trivial,trivial⟩⟩,⟨⟨ck247,by kernel_rfl⟩,⟨⟨ck246,by kernel_rfl⟩,trivial,trivial⟩,trivial⟩⟩⟩,⟨⟨ck255,by kernel_rfl⟩,⟨⟨ck252,by kernel_rfl⟩,⟨⟨ck250,by kernel_rfl⟩,⟨⟨ck249,by kernel_rfl⟩,trivial,trivial⟩,⟨⟨ck251,by kernel_rfl⟩,trivial,trivial⟩⟩,⟨⟨ck254,by kernel_rfl⟩,⟨⟨ck253,by kernel_rfl⟩,trivial,trivial⟩,trivial⟩⟩,⟨⟨ck259,by kernel_rfl⟩,⟨⟨ck257,by kernel_rfl⟩,⟨⟨ck256,by kernel_rfl⟩,trivial,trivial⟩,⟨⟨ck258,by kernel_rfl⟩,trivial,trivial⟩⟩,⟨⟨ck261,by kernel_rfl⟩,⟨⟨ck260,by kernel_rfl⟩,trivial,trivial⟩,trivial⟩⟩⟩⟩⟩⟩⟩,⟨⟨ck391,by kernel_rfl⟩,⟨⟨ck326,by kernel_rfl⟩,⟨⟨ck294,by kernel_rfl⟩,⟨⟨ck279,by kernel_rfl⟩,⟨⟨ck272,by kernel_rfl⟩,⟨⟨ck266,by kernel_rfl⟩,⟨⟨ck264,by kernel_rfl⟩,⟨⟨ck263,by kernel_rfl⟩,trivial,trivial⟩,⟨⟨ck265,by kernel_rfl⟩,trivial,trivial⟩⟩,⟨⟨ck270,by kernel_rfl⟩,⟨⟨ck269,by kernel_rfl⟩,trivial,trivial⟩,⟨⟨ck271,by kernel_rfl⟩,trivial,trivial⟩⟩⟩,⟨⟨ck276,by kernel_rfl⟩,⟨⟨ck274,by kernel_rfl⟩,⟨⟨ck273,by kernel_rfl⟩,trivial,trivial⟩,⟨⟨ck275,by kernel_rfl⟩,trivial,trivial⟩⟩,⟨⟨ck278,by kernel_rfl⟩,⟨⟨ck277,by kernel_rfl⟩,trivial,trivial⟩,trivial⟩⟩⟩,⟨⟨ck287,by kernel_rfl⟩,⟨⟨ck283,by kernel_rfl⟩,⟨⟨ck281,by kernel_rfl⟩,⟨⟨ck280,by kernel_rfl⟩,trivial,trivial⟩,⟨⟨ck282,by kernel_rfl⟩,trivial,trivial⟩⟩,⟨⟨ck285,by kernel_rfl⟩,⟨⟨ck284,by kernel_rfl⟩,trivial,trivial⟩,⟨⟨ck286,by kernel_rfl⟩,trivial,trivial⟩⟩⟩,⟨⟨ck291,by kernel_rfl⟩,⟨⟨ck289,by kernel_rfl⟩,⟨⟨ck288,by kernel_rfl⟩,trivial,trivial⟩,⟨⟨ck290,by kernel_rfl⟩,trivial,trivial⟩⟩,⟨⟨ck293,by kernel_rfl⟩,⟨⟨ck292,by kernel_rfl⟩,trivial,trivial⟩,trivial⟩⟩⟩⟩,⟨⟨ck309,by kernel_rfl⟩,⟨⟨ck302,by kernel_rfl⟩,⟨⟨ck298,by kernel_rfl⟩,⟨⟨ck296,by kernel_rfl⟩,⟨⟨ck295,by kernel_rfl⟩,trivial,trivial⟩,⟨⟨ck297,by kernel_rfl⟩,trivial,trivial⟩⟩,⟨⟨ck300,by kernel_rfl⟩,⟨⟨ck299,by kernel_rfl⟩,trivial,trivial⟩,⟨⟨ck301,by kernel_rfl⟩,trivial,trivial⟩⟩⟩,⟨⟨ck306,by kernel_rfl⟩,⟨⟨ck304,by kernel_rfl⟩,⟨⟨ck303,by kernel_rfl⟩,trivial,trivial⟩,⟨⟨ck305,by kernel_rfl⟩,trivial,trivial⟩⟩,⟨⟨ck308,by kernel_rfl⟩,⟨⟨ck307,by kernel_rfl⟩,trivial,trivial⟩,trivial⟩⟩⟩,⟨⟨ck317,by kernel_rfl⟩,⟨⟨ck313,by kernel_rfl⟩,⟨⟨ck311,by kernel_rfl⟩,⟨⟨ck310,by kernel_rfl⟩,trivial,trivial⟩,⟨⟨ck312,by kernel_rfl⟩,trivial,trivial⟩⟩,⟨⟨ck315,by kernel_rfl⟩,⟨⟨ck314,by kernel_rfl⟩,trivial,trivial⟩,⟨⟨ck316,by kernel_rfl⟩,trivial,trivial⟩⟩⟩,⟨⟨ck323,by kernel_rfl⟩,⟨⟨ck320,by kernel_rfl⟩,⟨⟨ck319,by kernel_rfl⟩,trivial,trivial⟩,⟨⟨ck322,by kernel_rfl⟩,trivial,trivial⟩⟩,⟨⟨ck325,by kernel_rfl⟩,⟨⟨ck324,by kernel_rfl⟩,trivial,trivial⟩,trivial⟩⟩⟩⟩⟩,⟨⟨ck356,by kernel_rfl⟩,⟨⟨ck341,by kernel_rfl⟩,⟨⟨ck334,by kernel_rfl⟩,⟨⟨ck330,by kernel_rfl⟩,⟨⟨ck328,by kernel_rfl⟩,⟨⟨ck327,by kernel_rfl⟩,trivial,trivial⟩,⟨⟨ck329,by kernel_rfl⟩,trivial,trivial⟩⟩,⟨⟨ck332,by kernel_rfl⟩,⟨⟨ck331,by kernel_rfl⟩,trivial,trivial⟩,⟨⟨ck333,by kernel_rfl⟩,trivial,trivial⟩⟩⟩,⟨⟨ck338,by kernel_rfl⟩,⟨⟨ck336,by kernel_rfl⟩,⟨⟨ck335,by kernel_rfl⟩,trivial,trivial⟩,⟨⟨ck337,by kernel_rfl⟩,trivial,trivial⟩⟩,⟨⟨ck340,by kernel_rfl⟩,⟨⟨ck339,by kernel_rfl⟩,trivial,trivial⟩,trivial⟩⟩⟩,⟨⟨ck349,by kernel_rfl⟩,⟨⟨ck345,by kernel_rfl⟩,⟨⟨ck343,by kernel_rfl⟩,⟨⟨ck342,by kernel_rfl⟩,trivial,trivial⟩,⟨⟨ck344,by kernel_rfl⟩,trivial,trivial⟩⟩,⟨⟨ck347,by kernel_rfl⟩,⟨⟨ck346,by kernel_rfl⟩,trivial,trivial⟩,⟨⟨ck348,by kernel_rfl⟩,trivial,trivial⟩⟩⟩,⟨⟨ck353,by kernel_rfl⟩,⟨⟨ck351,by kernel_rfl⟩,⟨⟨ck350,by kernel_rfl⟩,trivial,trivial⟩,⟨⟨ck352,by kernel_rfl⟩,trivial,trivial⟩⟩,⟨⟨ck355,by kernel_rfl⟩,⟨⟨ck354,by kernel_rfl⟩,trivial,trivial⟩,trivial⟩⟩⟩⟩,⟨⟨ck376,by kernel_rfl⟩,⟨⟨ck364,by kernel_rfl⟩,⟨⟨ck360,by kernel_rfl⟩,⟨⟨ck358,by kernel_rfl⟩,⟨⟨ck357,by kernel_rfl⟩,trivial,trivial⟩,⟨⟨ck359,by kernel_rfl⟩,trivial,trivial⟩⟩,⟨⟨ck362,by kernel_rfl⟩,⟨⟨ck361,by kernel_rfl⟩,trivial,trivial⟩,⟨⟨ck363,by kernel_rfl⟩,trivial,trivial⟩⟩⟩,⟨⟨ck373,by kernel_rfl⟩,⟨⟨ck371,by kernel_rfl⟩,⟨⟨ck370,by kernel_rfl⟩,trivial,trivial⟩,⟨⟨ck372,by kernel_rfl⟩,trivial,trivial⟩⟩,⟨⟨ck375,by kernel_rfl⟩,⟨⟨ck374,by kernel_rfl⟩,trivial,trivial⟩,trivial⟩⟩⟩,⟨⟨ck384,by kernel_rfl⟩,⟨⟨ck381,by kernel_rfl⟩,⟨⟨ck378,by kernel_rfl⟩,⟨⟨ck377,by kernel_rfl⟩,trivial,trivial⟩,⟨⟨ck380,by kernel_rfl⟩,trivial,trivial⟩⟩,⟨⟨ck383,by kernel_rfl⟩,⟨⟨ck382,by kernel_rfl⟩,trivial,trivial⟩,trivial⟩⟩,⟨⟨ck388,by kernel_rfl⟩,⟨⟨ck386,by kernel_rfl⟩,⟨⟨ck385,by kernel_rfl⟩,trivial,trivial⟩,⟨⟨ck387,by kernel_rfl⟩,trivial,trivial⟩⟩,⟨⟨ck390,by kernel_rfl⟩,⟨⟨ck389,by kernel_rfl⟩,trivial,trivial⟩,trivial⟩⟩⟩⟩⟩⟩,⟨⟨ck465,by kernel_rfl⟩,⟨⟨ck430,by kernel_rfl⟩,⟨⟨ck412,by kernel_rfl⟩,⟨⟨ck405,by kernel_rfl⟩,⟨⟨ck401,by kernel_rfl⟩,⟨⟨ck393,by kernel_rfl⟩,⟨⟨ck392,by kernel_rfl⟩,trivial,trivial⟩,⟨⟨ck400,by kernel_rfl⟩,trivial,trivial⟩⟩,⟨⟨ck403,by kernel_rfl⟩,⟨⟨ck402,by kernel_rfl⟩,trivial,trivial⟩,⟨⟨ck404,by kernel_rfl⟩,trivial,trivial⟩⟩⟩,⟨⟨ck409,by kernel_rfl⟩,⟨⟨ck407,by kernel_rfl⟩,⟨⟨ck406,by kernel_rfl⟩,trivial,trivial⟩,⟨⟨ck408,by kernel_rfl⟩,trivial,trivial⟩⟩,⟨⟨ck411,by kernel_rfl⟩,⟨⟨ck410,by kernel_rfl⟩,trivial,trivial⟩,trivial⟩⟩⟩,⟨⟨ck423,by kernel_rfl⟩,⟨⟨ck416,by kernel_rfl⟩,⟨⟨ck414,by kernel_rfl⟩,⟨⟨ck413,by kernel_rfl⟩,trivial,trivial⟩,⟨⟨ck415,by kernel_rfl⟩,trivial,trivial⟩⟩,⟨⟨ck418,by kernel_rfl⟩,⟨⟨ck417,by kernel_rfl⟩,trivial,trivial⟩,⟨⟨ck419,by kernel_rfl⟩,trivial,trivial⟩⟩⟩,⟨⟨ck427,by kernel_rfl⟩,⟨⟨ck425,by kernel_rfl⟩,⟨⟨ck424,by kernel_rfl⟩,trivial,trivial⟩,⟨⟨ck426,by kernel_rfl⟩,trivial,trivial⟩⟩,⟨⟨ck429,by kernel_rfl⟩,⟨⟨ck428,by kernel_rfl⟩,trivial,trivial⟩,trivial⟩⟩⟩⟩,⟨⟨ck447,by kernel_rfl⟩,⟨⟨ck438,by kernel_rfl⟩,⟨⟨ck434,by kernel_rfl⟩,⟨⟨ck432,by kernel_rfl⟩,⟨⟨ck431,by kernel_rfl⟩,trivial,trivial⟩,⟨⟨ck433,by kernel_rfl⟩,trivial,trivial⟩⟩,⟨⟨ck436,by kernel_rfl⟩,⟨⟨ck435,by kernel_rfl⟩,trivial,trivial⟩,⟨⟨ck437,by kernel_rfl⟩,trivial,trivial⟩⟩⟩,⟨⟨ck442,by kernel_rfl⟩,⟨⟨ck440,by kernel_rfl⟩,⟨⟨ck439,by kernel_rfl⟩,trivial,trivial⟩,⟨⟨ck441,by kernel_rfl⟩,trivial,trivial⟩⟩,⟨⟨ck444,by kernel_rfl⟩,⟨⟨ck443,by kernel_rfl⟩,trivial,trivial⟩,trivial⟩⟩⟩,⟨⟨ck455,by kernel_rfl⟩,⟨⟨ck451,by kernel_rfl⟩,⟨⟨ck449,by kernel_rfl⟩,⟨⟨ck448,by kernel_rfl⟩,trivial,trivial⟩,⟨⟨ck450,by kernel_rfl⟩,trivial,trivial⟩⟩,⟨⟨ck453,by kernel_rfl⟩,⟨⟨ck452,by kernel_rfl⟩,trivial,trivial⟩,⟨⟨ck454,by kernel_rfl⟩,trivial,trivial⟩⟩⟩,⟨⟨ck459,by kernel_rfl⟩,⟨⟨ck457,by kernel_rfl⟩,⟨⟨ck456,by kernel_rfl⟩,trivial,trivial⟩,⟨⟨ck458,by kernel_rfl⟩,trivial,trivial⟩⟩,⟨⟨ck464,by kernel_rfl⟩,⟨⟨ck463,by kernel_rfl⟩,trivial,trivial⟩,trivial⟩⟩⟩⟩⟩,⟨⟨ck504,by kernel_rfl⟩,⟨⟨ck488,by kernel_rfl⟩,⟨⟨ck477,by kernel_rfl⟩,⟨⟨ck469,by kernel_rfl⟩,⟨⟨ck467,by kernel_rfl⟩,⟨⟨ck466,by kernel_rfl⟩,trivial,trivial⟩,⟨⟨ck468,by kernel_rfl⟩,trivial,trivial⟩⟩,⟨⟨ck471,by kernel_rfl⟩,⟨⟨ck470,by kernel_rfl⟩,trivial,trivial⟩,⟨⟨ck472,by kernel_rfl⟩,trivial,trivial⟩⟩⟩,⟨⟨ck482,by kernel_rfl⟩,⟨⟨ck479,by kernel_rfl⟩,⟨⟨ck478,by kernel_rfl⟩,trivial,trivial⟩,⟨⟨ck481,by kernel_rfl⟩,trivial,trivial⟩⟩,⟨⟨ck484,by kernel_rfl⟩,⟨⟨ck483,by kernel_rfl⟩,trivial,trivial⟩,trivial⟩⟩⟩,⟨⟨ck496,by kernel_rfl⟩,⟨⟨ck492,by kernel_rfl⟩,⟨⟨ck490,by kernel_rfl⟩,⟨⟨ck489,by kernel_rfl⟩,trivial,trivial⟩,⟨⟨ck491,by kernel_rfl⟩,trivial,trivial⟩⟩,⟨⟨ck494,by kernel_rfl⟩,⟨⟨ck493,by kernel_rfl⟩,trivial,trivial⟩,⟨⟨ck495,by kernel_rfl⟩,trivial,trivial⟩⟩⟩,⟨⟨ck500,by kernel_rfl⟩,⟨⟨ck498,by kernel_rfl⟩,⟨⟨ck497,by kernel_rfl⟩,trivial,trivial⟩,⟨⟨ck499,by kernel_rfl⟩,trivial,trivial⟩⟩,⟨⟨ck503,by kernel_rfl⟩,⟨⟨ck501,by kernel_rfl⟩,trivial,trivial⟩,trivial⟩⟩⟩⟩,⟨⟨ck532,by kernel_rfl⟩,⟨⟨ck519,by kernel_rfl⟩,⟨⟨ck512,by kernel_rfl⟩,⟨⟨ck506,by kernel_rfl⟩,⟨⟨ck505,by kernel_rfl⟩,trivial,trivial⟩,⟨⟨ck511,by kernel_rfl⟩,trivial,trivial⟩⟩,⟨⟨ck514,by kernel_rfl⟩,⟨⟨ck513,by kernel_rfl⟩,trivial,trivial⟩,⟨⟨ck515,by kernel_rfl⟩,trivial,trivial⟩⟩⟩,⟨⟨ck529,by kernel_rfl⟩,⟨⟨ck521,by kernel_rfl⟩,⟨⟨ck520,by kernel_rfl⟩,trivial,trivial⟩,⟨⟨ck522,by kernel_rfl⟩,trivial,trivial⟩⟩,⟨⟨ck531,by kernel_rfl⟩,⟨⟨ck530,by kernel_rfl⟩,trivial,trivial⟩,trivial⟩⟩⟩,⟨⟨ck549,by kernel_rfl⟩,⟨⟨ck542,by kernel_rfl⟩,⟨⟨ck534,by kernel_rfl⟩,⟨⟨ck533,by kernel_rfl⟩,trivial,trivial⟩,⟨⟨ck539,by kernel_rfl⟩,trivial,trivial⟩⟩,⟨⟨ck544,by kernel_rfl⟩,⟨⟨ck543,by kernel_rfl⟩,trivial,trivial⟩,trivial⟩⟩,⟨⟨ck554,by kernel_rfl⟩,⟨⟨ck551,by kernel_rfl⟩,⟨⟨ck550,by kernel_rfl⟩,trivial,trivial⟩,⟨⟨ck553,by kernel_rfl⟩,trivial,trivial⟩⟩,⟨⟨ck559,by kernel_rfl⟩,⟨⟨ck555,by kernel_rfl⟩,trivial,trivial⟩,trivial⟩⟩⟩⟩⟩⟩⟩⟩
theorem Md:zz Tryz.prog 22 [.str Nq] (.tup [U6,.int .i64 0]):=zz.of_ev2 (ZA.tab XG yW) 100000 1000 rfl rfl (by decide +kernel)
theorem Nc:zz Tryz.prog 23 [U6] (.bool true):=zz.of_ev2 (ZA.tab XG yW) 100000 1000 rfl rfl (by decide +kernel)
theorem N5:zz Tryz.prog 28 [U6,SI] (.int .i64 0):=zz.of_ev2 (ZA.tab XG yW) 100000 1000 rfl rfl (by decide +kernel)
theorem Oz:zz Tryz.prog 27 [.str [123,95,95,116,121,112,101,110,97,109,101,125]] (.tup [SI,.int .i64 0]):=zz.of_ev2 (ZA.tab XG yW) 100000 1000 rfl rfl (by decide +kernel)
theorem ME:zz Tryz.prog 150 [U6,SI,.sl .no 6 [],.str [81,117,101,114,121],.sl .no 7 [ZO]] (.sl .no 2 [[.str Vc,.sl .no 7 [ZO]]]):=Q0 _ _ _ _ _
noncomputable def O1:=TF 22 [.str Nq] (.tup [U6,.int .i64 0]) Ov
noncomputable def O2:=TF 23 [U6] (.bool true) O1
noncomputable def O3:=TF 28 [U6,SI] (.int .i64 0) O2
noncomputable def O4:=TF 27 [.str [123,95,95,116,121,112,101,110,97,109,101,125]] (.tup [SI,.int .i64 0]) O3
noncomputable def O5:=TF 150 [U6,SI,.sl .no 6 [],.str [81,117,101,114,121],.sl .no 7 [ZO]] (.sl .no 2 [[.str Vc,.sl .no 7 [ZO]]]) O4
theorem NO:∀ f xs r,O5 f xs=some r→AV.frees xs=true∧r.free=true∧zz Tryz.prog f xs r:=Xv ME rfl rfl (Xv Oz rfl rfl (Xv N5 rfl rfl (Xv Nc rfl rfl (Xv Md rfl rfl yW))))
theorem XE:zz Tryz.prog 7 [] (.bool true):=zz.of_ev2 (O:=O5) (ZA.tab XG NO) 100000 1000 rfl rfl (by decide +kernel)
end Go.Proofs.YtdpfofoinaammaaGreatDoor
