/- PROVED: ServeWords is true for all arguments, where the listed package variables hold what the program lays; the arguments read as before. -/
import Derived.Test.YtdpfofoinaammaaGreatDoorM9
set_option maxRecDepth 100000
set_option linter.all false
namespace Go.Proofs.YtdpfofoinaammaaGreatDoor
open Go.Ab Go.Lib
open Go.ChangeShapes Go.WideShapes Go.ChangeAt Go.RowKit Go.WideElems
end Go.Proofs.YtdpfofoinaammaaGreatDoor
namespace Go.Proofs.YtdpfofoinaammaaGreatDoor
open Go.Ab Go.Lib
def Vj:List (List UInt8):=[[111,107],[97,114,103],[102,111,114,109],[115,105,122,101],[100,101,101,112],[116,119,105,99,101],[110,111,110,101],[116,121,112,101],[114,97,110,103,101],[110,117,108,108],[98,114,111,107,101,110],[112,97,110,105,99],[99,97,110,99,101,108],[114,117,108,101],[115,116,97,116,101]]
def XT (n:Int):List UInt8:=if 0≤n∧n≤14 then Vj.getD n.toNat [] else [101,114,114,111,114]
theorem TU:∀ i j:Fin 15,Vj.getD i.val []=Vj.getD j.val []→i=j:=by decide
theorem TT {a b:Int} (ha:0≤a∧a≤14) (hb:0≤b∧b≤14):XT a=XT b↔a=b:=by
 constructor
 ·intro h
  unfold XT at h
  rw[if_pos ha,if_pos hb] at h
  have:=TU ⟨a.toNat,by omega⟩ ⟨b.toNat,by omega⟩ h
  have:=congrArg Fin.val this
  simp only at this
  omega
 ·rintro rfl;rfl
theorem TO:∀ i:Fin 15,Vj.getD i.val []≠[]:=by decide
theorem U9 (a:Int):XT a≠[]:=by
 unfold XT
 split
 ·rename_i h;exact TO ⟨a.toNat,by omega⟩
 ·simp
noncomputable def PP:Tr:=(.node 6 (.fn ir6 false) (.node 5 (.fn ir5 false) .leaf .leaf) .leaf)
theorem XH:ZA Tryz.prog PP:=⟨⟨ck6,by kernel_rfl⟩,⟨⟨ck5,by kernel_rfl⟩,trivial,trivial⟩,trivial⟩
theorem Uv (n:Int):zz Tryz.prog 5 [.int .i64 n] (.str (XT n)):=by
 by_cases h:0≤n∧n≤14
 ·rcases(by omega:n=0∨n=1∨n=2∨n=3∨n=4∨n=5∨n=6∨n=7∨n=8∨n=9∨n=10∨n=11∨n=12∨n=13∨n=14) with rfl|rfl|rfl|rfl|rfl|rfl|rfl|rfl|rfl|rfl|rfl|rfl|rfl|rfl|rfl<;>exact zz.of_ev2 (ZA.tab XH yW) 100 100 rfl rfl (by decide +kernel)
 ·have e:XT n=[101,114,114,111,114]:=by unfold XT;rw[if_neg h]
  rw[e]
  refine zz.go ir5 ck5 (yX _) fun KP Q hQ=>?_
  simp(disch:=first|omega|assumption) only[ir5,go_sem]
  refine z7 fun b3 hb3=>?_
  simp(disch:=first|omega|assumption) only[go_sem]
  by_cases h1:n<0
  ·simp(disch:=first|omega|assumption) only[h1,go_sem]
   exact hQ _ _ _ _ nofun rfl (by simp[zL,zd,AV.strip,AV.strip1])
  ·have h2:15≤n:=by omega
   simp(disch:=first|omega|assumption) only[h1,h2,go_sem]
   exact hQ _ _ _ _ nofun rfl (by simp[zL,zd,AV.strip,AV.strip1])
def Vi:List (List AV):=Vj.map fun s=>[.str s]
theorem yS:Vi.length=15:=rfl
theorem RT (ρ:Env):zY ρ (.bls 1 15 [.str []] [(0,(.k (.str [111,107]))),(1,(.k (.str [97,114,103]))),(2,(.k (.str [102,111,114,109]))),(3,(.k (.str [115,105,122,101]))),(4,(.k (.str [100,101,101,112]))),(5,(.k (.str [116,119,105,99,101]))),(6,(.k (.str [110,111,110,101]))),(7,(.k (.str [116,121,112,101]))),(8,(.k (.str [114,97,110,103,101]))),(9,(.k (.str [110,117,108,108]))),(10,(.k (.str [98,114,111,107,101,110]))),(11,(.k (.str [112,97,110,105,99]))),(12,(.k (.str [99,97,110,99,101,108]))),(13,(.k (.str [114,117,108,101]))),(14,(.k (.str [115,116,97,116,101])))])=some (.sl .full 1 Vi):=rfl
theorem PY (n:Int):zz Tryz.prog 6 [.int .i64 n] (.str (XT n)):=by
 by_cases h:0≤n∧n≤14
 ·rcases(by omega:n=0∨n=1∨n=2∨n=3∨n=4∨n=5∨n=6∨n=7∨n=8∨n=9∨n=10∨n=11∨n=12∨n=13∨n=14) with rfl|rfl|rfl|rfl|rfl|rfl|rfl|rfl|rfl|rfl|rfl|rfl|rfl|rfl|rfl<;>exact zz.of_ev2 (ZA.tab XH yW) 100 100 rfl rfl (by decide +kernel)
 ·have e:XT n=[101,114,114,111,114]:=by unfold XT;rw[if_neg h]
  rw[e]
  refine zz.go ir6 ck6 (yX _) fun KP Q hQ=>?_
  simp(disch:=first|omega|assumption) only[ir6,↓RT,yS,go_sem]
  by_cases h1:n<0
  ·simp(disch:=first|omega|assumption) only[h1,yS,go_sem]
   exact hQ _ _ _ _ nofun rfl (by simp[zL,zd,AV.strip,AV.strip1])
  ·have h2:15≤n:=by omega
   simp(disch:=first|omega|assumption) only[h1,h2,yS,go_sem]
   exact hQ _ _ _ _ nofun rfl (by simp[zL,zd,AV.strip,AV.strip1])
theorem Wp (a b:Int):zz Tryz.prog 3 [.int .i64 a,.int .i64 b] (.bool true):=by
 have hA:=XE
 have hn:=U9 a
 refine zz.go ir3 ck3 (yX _) fun KP Q hQ=>?_
 simp(disch:=first|omega|assumption) only[ir3,go_sem]
 refine zq (Uv a) ?_
 simp(disch:=first|omega|assumption) only[go_sem]
 refine zq (PY a) ?_
 simp(disch:=first|omega|assumption) only[go_sem]
 by_cases h1:0≤a
 ·by_cases h2:a≤14
  ·by_cases h3:0≤b
   ·by_cases h4:b≤14
    ·simp(disch:=first|omega|assumption) only[h1,h2,h3,h4,go_sem]
     refine zq (Uv a) ?_
     simp(disch:=first|omega|assumption) only[go_sem]
     refine zq (Uv b) ?_
     have hi:=TT (a:=a) (b:=b) ⟨h1,h2⟩ ⟨h3,h4⟩
     simp(disch:=first|omega|assumption) only[go_sem]
     by_cases e:a=b
     ·simp(disch:=first|omega|assumption) only[e,go_sem]
      refine zq (Uv b) ?_
      have hn:=U9 b
      simp(disch:=first|omega|assumption) only[hn,go_sem]
      refine zq hA ?_
      simp(disch:=first|omega|assumption) only[go_sem]
      exact hQ _ _ _ _ nofun rfl (by simp[zL,zd,AV.strip,AV.strip1])
     ·have e2:XT a≠XT b:=fun h=>e (hi.1 h)
      simp(disch:=first|omega|assumption) only[e,e2,go_sem]
      refine zq (Uv a) ?_
      simp(disch:=first|omega|assumption) only[hn,go_sem]
      refine zq hA ?_
      simp(disch:=first|omega|assumption) only[go_sem]
      exact hQ _ _ _ _ nofun rfl (by simp[zL,zd,AV.strip,AV.strip1])
    ·simp(disch:=first|omega|assumption) only[h1,h2,h3,h4,go_sem]
     refine zq (Uv a) ?_
     simp(disch:=first|omega|assumption) only[hn,go_sem]
     refine zq hA ?_
     simp(disch:=first|omega|assumption) only[go_sem]
     exact hQ _ _ _ _ nofun rfl (by simp[zL,zd,AV.strip,AV.strip1])
   ·simp(disch:=first|omega|assumption) only[h1,h2,h3,go_sem]
    refine zq (Uv a) ?_
    simp(disch:=first|omega|assumption) only[hn,go_sem]
    refine zq hA ?_
    simp(disch:=first|omega|assumption) only[go_sem]
    exact hQ _ _ _ _ nofun rfl (by simp[zL,zd,AV.strip,AV.strip1])
  ·simp(disch:=first|omega|assumption) only[h1,h2,go_sem]
   refine zq (Uv a) ?_
   simp(disch:=first|omega|assumption) only[hn,go_sem]
   refine zq hA ?_
   simp(disch:=first|omega|assumption) only[go_sem]
   exact hQ _ _ _ _ nofun rfl (by simp[zL,zd,AV.strip,AV.strip1])
 ·simp(disch:=first|omega|assumption) only[h1,go_sem]
  refine zq (Uv a) ?_
  simp(disch:=first|omega|assumption) only[hn,go_sem]
  refine zq hA ?_
  simp(disch:=first|omega|assumption) only[go_sem]
  exact hQ _ _ _ _ nofun rfl (by simp[zL,zd,AV.strip,AV.strip1])
theorem XW (s:List UInt8):zz Tryz.prog 8 [.nilp,.str s] (.tup [.agg [.sl .no 5 [],.sl .no 4 []],.agg [.int .i64 0,.str [],.sl .no 10 [],.sl .no 2 [],.sl .no 7 []],.sl .no 6 [],.str []]):=by
 refine zz.go ir8 ck8 (yX _) fun KP Q hQ=>?_
 simp(disch:=first|omega|assumption) only[ir8,go_sem]
 refine z7 fun b4 hb4=>?_
 simp(disch:=first|omega|assumption) only[go_sem]
 refine z7 fun b5 hb5=>?_
 have m:b4≠b5:=fun e=>by subst e;simp[zb.upd] at hb5
 simp(disch:=first|omega|assumption) only[m,Ne.symm m,go_sem]
 exact hQ _ _ _ [.agg [.sl .nil 5 [],.sl .nil 4 []],.agg [.int .i64 0,.str [],.sl .nil 10 [],.sl .nil 2 [],.sl .nil 7 []],.sl .nil 6 [],.str []] nofun (by simp(disch:=first|omega|assumption) only[ir8,yl,WJ,m,Ne.symm m,go_sem]) rfl
theorem Xf (s:List UInt8):zz Tryz.prog 9 [.nilp,.str s,.agg [.int .i64 0,.int .i64 0,.int .i64 0],.sl .nil 1 []] (.str []):=by
 refine zz.go ir9 ck9 (yX _) fun KP Q hQ=>?_
 simp(disch:=first|omega|assumption) only[ir9,go_sem]
 refine z7 fun b6 hb6=>?_
 simp(disch:=first|omega|assumption) only[go_sem]
 exact hQ _ _ _ _ nofun rfl (by simp[zL,zd,AV.strip,AV.strip1])
theorem Xl:zz Tryz.prog 10 [.nilp] (.sl .no 2 []):=by
 refine zz.go ir10 ck10 (yX _) fun KP Q hQ=>?_
 simp(disch:=first|omega|assumption) only[ir10,go_sem]
 exact hQ _ _ _ _ nofun rfl (by simp[zL,zd,AV.strip,AV.strip1])
theorem UT:zz Tryz.prog 11 [.nilp] (.sl .no 7 []):=by
 refine zz.go ir11 ck11 (yX _) fun KP Q hQ=>?_
 simp(disch:=first|omega|assumption) only[ir11,go_sem]
 exact hQ _ _ _ _ nofun rfl (by simp[zL,zd,AV.strip,AV.strip1])
theorem Vd (s:List UInt8) (hs:s.length≤maxLen):zz Tryz.prog 4 [.str s] (.bool true):=by
 have hA:=XE
 have w0:IntKind.i64.wrap 0=0:=rfl
 refine zz.go ir4 ck4 (yX _) fun KP Q hQ=>?_
 simp(disch:=first|omega|assumption) only[ir4,go_sem]
 by_cases h:(2000:Int)<(s.length:Int)
 ·simp(disch:=first|omega|assumption) only[h,go_sem]
  refine zq hA ?_
  simp(disch:=first|omega|assumption) only[go_sem]
  exact hQ _ _ _ _ nofun rfl (by simp[zL,zd,AV.strip,AV.strip1])
 ·simp(disch:=first|omega|assumption) only[h,go_sem]
  refine zq (XW s) ?_
  simp(disch:=first|omega|assumption) only[go_sem]
  refine z7 fun b4 hb4=>?_
  simp(disch:=first|omega|assumption) only[go_sem]
  refine z7 fun b5 hb5=>?_
  have m:b4≠b5:=fun e=>by subst e;simp[zb.upd] at hb5
  simp(disch:=first|omega|assumption) only[m,Ne.symm m,go_sem]
  refine zq (Xf s) ?_
  simp(disch:=first|omega|assumption) only[go_sem]
  refine zq Xl ?_
  simp(disch:=first|omega|assumption) only[go_sem]
  refine zq UT ?_
  simp(disch:=first|omega|assumption) only[w0,go_sem]
  refine zq hA ?_
  simp(disch:=first|omega|assumption) only[w0,go_sem]
  exact hQ _ _ _ _ nofun rfl (by simp[zL,zd,AV.strip,AV.strip1])
open Go.ChangeAt Go.ChangeShapes Go.RowKit Go.WideElems Go.WideShapes
theorem Y7 (H:Type) (enc:TypeId×Value→H) (W:World) (base:Nat) (args:Array Value) (ds gs:List (DataW H)) (before:List MemPlace)
  (hval:∀(j:Nat) t v,Tryz.f3.params[j]?=some t→args[j]?=some v→Value.okWide Tryz.prog W .any base t v)
  (hW:DataW.Whole enc Tryz.prog Tryz.f3.params.toList Rows.serveWordsSpec.vars false W args.toList ds gs before) (hc:yz (ds++gs)≤1048576)
  (hz:(DataW.weightsEach Tryz.prog (Tryz.f3.params.toList++(Rows.OpenSpec.upto Rows.serveWordsSpec).bare.plain.varTypes Tryz.prog) (ds++gs)).all (·≤reachBytes)=true)
  (hL:laidMetH Tryz.prog V8 W) (hS:W.ShapedOpen Tryz.prog) :
  Calls Tryz.prog 3 args W fun e W'=>∃ v,e=.returned v∧Rows.serveWordsSpec.post enc Tryz.prog Tryz.f3 false true false false W args v W':=by
 have hW':=hW
 obtain⟨p,q,hA0,hV,rfl,hfz,hnd⟩:=hW
 have hA:DataW.TrodAll enc Tryz.prog W 0 (fun _=>true) true Tryz.f3.params.toList args.toList ds p:=hA0
 obtain⟨rfl,rfl⟩:=trodVars_none hV
 rw[Tryz.params3] at hA hval hz
 obtain⟨v0,vs0,d0,ds0,p0,q0,hargs,rfl,rfl,h0,hA⟩:=trodAll_cons hA
 obtain⟨v1,vs1,d1,ds1,p1,q1,rfl,rfl,rfl,h1,hA⟩:=trodAll_cons hA
 obtain⟨rfl,rfl,rfl⟩:=trodAll_nil hA
 obtain rfl:args=#[v0,v1]:=by cases args;simp_all
 obtain⟨a0,ok0,b0,g0⟩:=ZP.arg (P:=Tryz.prog) (f:=fun n=>.int .i64 n) (fun m=>ZP.int (k:=.i64) Tryz.underlying3) h0 (sized hz (j:=0) rfl rfl) (V7 Tryz.underlying3 (hval 0 3 v0 rfl rfl))
 obtain⟨a1,ok1,b1,g1⟩:=ZP.arg (P:=Tryz.prog) (f:=fun n=>.int .i64 n) (fun m=>ZP.int (k:=.i64) Tryz.underlying3) h1 (sized hz (j:=1) rfl rfl) (V7 Tryz.underlying3 (hval 1 3 v1 rfl rfl))
 simp only[List.append_nil,yz] at hc
 refine XK (P:=Tryz.prog) (fn:=Tryz.f3) (tb:=4) laidOut rfl ?_ (by kernel_rfl) Tryz.underlying4 hW' rfl (Sw hL hS) (zv.cons g0 (zv.cons g1 zv.nil)) (Wp a0 a1)
 rw[Tryz.params3]
 intro t ht
 simp only[List.mem_cons,List.not_mem_nil,or_false] at ht
 rcases ht with rfl|rfl<;>exact⟨by kernel_rfl,by decide +kernel⟩
theorem XV (os:Os) {H:Type} (enc:TypeId×Value→H):∃ places,DataW.whole enc Tryz.prog ((laidWorld os).forCall (fun _ _=>0) ⟨#[],#[.int .i64 0,.int .i64 0],[]⟩).memory Tryz.f3.params.toList Rows.serveWordsSpec.vars false #[.int .i64 0,.int .i64 0].toList 8=some ([.lit (.int .i64 0),.lit (.int .i64 0)],[],places) :=
 ⟨[],by kernel_rfl⟩
theorem Xz (os:Os) (started:os.Started) (H:Type) (enc:TypeId×Value→H) (F:Stop.Interp) :
  ReturnsInHanded {} Tryz.checked os 3 .any ((Rows.OpenSpec.upto Rows.serveWordsSpec).preRow enc Tryz.prog Tryz.f3 Rows.serveWordsUptoRow.domain false Rows.serveWordsUptoRow.laid) (((Rows.OpenSpec.upto Rows.serveWordsSpec).at F).post enc Tryz.prog Tryz.f3 false true false false):=by
 obtain⟨places,hx⟩:=XV os enc
 refine returnsInHanded_of_row (C:=Tryz.checked) (s:=Rows.OpenSpec.upto Rows.serveWordsSpec) own started (by kernel_rfl) Tryz.func3
  (witness_row_atRef (enc:=enc) (C:=Tryz.checked) false (laidWorld os) #[.int .i64 0,.int .i64 0] rfl (by kernel_rfl) (by kernel_rfl) (by kernel_rfl)
   (OpenSpec.preRow_of_cond 8 hx (by kernel_rfl) (fun k hk=>by cases hk;kernel_rfl) (by kernel_rfl) (laid_met os _))) ?_
 intro W base args ds gs before hval hW _ hcond hz hL hS _
 exact Y7 H enc W base args ds gs before hval hW (V4 hcond) hz hL hS
theorem Wc:UL Tryz.pinned.checked.prog 3 Tryz.f3 (Rows.OpenSpec.upto Rows.serveWordsSpec).bare Rows.serveWordsUptoRow=true:=by kernel_rfl
theorem XS:UR Tryz.pinned.checked.prog 3 Tryz.f3 (Rows.OpenSpec.upto Rows.serveWordsSpec).bare Rows.serveWordsUptoRow=true:=by kernel_rfl
theorem X6:(Rows.serveWordsUptoRow.inPlace==Tryz.pinned.checked.prog.inPlace 3)=true:=by kernel_rfl
theorem MM:(Rows.serveWordsUptoRow.unfollowed==Tryz.pinned.checked.prog.unfollowed 3)=true:=by kernel_rfl
theorem UH:(Rows.serveWordsUptoRow.recurses==Tryz.pinned.checked.prog.recurses 3)=true:=by kernel_rfl
theorem ML:(Rows.serveWordsUptoRow.named==Tryz.pinned.checked.prog.varsNamed 3)=true:=by kernel_rfl
theorem X1:UD Tryz.pinned.checked.prog 3 Tryz.f3 (Rows.OpenSpec.upto Rows.serveWordsSpec).bare Rows.serveWordsUptoRow=true:=by kernel_rfl
theorem X5:UP Tryz.pinned.checked.prog 3 Tryz.f3 (Rows.OpenSpec.upto Rows.serveWordsSpec).bare Rows.serveWordsUptoRow=true:=by kernel_rfl
theorem Wb:Uk Tryz.pinned.checked.prog 3 Tryz.f3 (Rows.OpenSpec.upto Rows.serveWordsSpec).bare Rows.serveWordsUptoRow=true:=by kernel_rfl
theorem XZ:UB Tryz.pinned.checked.prog 3 Tryz.f3 (Rows.OpenSpec.upto Rows.serveWordsSpec).bare Rows.serveWordsUptoRow=true:=by kernel_rfl
theorem WR:Rows.ServeWordsUptoSaid :=
 OpenClaim.holds_of_cond 3 Tryz.f3 rfl rfl rfl rfl rfl rfl rfl ⟨rfl,rfl,rfl,rfl,rfl⟩ rfl rfl rfl rfl rfl (by kernel_rfl) Tryz.func3 (VW laidOut mapsOut Wc XS X6 MM UH ML X1 X5 Wb XZ)
  (of_decide_eq_true (by kernel_rfl)) (by unfold Func.isWrapper;first|(rw[if_pos (by decide +kernel)];kernel_rfl)|(rw[if_neg (by decide +kernel)];exact⟨rfl,rfl⟩))
  (fun os started H enc _ F=>by rw[OpenClaim.pre_eq_preRow];exact Xz os started H enc F)
theorem X3 (f : FuncId) (fn : Func) (hf : Tryz.pinned.checked.prog.funcNamed "seine/seinelaw36.ServeWords" = some f) (hfn : Tryz.pinned.checked.prog.funcs[f]? = some fn) :
  true=Tryz.pinned.checked.prog.looks []∧∀(j:Nat) t,fn.params[j]?=some t→Tryz.pinned.checked.prog.wantsStandIn t=false:=by
 obtain rfl : f = 3 := Option.some.inj ((show Tryz.prog.funcNamed "seine/seinelaw36.ServeWords" = some 3 by kernel_rfl).symm.trans hf) |>.symm
 obtain rfl:fn=Tryz.f3:=(Option.some.inj (Tryz.func3.symm.trans hfn)).symm
 refine⟨by kernel_rfl,fun j t ht=>?_⟩
 rw[Tryz.params3] at ht
 have hm:=Array.mem_of_getElem? ht
 simp only[List.mem_toArray,List.mem_cons,List.not_mem_nil,or_false] at hm
 rcases hm with rfl|rfl<;>exact(show Tryz.prog.wantsStandIn _=false by kernel_rfl)
theorem WK:Tryz.pinned.checked.prog.mainIs=some (Rows.serveWordsUptoCard.stood.harness.1,Rows.serveWordsUptoCard.stood.harness.2.toList):=by kernel_rfl
theorem WB:false=Rows.serveWordsUptoRow.goesBy Tryz.pinned.checked.prog:=Wm (by kernel_rfl)
theorem ServeWords_card:Rows.ServeWordsUptoCardSaid :=
 Claim7.holds_tied_plain_at .later [] _ _ _ _ WR (fun _ h=>by cases h) (by kernel_rfl) (fun _ h=>by cases h) Z3 rfl ⟨rfl,rfl⟩ WK rfl X3 WB
end Go.Proofs.YtdpfofoinaammaaGreatDoor
