import Derived.Test.YticbbfbpeimkbaaGreatDoorM1
import Derived.Test.YticbbfbpeimkbaaGreatDoorM2
import Derived.Test.YticbbfbpeimkbaaGreatDoorM3
import Derived.Test.YticbbfbpeimkbaaGreatDoorM4
import Derived.Test.YticbbfbpeimkbaaGreatDoorM5
import Derived.Test.YticbbfbpeimkbaaGreatDoorM6
import Derived.Test.YticbbfbpeimkbaaGreatDoorM7
import Derived.Test.YticbbfbpeimkbaaGreatDoorM8
import Derived.Test.YticbbfbpeimkbaaGreatDoorM9
set_option maxRecDepth 100000
set_option linter.all false
namespace Go.Proofs.YticbbfbpeimkbaaGreatDoor
open Go.Ab Go.Lib
open Go.ChangeShapes Go.WideShapes Go.ChangeAt Go.RowKit Go.WideElems
theorem zhF:∀ l,bSs l=(l.map bS).sum
 | []=>rfl
 | v::r=>by simp[bSs,zhF r]
theorem zn2:∀ m,z7 Tryz.prog m 169 2 cD wfD bD
 | 0=>z7.zero
 | k+1=>z7.struct (zU.cons (by kernel_rfl) (z7.str Tryz.underlying9) (zU.cons (by kernel_rfl) (zjM k) zU.nil))
   (by kernel_rfl) (by kernel_rfl) cD wfD bD (fun x=>⟨x.1,x.2.1⟩) (fun a=>rfl) (fun a h=>h.2.1) (fun a=>by simp only[bD];omega)
theorem zjx:∀ m,z7 Tryz.prog m 43 1 (fun l:List DirD=>[.sl .no 2 (cDs l)]) zf2 (fun l=>bDs l+1)
 | 0=>z7.zero
 | m+1=>by
  intro enc W cs d ps h1 h2
  obtain⟨a,h3,h4,h5,h6⟩:=z7.slice (t:=43) Tryz.underlying43 (B:=40) (sz:=2) (by kernel_rfl) (by kernel_rfl) (by decide) (zn2 m) enc W cs d ps h1 h2
  exact⟨a,h3.2.2,by simp only[bDs];exact h4,h5,by simp only[cDs];exact h6⟩
theorem zi8 {m:Nat} (h:z7 Tryz.prog m 96 7 cS wfS bS):z7 Tryz.prog (m+1) 36 1 (fun l:List SelD=>[.sl .no 7 (cSs l)]) zb7 (fun l=>bSs l+1):=by
 intro H enc W cs d ps h1 h2
 obtain⟨a,h3,h4,h5,h6⟩:=z7.slice (t:=36) Tryz.underlying36 (B:=128) (sz:=7) (by kernel_rfl) (by kernel_rfl) (by decide) h enc W cs d ps h1 h2
 exact⟨a,zfL h3.2.2,by simp only[zhF];exact h4,h5,by simp only[zb9];exact h6⟩
theorem zn0:∀ m,z7 Tryz.prog m 96 7 cS wfS bS:=by
 intro m
 induction m using Nat.strongRecOn with
 | _ m ih =>
  cases m with
  | zero=>exact z7.zero
  | succ k =>
   have hs:z7 Tryz.prog k 36 1 (fun l:List SelD=>[.sl .no 7 (cSs l)]) zb7 (fun l=>bSs l+1):=by
    cases k with
    | zero=>exact z7.zero
    | succ k=>exact zi8 (ih k (by omega))
   intro H
   exact z7.struct (zU.cons (by kernel_rfl) (z7.int (k:=.i64) Tryz.underlying3) (zU.cons (by kernel_rfl) (z7.str Tryz.underlying9) (zU.cons (by kernel_rfl) (z7.str Tryz.underlying9) (zU.cons (by kernel_rfl) (zjM k) (zU.cons (by kernel_rfl) (zjx k) (zU.cons (by kernel_rfl) (z7.str Tryz.underlying9) (zU.cons (by kernel_rfl) hs zU.nil)))))))
    (by kernel_rfl) (by kernel_rfl) cS wfS bS (fun x=>.mk x.1 x.2.1 x.2.2.1 x.2.2.2.1 x.2.2.2.2.1 x.2.2.2.2.2.1 x.2.2.2.2.2.2.1) (fun a=>rfl) (fun a h=>⟨h.2.2.2.1,h.2.2.2.2.1,h.2.2.2.2.2.2.1⟩) (fun a=>by simp only[bS];omega)
theorem zlA:∀ m,z7 Tryz.prog m 36 1 (fun l:List SelD=>[.sl .no 7 (cSs l)]) zb7 (fun l=>bSs l+1)
 | 0=>z7.zero
 | m+1=>zi8 (zn0 m)
def bTy (t:TyD):Nat:=t.nm.length
theorem znP:∀ m,z7 Tryz.prog m 60 3 cTy (fun t=>inR t.lists∧inR t.musts) bTy
 | 0=>z7.zero
 | k+1=>z7.struct (zU.cons (by kernel_rfl) (z7.str Tryz.underlying9) (zU.cons (by kernel_rfl) (z7.int (k:=.i64) Tryz.underlying3) (zU.cons (by kernel_rfl) (z7.int (k:=.i64) Tryz.underlying3) zU.nil)))
   (by kernel_rfl) (by kernel_rfl) cTy (fun t=>inR t.lists∧inR t.musts) bTy (fun x=>⟨x.1,x.2.1,x.2.2.1⟩) (fun a=>rfl) (fun a h=>⟨zg6 h.2.1,zg6 h.2.2.1⟩) (fun a=>by simp only[bTy];omega)
theorem znX:∀ m,z7 Tryz.prog m 92 10 cW wfW bW
 | 0=>z7.zero
 | k+1=>z7.struct (zU.cons (by kernel_rfl) (z7.str Tryz.underlying9) (zU.cons (by kernel_rfl) (znP k) (zU.cons (by kernel_rfl) (z7.bool Tryz.underlying4) (zU.cons (by kernel_rfl) (znN k) zU.nil))))
   (by kernel_rfl) (by kernel_rfl) cW wfW bW (fun x=>⟨x.1,x.2.1,x.2.2.1,x.2.2.2.1⟩) (fun a=>by simp[Ye,cTy]) (fun a h=>⟨h.2.1.1,h.2.1.2,h.2.2.2.1⟩) (fun a=>by simp only[bW,bTy];omega)
theorem zng:∀ m,z7 Tryz.prog m 42 1 (fun l:List VarD=>[.sl .no 10 (cWs l)]) (fun l=>∀ x∈l,wfW x) (fun l=>bWs l+1)
 | 0=>z7.zero
 | m+1=>by
  intro enc W cs d ps h1 h2
  obtain⟨a,h3,h4,h5,h6⟩:=z7.slice (t:=42) Tryz.underlying42 (B:=136) (sz:=10) (by kernel_rfl) (by kernel_rfl) (by decide) (znX m) enc W cs d ps h1 h2
  exact⟨a,h3.2.2,by simp only[bWs];exact h4,h5,by simp only[cWs];exact h6⟩
theorem znV:∀ m,z7 Tryz.prog m 45 5 cO wfO bO
 | 0=>z7.zero
 | k+1=>z7.struct (zU.cons (by kernel_rfl) (z7.int (k:=.i64) Tryz.underlying3) (zU.cons (by kernel_rfl) (z7.str Tryz.underlying9) (zU.cons (by kernel_rfl) (zng k) (zU.cons (by kernel_rfl) (zjx k) (zU.cons (by kernel_rfl) (zlA k) zU.nil)))))
   (by kernel_rfl) (by kernel_rfl) cO wfO bO (fun x=>⟨x.1,x.2.1,x.2.2.1,x.2.2.2.1,x.2.2.2.2.1⟩) (fun a=>rfl) (fun a h=>⟨h.2.2.1,h.2.2.2.1,h.2.2.2.2.1⟩) (fun a=>by simp only[bO];omega)
theorem znZ:∀ m,z7 Tryz.prog m 94 4 cF wfF bF
 | 0=>z7.zero
 | k+1=>z7.struct (zU.cons (by kernel_rfl) (z7.str Tryz.underlying9) (zU.cons (by kernel_rfl) (z7.str Tryz.underlying9) (zU.cons (by kernel_rfl) (zjx k) (zU.cons (by kernel_rfl) (zlA k) zU.nil))))
   (by kernel_rfl) (by kernel_rfl) cF wfF bF (fun x=>⟨x.1,x.2.1,x.2.2.1,x.2.2.2.1⟩) (fun a=>rfl) (fun a h=>⟨h.2.2.1,h.2.2.2.1⟩) (fun a=>by simp only[bF];omega)
theorem znH:∀ m,z7 Tryz.prog m 22 1 (fun l:List OpD=>[.sl .no 5 (cOs l)]) (fun l=>∀ x∈l,wfO x) (fun l=>bOs l+1)
 | 0=>z7.zero
 | m+1=>by
  intro enc W cs d ps h1 h2
  obtain⟨a,h3,h4,h5,h6⟩:=z7.slice (t:=22) Tryz.underlying22 (B:=96) (sz:=5) (by kernel_rfl) (by kernel_rfl) (by decide) (znV m) enc W cs d ps h1 h2
  exact⟨a,h3.2.2,by simp only[bOs];exact h4,h5,by simp only[cOs];exact h6⟩
theorem znl:∀ m,z7 Tryz.prog m 23 1 (fun l:List FragD=>[.sl .no 4 (cFs l)]) (fun l=>∀ x∈l,wfF x) (fun l=>bFs l+1)
 | 0=>z7.zero
 | m+1=>by
  intro enc W cs d ps h1 h2
  obtain⟨a,h3,h4,h5,h6⟩:=z7.slice (t:=23) Tryz.underlying23 (B:=80) (sz:=4) (by kernel_rfl) (by kernel_rfl) (by decide) (znZ m) enc W cs d ps h1 h2
  exact⟨a,h3.2.2,by simp only[bFs];exact h4,h5,by simp only[cFs];exact h6⟩
theorem zkO:∀ m,z7 Tryz.prog m 25 2 ZN YR Yh
 | 0=>z7.zero
 | k+1=>z7.struct (zU.cons (by kernel_rfl) (znH k) (zU.cons (by kernel_rfl) (znl k) zU.nil))
   (by kernel_rfl) (by kernel_rfl) ZN YR Yh (fun x=>⟨x.1,x.2.1⟩) (fun a=>rfl) (fun a h=>⟨h.1,h.2.1⟩) (fun a=>by simp only[Yh];omega)
theorem zbJ (H:Type) (enc:TypeId×Value→H) (W:World) (base:Nat) (args:Array Value) (ds gs:List (DataW H)) (before:List MemPlace)
  (hval:∀(j:Nat) t v,Tryz.f3.params[j]?=some t→args[j]?=some v→Value.okWide Tryz.prog W .any base t v)
  (hW:DataW.Whole enc Tryz.prog Tryz.f3.params.toList Rows.printSaysSpec.vars false W args.toList ds gs before) (hc:Zv (ds++gs)≤1048576)
  (hz:(DataW.weightsEach Tryz.prog (Tryz.f3.params.toList++(Rows.OpenSpec.upto Rows.printSaysSpec).bare.plain.varTypes Tryz.prog) (ds++gs)).all (·≤reachBytes)=true)
  (hL:laidMetH Tryz.prog zfE W) (hS:W.ShapedOpen Tryz.prog) :
  Calls Tryz.prog 3 args W fun e W'=>∃ v,e=.returned v∧Rows.printSaysSpec.post enc Tryz.prog Tryz.f3 false true false false W args v W':=by
 have hW':=hW
 obtain⟨p,q,hA0,hV,rfl,hfz,hnd⟩:=hW
 have hA:DataW.TrodAll enc Tryz.prog W 0 (fun _=>true) true Tryz.f3.params.toList args.toList ds p:=hA0
 obtain⟨rfl,rfl⟩:=trodVars_none hV
 rw[Tryz.params3] at hA hval hz
 obtain⟨v0,vs0,d0,ds0,p0,q0,hargs,rfl,rfl,h0,hA⟩:=trodAll_cons hA
 obtain⟨rfl,rfl,rfl⟩:=trodAll_nil hA
 obtain rfl:args=#[v0]:=by cases args;simp_all
 obtain⟨c0,rfl⟩:=zmV Tryz.underlying25 (hval 0 25 v0 rfl rfl)
 obtain⟨a0,ok0,b0,g0⟩:=z7.argS (P:=Tryz.prog) (f:=ZN) (zkO) h0 (sized hz (j:=0) rfl rfl)
 simp only[List.append_nil,Zv] at hc
 refine zfo (P:=Tryz.prog) (fn:=Tryz.f3) (tb:=4) laidOut rfl ?_ (by kernel_rfl) Tryz.underlying4 hW' rfl (zlq hL hS) (zM.cons g0 zM.nil) (zgM a0 ok0 (by omega))
 rw[Tryz.params3]
 intro t ht
 simp only[List.mem_cons,List.not_mem_nil,or_false] at ht
 rcases ht with rfl<;>exact⟨by kernel_rfl,by decide +kernel⟩
theorem zc6 (os:Os) {H:Type} (enc:TypeId×Value→H):∃ places,DataW.whole enc Tryz.prog ((laidWorld os).forCall (fun _ _=>0) ⟨#[],#[.agg #[.slice none 0 0,.slice none 0 0]],[]⟩).memory Tryz.f3.params.toList Rows.printSaysSpec.vars false #[.agg #[.slice none 0 0,.slice none 0 0]].toList 8=some ([.agg [.nil,.nil]],[],places) :=
 ⟨[],by kernel_rfl⟩
theorem zcp (os:Os) (started:os.Started) (H:Type) (enc:TypeId×Value→H) (F:Stop.Interp) :
  ReturnsInHanded {} Tryz.checked os 3 .any ((Rows.OpenSpec.upto Rows.printSaysSpec).preRow enc Tryz.prog Tryz.f3 Rows.printSaysUptoRow.domain false Rows.printSaysUptoRow.laid) (((Rows.OpenSpec.upto Rows.printSaysSpec).at F).post enc Tryz.prog Tryz.f3 false true false false):=by
 obtain⟨places,hx⟩:=zc6 os enc
 refine returnsInHanded_of_row (C:=Tryz.checked) (s:=Rows.OpenSpec.upto Rows.printSaysSpec) own started (by kernel_rfl) Tryz.func3
  (witness_row_atRef (enc:=enc) (C:=Tryz.checked) false (laidWorld os) #[.agg #[.slice none 0 0,.slice none 0 0]] rfl (by kernel_rfl) (by kernel_rfl) (by kernel_rfl)
   (OpenSpec.preRow_of_cond 8 hx (by kernel_rfl) (fun k hk=>by cases hk;kernel_rfl) (by kernel_rfl) (laid_met os _))) ?_
 intro W base args ds gs before hval hW _ hcond hz hL hS _
 exact zbJ H enc W base args ds gs before hval hW (ziQ hcond) hz hL hS
theorem zc7:zhe Tryz.pinned.checked.prog 3 Tryz.f3 (Rows.OpenSpec.upto Rows.printSaysSpec).bare Rows.printSaysUptoRow=true:=by kernel_rfl
theorem zc0:zgP Tryz.pinned.checked.prog 3 Tryz.f3 (Rows.OpenSpec.upto Rows.printSaysSpec).bare Rows.printSaysUptoRow=true:=by kernel_rfl
theorem zc1:zgA Tryz.pinned.checked.prog 3 Tryz.f3 (Rows.OpenSpec.upto Rows.printSaysSpec).bare Rows.printSaysUptoRow=true:=by kernel_rfl
theorem zc3:zgX Tryz.pinned.checked.prog 3 Tryz.f3 (Rows.OpenSpec.upto Rows.printSaysSpec).bare Rows.printSaysUptoRow=true:=by kernel_rfl
theorem zc5:zgK Tryz.pinned.checked.prog 3 Tryz.f3 (Rows.OpenSpec.upto Rows.printSaysSpec).bare Rows.printSaysUptoRow=true:=by kernel_rfl
theorem zc2:zgV Tryz.pinned.checked.prog 3 Tryz.f3 (Rows.OpenSpec.upto Rows.printSaysSpec).bare Rows.printSaysUptoRow=true:=by kernel_rfl
theorem zc4:zhf Tryz.pinned.checked.prog 3 Tryz.f3 (Rows.OpenSpec.upto Rows.printSaysSpec).bare Rows.printSaysUptoRow=true:=by kernel_rfl
theorem zdn:Rows.PrintSaysUptoSaid :=
 OpenClaim.holds_of_cond 3 Tryz.f3 rfl rfl rfl rfl rfl rfl rfl ⟨rfl,rfl,rfl,rfl,rfl⟩ rfl rfl rfl rfl rfl (by kernel_rfl) Tryz.func3 (ziE zc7 zc0 zc1 zc3 zc5 zc2 zc4)
  (of_decide_eq_true (by kernel_rfl)) (by unfold Func.isWrapper;first|(rw[if_pos (by decide +kernel)];kernel_rfl)|(rw[if_neg (by decide +kernel)];exact⟨rfl,rfl⟩))
  (fun os started H enc _ F=>by rw[OpenClaim.pre_eq_preRow];exact zcp os started H enc F)
theorem zc9 (f : FuncId) (fn : Func) (hf : Tryz.pinned.checked.prog.funcNamed "seine/seinelaw7.PrintSays" = some f) (hfn : Tryz.pinned.checked.prog.funcs[f]? = some fn) :
  true=Tryz.pinned.checked.prog.looks []∧∀(j:Nat) t,fn.params[j]?=some t→Tryz.pinned.checked.prog.wantsStandIn t=false:=by
 obtain rfl : f = 3 := Option.some.inj ((show Tryz.prog.funcNamed "seine/seinelaw7.PrintSays" = some 3 by kernel_rfl).symm.trans hf) |>.symm
 obtain rfl:fn=Tryz.f3:=(Option.some.inj (Tryz.func3.symm.trans hfn)).symm
 refine⟨by kernel_rfl,fun j t ht=>?_⟩
 rw[Tryz.params3] at ht
 have hm:=Array.mem_of_getElem? ht
 simp only[List.mem_toArray,List.mem_cons,List.not_mem_nil,or_false] at hm
 rcases hm with rfl<;>exact(show Tryz.prog.wantsStandIn _=false by kernel_rfl)
theorem zdO:Tryz.pinned.checked.prog.mainIs=some (Rows.printSaysUptoCard.stood.harness.1,Rows.printSaysUptoCard.stood.harness.2.toList):=by kernel_rfl
theorem zds:false=Rows.printSaysUptoRow.goesBy Tryz.pinned.checked.prog:=by kernel_rfl
theorem PrintSays_card:Rows.PrintSaysUptoCardSaid :=
 Claim7.holds_tied_plain_at .later [] _ _ _ _ zdn (fun _ h=>by cases h) (by kernel_rfl) (fun _ h=>by cases h) printSaysUpto_row_tie rfl ⟨rfl,rfl⟩ zdO rfl zc9 zds
end Go.Proofs.YticbbfbpeimkbaaGreatDoor
