import Derived.Test.YticbbfbpeimkbaaGreatDoorM1
import Derived.Test.YticbbfbpeimkbaaGreatDoorM2
import Derived.Test.YticbbfbpeimkbaaGreatDoorM3
import Derived.Test.YticbbfbpeimkbaaGreatDoorM4
import Derived.Test.YticbbfbpeimkbaaGreatDoorM5
import Derived.Test.YticbbfbpeimkbaaGreatDoorM6
import Derived.Test.YticbbfbpeimkbaaGreatDoorM7
import Derived.Test.YticbbfbpeimkbaaGreatDoorM8
import Derived.Test.YticbbfbpeimkbaaGreatDoorM9
set_option maxRecDepth 100000
set_option linter.all false
namespace Go.Proofs.YticbbfbpeimkbaaGreatDoor
open Go.Ab Go.Lib
open Go.ChangeShapes Go.WideShapes Go.ChangeAt Go.RowKit Go.WideElems
theorem znA:∀ l,bSs l=(l.map bS).sum
 | []=>rfl
 | v::r=>by simp[bSs,znA r]
theorem zvG:∀ m,yd Tryz.prog m 169 2 cD wfD bD
 | 0=>yd.zero
 | k+1=>yd.struct (zR.cons (by kernel_rfl) (yd.str Tryz.underlying9) (zR.cons (by kernel_rfl) (zpJ k) zR.nil))
   (by kernel_rfl) (by kernel_rfl) cD wfD bD (fun x=>⟨x.1,x.2.1⟩) (fun a=>rfl) (fun a h=>h.2.1) (fun a=>by simp only[bD];omega)
theorem zph:∀ m,yd Tryz.prog m 43 1 (fun l:List DirD=>[.sl .no 2 (cDs l)]) zjH (fun l=>bDs l+1)
 | 0=>yd.zero
 | m+1=>by
  intro enc W cs d ps h1 h2
  obtain⟨a,h3,h4,h5,h6⟩:=yd.slice (t:=43) Tryz.underlying43 (B:=40) (sz:=2) (by kernel_rfl) (by kernel_rfl) (by decide) (zvG m) enc W cs d ps h1 h2
  exact⟨a,h3.2.2,by simp only[bDs];exact h4,h5,by simp only[cDs];exact h6⟩
theorem zpD {m:Nat} (h:yd Tryz.prog m 96 7 cS wfS bS):yd Tryz.prog (m+1) 36 1 (fun l:List SelD=>[.sl .no 7 (cSs l)]) zbv (fun l=>bSs l+1):=by
 intro H enc W cs d ps h1 h2
 obtain⟨a,h3,h4,h5,h6⟩:=yd.slice (t:=36) Tryz.underlying36 (B:=128) (sz:=7) (by kernel_rfl) (by kernel_rfl) (by decide) h enc W cs d ps h1 h2
 exact⟨a,zkH h3.2.2,by simp only[znA];exact h4,h5,by simp only[zdo];exact h6⟩
theorem zvH:∀ m,yd Tryz.prog m 96 7 cS wfS bS:=by
 intro m
 induction m using Nat.strongRecOn with
 | _ m ih =>
  cases m with
  | zero=>exact yd.zero
  | succ k =>
   have hs:yd Tryz.prog k 36 1 (fun l:List SelD=>[.sl .no 7 (cSs l)]) zbv (fun l=>bSs l+1):=by
    cases k with
    | zero=>exact yd.zero
    | succ k=>exact zpD (ih k (by omega))
   intro H
   exact yd.struct (zR.cons (by kernel_rfl) (yd.int (k:=.i64) Tryz.underlying3) (zR.cons (by kernel_rfl) (yd.str Tryz.underlying9) (zR.cons (by kernel_rfl) (yd.str Tryz.underlying9) (zR.cons (by kernel_rfl) (zpJ k) (zR.cons (by kernel_rfl) (zph k) (zR.cons (by kernel_rfl) (yd.str Tryz.underlying9) (zR.cons (by kernel_rfl) hs zR.nil)))))))
    (by kernel_rfl) (by kernel_rfl) cS wfS bS (fun x=>.mk x.1 x.2.1 x.2.2.1 x.2.2.2.1 x.2.2.2.2.1 x.2.2.2.2.2.1 x.2.2.2.2.2.2.1) (fun a=>rfl) (fun a h=>⟨h.2.2.2.1,h.2.2.2.2.1,h.2.2.2.2.2.2.1⟩) (fun a=>by simp only[bS];omega)
theorem zsG:∀ m,yd Tryz.prog m 36 1 (fun l:List SelD=>[.sl .no 7 (cSs l)]) zbv (fun l=>bSs l+1)
 | 0=>yd.zero
 | m+1=>zpD (zvH m)
def bTy (t:TyD):Nat:=t.nm.length
theorem zuT:∀ m,yd Tryz.prog m 60 3 cTy (fun t=>inR t.lists∧inR t.musts) bTy
 | 0=>yd.zero
 | k+1=>yd.struct (zR.cons (by kernel_rfl) (yd.str Tryz.underlying9) (zR.cons (by kernel_rfl) (yd.int (k:=.i64) Tryz.underlying3) (zR.cons (by kernel_rfl) (yd.int (k:=.i64) Tryz.underlying3) zR.nil)))
   (by kernel_rfl) (by kernel_rfl) cTy (fun t=>inR t.lists∧inR t.musts) bTy (fun x=>⟨x.1,x.2.1,x.2.2.1⟩) (fun a=>rfl) (fun a h=>⟨zlK h.2.1,zlK h.2.2.1⟩) (fun a=>by simp only[bTy];omega)
theorem zvu:∀ m,yd Tryz.prog m 92 10 cW wfW bW
 | 0=>yd.zero
 | k+1=>yd.struct (zR.cons (by kernel_rfl) (yd.str Tryz.underlying9) (zR.cons (by kernel_rfl) (zuT k) (zR.cons (by kernel_rfl) (yd.bool Tryz.underlying4) (zR.cons (by kernel_rfl) (zvc k) zR.nil))))
   (by kernel_rfl) (by kernel_rfl) cW wfW bW (fun x=>⟨x.1,x.2.1,x.2.2.1,x.2.2.2.1⟩) (fun a=>by simp[zcV,cTy]) (fun a h=>⟨h.2.1.1,h.2.1.2,h.2.2.2.1⟩) (fun a=>by simp only[bW,bTy];omega)
theorem zuw:∀ m,yd Tryz.prog m 42 1 (fun l:List VarD=>[.sl .no 10 (cWs l)]) (fun l=>∀ x∈l,wfW x) (fun l=>bWs l+1)
 | 0=>yd.zero
 | m+1=>by
  intro enc W cs d ps h1 h2
  obtain⟨a,h3,h4,h5,h6⟩:=yd.slice (t:=42) Tryz.underlying42 (B:=136) (sz:=10) (by kernel_rfl) (by kernel_rfl) (by decide) (zvu m) enc W cs d ps h1 h2
  exact⟨a,h3.2.2,by simp only[bWs];exact h4,h5,by simp only[cWs];exact h6⟩
theorem zvx:∀ m,yd Tryz.prog m 45 5 cO wfO bO
 | 0=>yd.zero
 | k+1=>yd.struct (zR.cons (by kernel_rfl) (yd.int (k:=.i64) Tryz.underlying3) (zR.cons (by kernel_rfl) (yd.str Tryz.underlying9) (zR.cons (by kernel_rfl) (zuw k) (zR.cons (by kernel_rfl) (zph k) (zR.cons (by kernel_rfl) (zsG k) zR.nil)))))
   (by kernel_rfl) (by kernel_rfl) cO wfO bO (fun x=>⟨x.1,x.2.1,x.2.2.1,x.2.2.2.1,x.2.2.2.2.1⟩) (fun a=>rfl) (fun a h=>⟨h.2.2.1,h.2.2.2.1,h.2.2.2.2.1⟩) (fun a=>by simp only[bO];omega)
theorem zvs:∀ m,yd Tryz.prog m 94 4 cF wfF bF
 | 0=>yd.zero
 | k+1=>yd.struct (zR.cons (by kernel_rfl) (yd.str Tryz.underlying9) (zR.cons (by kernel_rfl) (yd.str Tryz.underlying9) (zR.cons (by kernel_rfl) (zph k) (zR.cons (by kernel_rfl) (zsG k) zR.nil))))
   (by kernel_rfl) (by kernel_rfl) cF wfF bF (fun x=>⟨x.1,x.2.1,x.2.2.1,x.2.2.2.1⟩) (fun a=>rfl) (fun a h=>⟨h.2.2.1,h.2.2.2.1⟩) (fun a=>by simp only[bF];omega)
theorem zum:∀ m,yd Tryz.prog m 22 1 (fun l:List OpD=>[.sl .no 5 (cOs l)]) (fun l=>∀ x∈l,wfO x) (fun l=>bOs l+1)
 | 0=>yd.zero
 | m+1=>by
  intro enc W cs d ps h1 h2
  obtain⟨a,h3,h4,h5,h6⟩:=yd.slice (t:=22) Tryz.underlying22 (B:=96) (sz:=5) (by kernel_rfl) (by kernel_rfl) (by decide) (zvx m) enc W cs d ps h1 h2
  exact⟨a,h3.2.2,by simp only[bOs];exact h4,h5,by simp only[cOs];exact h6⟩
theorem zu2:∀ m,yd Tryz.prog m 23 1 (fun l:List FragD=>[.sl .no 4 (cFs l)]) (fun l=>∀ x∈l,wfF x) (fun l=>bFs l+1)
 | 0=>yd.zero
 | m+1=>by
  intro enc W cs d ps h1 h2
  obtain⟨a,h3,h4,h5,h6⟩:=yd.slice (t:=23) Tryz.underlying23 (B:=80) (sz:=4) (by kernel_rfl) (by kernel_rfl) (by decide) (zvs m) enc W cs d ps h1 h2
  exact⟨a,h3.2.2,by simp only[bFs];exact h4,h5,by simp only[cFs];exact h6⟩
theorem zrT:∀ m,yd Tryz.prog m 25 2 zaj zcl zcw
 | 0=>yd.zero
 | k+1=>yd.struct (zR.cons (by kernel_rfl) (zum k) (zR.cons (by kernel_rfl) (zu2 k) zR.nil))
   (by kernel_rfl) (by kernel_rfl) zaj zcl zcw (fun x=>⟨x.1,x.2.1⟩) (fun a=>rfl) (fun a h=>⟨h.1,h.2.1⟩) (fun a=>by simp only[zcw];omega)
theorem zdY (H:Type) (enc:TypeId×Value→H) (W:World) (base:Nat) (args:Array Value) (ds gs:List (DataW H)) (before:List MemPlace)
  (hval:∀(j:Nat) t v,Tryz.f18.params[j]?=some t→args[j]?=some v→Value.okWide Tryz.prog W .any base t v)
  (hW:DataW.Whole enc Tryz.prog Tryz.f18.params.toList Rows.printBackSpec.vars false W args.toList ds gs before) (hc:Z0 (ds++gs)≤1048576)
  (hz:(DataW.weightsEach Tryz.prog (Tryz.f18.params.toList++(Rows.OpenSpec.upto Rows.printBackSpec).bare.plain.varTypes Tryz.prog) (ds++gs)).all (·≤reachBytes)=true)
  (hL:laidMetH Tryz.prog zlD W) (hS:W.ShapedOpen Tryz.prog) :
  Calls Tryz.prog 18 args W fun e W'=>∃ v,e=.returned v∧Rows.printBackSpec.post enc Tryz.prog Tryz.f18 false true false false W args v W':=by
 have hW':=hW
 obtain⟨p,q,hA0,hV,rfl,hfz,hnd⟩:=hW
 have hA:DataW.TrodAll enc Tryz.prog W 0 (fun _=>true) true Tryz.f18.params.toList args.toList ds p:=hA0
 obtain⟨rfl,rfl⟩:=trodVars_none hV
 rw[Tryz.params18] at hA hval hz
 obtain⟨v0,vs0,d0,ds0,p0,q0,hargs,rfl,rfl,h0,hA⟩:=trodAll_cons hA
 obtain⟨rfl,rfl,rfl⟩:=trodAll_nil hA
 obtain rfl:args=#[v0]:=by cases args;simp_all
 obtain⟨c0,rfl⟩:=ztl Tryz.underlying25 (hval 0 25 v0 rfl rfl)
 obtain⟨a0,ok0,b0,g0⟩:=yd.argS (P:=Tryz.prog) (f:=zaj) (zrT) h0 (sized hz (j:=0) rfl rfl)
 simp only[List.append_nil,Z0] at hc
 refine zjd (P:=Tryz.prog) (fn:=Tryz.f18) (tb:=4) laidOut rfl ?_ (by kernel_rfl) Tryz.underlying4 hW' rfl (zrp hL hS) (zL.cons g0 zL.nil) (zl7 a0 ok0 (by omega))
 rw[Tryz.params18]
 intro t ht
 simp only[List.mem_cons,List.not_mem_nil,or_false] at ht
 rcases ht with rfl<;>exact⟨by kernel_rfl,by decide +kernel⟩
theorem zfY (os:Os) {H:Type} (enc:TypeId×Value→H):∃ places,DataW.whole enc Tryz.prog ((laidWorld os).forCall (fun _ _=>0) ⟨#[],#[.agg #[.slice none 0 0,.slice none 0 0]],[]⟩).memory Tryz.f18.params.toList Rows.printBackSpec.vars false #[.agg #[.slice none 0 0,.slice none 0 0]].toList 8=some ([.agg [.nil,.nil]],[],places) :=
 ⟨[],by kernel_rfl⟩
theorem zfj (os:Os) (started:os.Started) (H:Type) (enc:TypeId×Value→H) (F:Stop.Interp) :
  ReturnsInHanded {} Tryz.checked os 18 .any ((Rows.OpenSpec.upto Rows.printBackSpec).preRow enc Tryz.prog Tryz.f18 Rows.printBackUptoRow.domain false Rows.printBackUptoRow.laid) (((Rows.OpenSpec.upto Rows.printBackSpec).at F).post enc Tryz.prog Tryz.f18 false true false false):=by
 obtain⟨places,hx⟩:=zfY os enc
 refine returnsInHanded_of_row (C:=Tryz.checked) (s:=Rows.OpenSpec.upto Rows.printBackSpec) own started (by kernel_rfl) Tryz.func18
  (witness_row_atRef (enc:=enc) (C:=Tryz.checked) false (laidWorld os) #[.agg #[.slice none 0 0,.slice none 0 0]] rfl (by kernel_rfl) (by kernel_rfl) (by kernel_rfl)
   (OpenSpec.preRow_of_cond 8 hx (by kernel_rfl) (fun k hk=>by cases hk;kernel_rfl) (by kernel_rfl) (laid_met os _))) ?_
 intro W base args ds gs before hval hW _ hcond hz hL hS _
 exact zdY H enc W base args ds gs before hval hW (zoa hcond) hz hL hS
theorem zf3:zlX Tryz.pinned.checked.prog 18 Tryz.f18 (Rows.OpenSpec.upto Rows.printBackSpec).bare Rows.printBackUptoRow=true:=by kernel_rfl
theorem zfR:zmJ Tryz.pinned.checked.prog 18 Tryz.f18 (Rows.OpenSpec.upto Rows.printBackSpec).bare Rows.printBackUptoRow=true:=by kernel_rfl
theorem zfW:zmb Tryz.pinned.checked.prog 18 Tryz.f18 (Rows.OpenSpec.upto Rows.printBackSpec).bare Rows.printBackUptoRow=true:=by kernel_rfl
theorem zfS:zmH Tryz.pinned.checked.prog 18 Tryz.f18 (Rows.OpenSpec.upto Rows.printBackSpec).bare Rows.printBackUptoRow=true:=by kernel_rfl
theorem zfT:zmL Tryz.pinned.checked.prog 18 Tryz.f18 (Rows.OpenSpec.upto Rows.printBackSpec).bare Rows.printBackUptoRow=true:=by kernel_rfl
theorem zf0:zlV Tryz.pinned.checked.prog 18 Tryz.f18 (Rows.OpenSpec.upto Rows.printBackSpec).bare Rows.printBackUptoRow=true:=by kernel_rfl
theorem zfX:zl0 Tryz.pinned.checked.prog 18 Tryz.f18 (Rows.OpenSpec.upto Rows.printBackSpec).bare Rows.printBackUptoRow=true:=by kernel_rfl
theorem zhi:Rows.PrintBackUptoSaid :=
 OpenClaim.holds_of_cond 18 Tryz.f18 rfl rfl rfl rfl rfl rfl rfl ⟨rfl,rfl,rfl,rfl,rfl⟩ rfl rfl rfl rfl rfl (by kernel_rfl) Tryz.func18 (zok zf3 zfR zfW zfS zfT zf0 zfX)
  (of_decide_eq_true (by kernel_rfl)) (by unfold Func.isWrapper;first|(rw[if_pos (by decide +kernel)];kernel_rfl)|(rw[if_neg (by decide +kernel)];exact⟨rfl,rfl⟩))
  (fun os started H enc _ F=>by rw[OpenClaim.pre_eq_preRow];exact zfj os started H enc F)
theorem zfZ (f : FuncId) (fn : Func) (hf : Tryz.pinned.checked.prog.funcNamed "seine/seinelaw7.PrintBack" = some f) (hfn : Tryz.pinned.checked.prog.funcs[f]? = some fn) :
  true=Tryz.pinned.checked.prog.looks []∧∀(j:Nat) t,fn.params[j]?=some t→Tryz.pinned.checked.prog.wantsStandIn t=false:=by
 obtain rfl : f = 18 := Option.some.inj ((show Tryz.prog.funcNamed "seine/seinelaw7.PrintBack" = some 18 by kernel_rfl).symm.trans hf) |>.symm
 obtain rfl:fn=Tryz.f18:=(Option.some.inj (Tryz.func18.symm.trans hfn)).symm
 refine⟨by kernel_rfl,fun j t ht=>?_⟩
 rw[Tryz.params18] at ht
 have hm:=Array.mem_of_getElem? ht
 simp only[List.mem_toArray,List.mem_cons,List.not_mem_nil,or_false] at hm
 rcases hm with rfl<;>exact(show Tryz.prog.wantsStandIn _=false by kernel_rfl)
theorem zgU:Tryz.pinned.checked.prog.mainIs=some (Rows.printBackUptoCard.stood.harness.1,Rows.printBackUptoCard.stood.harness.2.toList):=by kernel_rfl
theorem zhx:false=Rows.printBackUptoRow.goesBy Tryz.pinned.checked.prog:=by kernel_rfl
theorem PrintBack_card:Rows.PrintBackUptoCardSaid :=
 Claim7.holds_tied_plain_at .later [] _ _ _ _ zhi (fun _ h=>by cases h) (by kernel_rfl) (fun _ h=>by cases h) printBackUpto_row_tie rfl ⟨rfl,rfl⟩ zgU rfl zfZ zhx
end Go.Proofs.YticbbfbpeimkbaaGreatDoor
