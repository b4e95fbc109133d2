/- Texts joined: NumC ValE RowJ RowV Doc Jm Jn Pm Ta Sep LibB Enc Quo Quo2 Rp Qm Pf Rp2 Rp3 ValF Itoa ValH. -/
import Derived.JoinedOf
import Derived.Lib.ItoaMem
import Derived.Lib.ItoaLen
import Derived.Lib.ParseIntBTie
import Derived.Test.YticbbfbpeimkbaaGreatDoorM1
import Derived.Test.YticbbfbpeimkbaaGreatDoorM2
import Derived.Test.YticbbfbpeimkbaaGreatDoorM3
set_option maxRecDepth 100000
set_option linter.unusedSimpArgs false
set_option linter.unusedVariables false
namespace Go.Proofs.YticbbfbpeimkbaaGreatDoor
open Go.Ab
def fracN (r:List UInt8):Nat:=if r.head?=some 46∧0<run1 r.tail then 1+run1 r.tail else 0
def numN (s:List UInt8):Nat × Int :=
 if wholeN s=0 then (0,0) else
  (wholeN s+fracN (s.drop (wholeN s))+powN (s.drop (wholeN s+fracN (s.drop (wholeN s)))),if fracN (s.drop (wholeN s))=0∧powN (s.drop (wholeN s+fracN (s.drop (wholeN s))))=0 then 3 else 4)
theorem fracN_le (r:List UInt8):fracN r≤r.length:=by
 unfold fracN
 split
 ·rename_i h
  cases r with
  | nil=>simp at h
  | cons c t=>have:=run1_le t;simp only [List.tail_cons,List.length_cons];omega
 ·omega
theorem numberC (s:List UInt8) (hs:s.length≤Lim):Pure Tryz.prog 225 [.str s] (.tup [.int .i64 (numN s).1,.int .i64 (numN s).2]):=by
 refine Pure.go ir225 ck225 (Nat.le_refl _) fun KP Q hQ=>?_
 have hs':=hs
 simp only [Lim] at hs
 simp (disch:=first|omega|assumption) only [ir225,go_sem,↓reduceIte]
 refine goK_pure (wholeC s hs') ?_
 have hw:=wholeN_le s
 by_cases h0:wholeN s=0
 ·simp (disch:=first|omega|assumption) only [h0,go_sem,↓reduceIte]
  exact hQ _ _ _ _ nofun rfl (by simp [tupOf,envOf,AV.strip,AV.strip1,numN,h0])
 have h0':¬ ((wholeN s:Int)=0):=by omega
 have hwl:(wholeN s:Int)≤s.length:=by omega
 simp (disch:=first|omega|assumption) only [h0',hwl,go_sem,↓reduceIte]
 refine goK_pure (prefixC (s.drop (wholeN s)) [46]) ?_
 rw [prefix1]
 generalize hn:wholeN s=n at *
 have fin:∀ f p:Nat,fracN (s.drop n)=f→powN (s.drop (n+f))=p→numN s=(n+f+p,if f=0∧p=0 then 3 else 4):=fun f p hf hp=>by
  unfold numN
  rw [hn,hf,hp]
  simp only [h0,if_false]
 have hpl:=powN_le (s.drop n)
 rw [List.length_drop] at hpl
 by_cases h46:(s.drop n).head?=some 46
 ·obtain ⟨c,t,hct⟩:∃ c t,s.drop n=c :: t:=by
   cases hx:s.drop n with
   | nil=>rw [hx] at h46;simp at h46
   | cons c t=>exact ⟨c,t,rfl⟩
  have hlen:s.length=n+1+t.length:=by have:=congrArg List.length hct;simp at this;omega
  have hdr:s.drop (n+1)=t:=by rw [← List.drop_drop,hct];rfl
  have hto:((n:Int)+1).toNat=n+1:=by omega
  have hn1:(0:Int)≤(n:Int)+1:=by omega
  have hn2:(n:Int)+1≤s.length:=by omega
  have hrl:=run1_le t
  simp (disch:=first|omega|assumption) only [h46,wrap64,hto,hn1,hn2,hdr,go_sem,↓reduceIte]
  refine goK_pure (digitsC t (by simp only [Lim];omega)) ?_
  by_cases hk:(0:Int)<run1 t
  ·have hk':0<run1 t:=by omega
   have hfr:fracN (s.drop n)=1+run1 t:=by unfold fracN;rw [if_pos ⟨h46,by rw [hct];exact hk'⟩,hct];rfl
   have hto2:((n:Int)+1+run1 t).toNat=n+(1+run1 t):=by omega
   have hn3:(0:Int)≤(n:Int)+1+run1 t:=by omega
   have hn4:(n:Int)+1+run1 t≤s.length:=by omega
   have hpl2:=powN_le (s.drop (n+(1+run1 t)))
   rw [List.length_drop] at hpl2
   simp (disch:=first|omega|assumption) only [hk,wrap64,hto2,hn3,hn4,go_sem,↓reduceIte]
   refine goK_pure (powerC (s.drop (n+(1+run1 t))) (by rw [List.length_drop];simp only [Lim];omega)) ?_
   have hf:=fin _ _ hfr rfl
   generalize hp:powN (s.drop (n+(1+run1 t)))=p at *
   by_cases hp0:(0:Int)<p
   ·simp (disch:=first|omega|assumption) only [hp0,wrap64,go_sem,↓reduceIte]
    exact hQ _ _ _ _ nofun rfl (by simp [tupOf,envOf,AV.strip,AV.strip1,hf,Int.add_assoc])
   ·have hp00:p=0:=by omega
    subst hp00
    simp (disch:=first|omega|assumption) only [go_sem,↓reduceIte]
    exact hQ _ _ _ _ nofun rfl (by simp [tupOf,envOf,AV.strip,AV.strip1,hf,Int.add_assoc])
  ·have hk0:run1 t=0:=by omega
   have hfr:fracN (s.drop n)=0:=by unfold fracN;exact if_neg fun hh=>by have:=hh.2;rw [hct] at this;simp only [List.tail_cons] at this;omega
   simp (disch:=first|omega|assumption) only [hk,hwl,go_sem,↓reduceIte]
   refine goK_pure (powerC (s.drop n) (by rw [List.length_drop];simp only [Lim];omega)) ?_
   have hf:=fin _ _ hfr rfl
   rw [Nat.add_zero] at hf
   generalize hp:powN (s.drop n)=p at *
   by_cases hp0:(0:Int)<p
   ·have hp1:¬ p=0:=by omega
    simp (disch:=first|omega|assumption) only [hp0,wrap64,go_sem,↓reduceIte]
    exact hQ _ _ _ _ nofun rfl (by simp [tupOf,envOf,AV.strip,AV.strip1,hf,hp1])
   ·have hp00:p=0:=by omega
    subst hp00
    simp (disch:=first|omega|assumption) only [go_sem,↓reduceIte]
    exact hQ _ _ _ _ nofun rfl (by simp [tupOf,envOf,AV.strip,AV.strip1,hf])
 ·have hfr:fracN (s.drop n)=0:=by unfold fracN;exact if_neg fun hh=>h46 hh.1
  simp (disch:=first|omega|assumption) only [h46,hwl,go_sem,↓reduceIte]
  refine goK_pure (powerC (s.drop n) (by rw [List.length_drop];simp only [Lim];omega)) ?_
  have hf:=fin _ _ hfr rfl
  rw [Nat.add_zero] at hf
  generalize hp:powN (s.drop n)=p at *
  by_cases hp0:(0:Int)<p
  ·have hp1:¬ p=0:=by omega
   simp (disch:=first|omega|assumption) only [hp0,wrap64,go_sem,↓reduceIte]
   exact hQ _ _ _ _ nofun rfl (by simp [tupOf,envOf,AV.strip,AV.strip1,hf,hp1])
  ·have hp00:p=0:=by omega
   subst hp00
   simp (disch:=first|omega|assumption) only [go_sem,↓reduceIte]
   exact hQ _ _ _ _ nofun rfl (by simp [tupOf,envOf,AV.strip,AV.strip1,hf])
def numK (s:List UInt8):Int:=if (numN s).1=s.length then (numN s).2 else 0
theorem NumberC (s:List UInt8) (hs:s.length≤Lim):Pure Tryz.prog 207 [.str s] (.int .i64 (numK s)):=by
 refine Pure.go ir207 ck207 (Nat.le_refl _) fun KP Q hQ=>?_
 simp (disch:=first|omega|assumption) only [ir207,go_sem,↓reduceIte]
 refine goK_pure (numberC s hs) ?_
 by_cases h:(numN s).1=s.length
 ·have h':(((numN s).1:Int)=s.length)=True:=eq_true (by omega)
  simp (disch:=first|omega|assumption) only [h',go_sem,↓reduceIte]
  exact hQ _ _ _ _ nofun rfl (by simp [tupOf,envOf,AV.strip,AV.strip1,numK,h])
 ·have h':¬ ((numN s).1:Int)=s.length:=by omega
  simp (disch:=first|omega|assumption) only [h',go_sem,↓reduceIte]
  exact hQ _ _ _ _ nofun rfl (by simp [tupOf,envOf,AV.strip,AV.strip1,numK,h])
def okI:Lib.NumEnd Int→Bool
 | .ok _=>true
 | _=>false
def valI (s:List UInt8):Int:=match Lib.parseIntB 64 s with
 | .ok v=>v
 | Lib.NumEnd.syntax=>0
 | .range=>Lib.intSat 64 s
def wholeB (s:List UInt8):Bool:=okI (Lib.parseIntB 64 s) && decide (numK s=3)
theorem WholeC (s:List UInt8) (hs:s.length≤Lim):Pure Tryz.prog 176 [.str s] (.tup [.int .i64 (valI s),.bool (wholeB s)]):=by
 refine Pure.go ir176 ck176 (Nat.le_refl _) fun KP Q hQ=>?_
 simp (disch:=first|omega|assumption) only [ir176,go_sem,↓reduceIte]
 refine goK_pure (parseIntC s (by simp only [Lim] at hs;omega)) ?_
 rcases hp:Lib.parseIntB 64 s with v|_|_
 ·simp (disch:=first|omega|assumption) only [parseA,hp,go_sem,↓reduceIte]
  refine goK_pure (NumberC s hs) ?_
  simp (disch:=first|omega|assumption) only [go_sem,↓reduceIte]
  exact hQ _ _ _ _ nofun rfl (by simp [tupOf,envOf,AV.strip,AV.strip1,valI,wholeB,hp,okI])
 ·simp (disch:=first|omega|assumption) only [parseA,hp,go_sem,↓reduceIte]
  exact hQ _ _ _ _ nofun rfl (by simp [tupOf,envOf,AV.strip,AV.strip1,valI,wholeB,hp,okI])
 ·simp (disch:=first|omega|assumption) only [parseA,hp,go_sem,↓reduceIte]
  exact hQ _ _ _ _ nofun rfl (by simp [tupOf,envOf,AV.strip,AV.strip1,valI,wholeB,hp,okI])
def numB (s:List UInt8):Bool:=decide (numK s=4) || (decide (numK s=3) && !wholeB s)
def resB (s:List UInt8):Bool:=decide (s=[116,114,117,101]) || (decide (s=[102,97,108,115,101]) || decide (s=[110,117,108,108]))
theorem goodC (s:List UInt8) (hs:s.length≤Lim):Pure Tryz.prog 202 [.str s] (.bool (Lib.validD s)):=by
 refine Pure.go ir202 ck202 (Nat.le_refl _) fun KP Q hQ=>?_
 simp (disch:=first|omega|assumption) only [ir202,go_sem,↓reduceIte]
 refine goK_pure (validC s (by simp only [Lim] at hs;omega)) ?_
 simp (disch:=first|omega|assumption) only [go_sem,↓reduceIte]
 exact hQ _ _ _ _ nofun rfl (by simp [tupOf,envOf,AV.strip,AV.strip1])
def bareM (n:Int) (s:List UInt8) (l:List Val) (m:List Mem):Bool:=decide (n=0) && (decide (s=[]) && (decide (l.length=0) && decide (m.length=0)))
def singleM (k n:Int) (s:List UInt8) (l:List Val) (m:List Mem):Bool :=
 bareM 0 [] l m && (if k=0 then decide (n=0) && decide (s=[]) else if k=1 then (decide (n=0) || decide (n=1)) && decide (s=[]) else if k=2 then decide (s=[])
  else if k=3 then decide (n=0) && numB s else if k=4 then decide (n=0) && Lib.validD s else if k=5 then decide (n=0) && (nameM s && !resB s) else if k=8 then decide (n=0) && nameM s else false)
end Go.Proofs.YticbbfbpeimkbaaGreatDoor
namespace Go.Proofs.YticbbfbpeimkbaaGreatDoor
open Go.Ab
mutual
def allV (may:List UInt8→Bool):Val→Bool
 | .mk k n s l m=>if k=6 then allVs may l && bareM n s [] m else if k=7 then allMs may m && bareM n s l [] else singleM k n s l m
def allVs (may:List UInt8→Bool):List Val→Bool
 | []=>true
 | v :: r=>allV may v && allVs may r
def allM (may:List UInt8→Bool):Mem→Bool
 | .mk s v=>may s && allV may v
def allMs (may:List UInt8→Bool):List Mem→Bool
 | []=>true
 | x :: r=>allM may x && allMs may r
end
def goodV (v:Val):Bool:=allV Lib.validD v
def boolT (b:Bool):List UInt8:=if b then [116,114,117,101] else [102,97,108,115,101]
mutual
def tokV:Val→List Tok
 | .mk k n s l m=>if k=0 then [⟨2,[110,117,108,108]⟩] else if k=1 then [⟨2,boolT (decide (n=1))⟩] else if k=2 then [⟨3,Lib.itoa n⟩] else if k=3 then [⟨numK s,s⟩] else if k=4 then [⟨5,s⟩]
  else if k=5 then [⟨2,s⟩] else if k=8 then [⟨1,[36]⟩,⟨2,s⟩] else if k=6 then ⟨1,[91]⟩ :: (tokVs l++[⟨1,[93]⟩]) else ⟨1,[123]⟩ :: (tokMs m++[⟨1,[125]⟩])
def tokVs:List Val→List Tok
 | []=>[]
 | v :: r=>tokV v++tokVs r
def tokM:Mem→List Tok
 | .mk s v=>⟨2,s⟩ :: ⟨1,[58]⟩ :: tokV v
def tokMs:List Mem→List Tok
 | []=>[]
 | x :: r=>tokM x++tokMs r
end
def inR (n:Int):Prop:=-9223372036854775808≤n∧n≤9223372036854775807
mutual
def wfV:Val→Prop
 | .mk _ n _ l m=>inR n∧wfVs l∧wfMs m
def wfVs:List Val→Prop
 | []=>True
 | v :: r=>wfV v∧wfVs r
def wfM:Mem→Prop
 | .mk _ v=>wfV v
def wfMs:List Mem→Prop
 | []=>True
 | x :: r=>wfM x∧wfMs r
end
theorem wfVs_mem:∀ {l:List Val},wfVs l→∀ v ∈ l,wfV v
 | _ :: _,h,v,hv=>(List.mem_cons.1 hv).elim (fun e=>e▸h.1) (wfVs_mem h.2 v)
theorem wfMs_mem:∀ {l:List Mem},wfMs l→∀ s v,Mem.mk s v ∈ l→wfV v
 | _ :: _,h,s,v,hv=>(List.mem_cons.1 hv).elim (fun e=>by have:=h.1;rw [← e] at this;exact this) (wfMs_mem h.2 s v)
theorem cKs_app (a:List Tok) (t:Tok):cKs a++[[.int .i64 t.k,.str t.s]]=cKs (a++[t]):=by simp [cKs,cK]
end Go.Proofs.YticbbfbpeimkbaaGreatDoor
namespace Go.Proofs.YticbbfbpeimkbaaGreatDoor
def joinP0 (P:Program) (f:FuncId) (fn:Func) (s:ChangeSpec) (c:OpenClaim):Bool:=c.wf (OpenSpec.ofChange s) && laidOutB P && mapsRowed P && fn.params.all (P.readableRec ·) && namedTie P c.named s.vars
def joinP1 (P:Program) (f:FuncId) (fn:Func) (s:ChangeSpec) (c:OpenClaim):Bool:=(c.stops == []) && (P.stops == []) && (c.knobs == []) && (P.stopKnobs == []) && (c.maps == (fn.params.toList++s.plain.varTypes P).any (P.mapsRec ·)) && (c.ifaces == (fn.params.toList++s.plain.varTypes P).any (P.ifacesRec ·)) && (c.mapsOut == P.mapsAmong fn.resultTypes.toList) && (c.loops == (fn.params.toList++s.plain.varTypes P).any (P.loopsFrom ·)) && (c.wideKeys == (fn.params.toList++s.plain.varTypes P++fn.resultTypes.toList).any (P.wideKeysFrom ·)) && s.vars.all (P.varReadable ·) && fn.resultTypes.all (fun t=>P.readableRec t && decide (t<P.types.size)) && (c.ifacesOut == fn.resultTypes.toList.any (P.ifacesRec ·)) && (c.loopsOut == fn.resultTypes.toList.any (P.loopsFrom ·)) && (c.veiled == (fn.params.toList++s.plain.varTypes P++fn.resultTypes.toList).any (P.veiledRec ·)) && c.veiledFits P fn.params.toList (fn.params.toList++s.plain.varTypes P++fn.resultTypes.toList)
def joinP2 (P:Program) (f:FuncId) (fn:Func) (s:ChangeSpec) (c:OpenClaim):Bool:=(c.inPlace == P.inPlace f) && (c.unfollowed == P.unfollowed f) && (c.recurses == P.recurses f) && (c.named == P.varsNamed f)
def joinP3 (P:Program) (f:FuncId) (fn:Func) (s:ChangeSpec) (c:OpenClaim):Bool:=(c.plainKeys == P.plainKeys) && c.shortTexts.isNone
def joinP4 (P:Program) (f:FuncId) (fn:Func) (s:ChangeSpec) (c:OpenClaim):Bool:=P.stopsHeard
def joinP5 (P:Program) (f:FuncId) (fn:Func) (s:ChangeSpec) (c:OpenClaim):Bool:=P.mayEnter
def joinP6 (P:Program) (f:FuncId) (fn:Func) (s:ChangeSpec) (c:OpenClaim):Bool:=(c.lifted == P.liftsFinal) && (P.make == some c.make) && (c.kinds == (if c.domain.isEmpty then [] else fn.params.toList.map fun t=>match P.underlying t with|some (.int k)=>some k|_=>none)) && (c.pinned == c.pinnedBy)
theorem joined_of {P:Program} {f:FuncId} {fn:Func} {s:ChangeSpec} {c:OpenClaim} (h0:joinP0 P f fn s c=true) (h1:joinP1 P f fn s c=true) (h2:joinP2 P f fn s c=true) (h3:joinP3 P f fn s c=true) (h4:joinP4 P f fn s c=true) (h5:joinP5 P f fn s c=true) (h6:joinP6 P f fn s c=true):joinedFacts P f fn s c=true:=by
 simp only [joinP0,Bool.and_eq_true] at h0
 obtain ⟨⟨⟨⟨a0,a1⟩,a2⟩,a3⟩,a4⟩:=h0
 simp only [joinP1,Bool.and_eq_true] at h1
 obtain ⟨⟨⟨⟨⟨⟨⟨⟨⟨⟨⟨⟨⟨⟨a5,a6⟩,a7⟩,a8⟩,a13⟩,a14⟩,a15⟩,a16⟩,a17⟩,a18⟩,a19⟩,a20⟩,a21⟩,a30⟩,a31⟩:=h1
 simp only [joinP2,Bool.and_eq_true] at h2
 obtain ⟨⟨⟨a9,a10⟩,a11⟩,a12⟩:=h2
 simp only [joinP3,Bool.and_eq_true] at h3
 obtain ⟨a22,a23⟩:=h3
 simp only [joinP4,Bool.and_eq_true] at h4
 have a24:=h4
 simp only [joinP5,Bool.and_eq_true] at h5
 have a25:=h5
 simp only [joinP6,Bool.and_eq_true] at h6
 obtain ⟨⟨⟨a26,a27⟩,a28⟩,a29⟩:=h6
 simp only [joinedFacts,Bool.and_eq_true]
 exact ⟨⟨⟨⟨⟨⟨⟨⟨⟨⟨⟨⟨⟨⟨⟨⟨⟨⟨⟨⟨⟨⟨⟨⟨⟨⟨⟨⟨⟨⟨⟨a0,a1⟩,a2⟩,a3⟩,a4⟩,a5⟩,a6⟩,a7⟩,a8⟩,a9⟩,a10⟩,a11⟩,a12⟩,a13⟩,a14⟩,a15⟩,a16⟩,a17⟩,a18⟩,a19⟩,a20⟩,a21⟩,a22⟩,a23⟩,a24⟩,a25⟩,a26⟩,a27⟩,a28⟩,a29⟩,a30⟩,a31⟩
end Go.Proofs.YticbbfbpeimkbaaGreatDoor
namespace Go.Proofs.YticbbfbpeimkbaaGreatDoor
open Go.Ab Go.Lib
open Go.ChangeShapes Go.WideShapes Go.ChangeAt Go.RowKit Go.WideElems
theorem own:ownKnob Tryz.prog.godebug=none:=by kernel_rfl
theorem laidOut:laidOutB Tryz.prog=true:=by kernel_rfl
theorem cond_bulk {H:Type} {s:ChangeSpec} {ds:List (DataW H)} (h:∀ k,(Rows.OpenSpec.upto s).cond=some k→k H ds=true):blkAll ds≤1048576:=by
 have h1:Rows.uptoSmall H ds=true:=h _ rfl
 have h2:=of_decide_eq_true h1
 rwa [bulkAll_eq] at h2
end Go.Proofs.YticbbfbpeimkbaaGreatDoor
namespace Go.Proofs.YticbbfbpeimkbaaGreatDoor
open Go.Ab
structure DirD where
 nm:List UInt8
 args:List Mem
inductive SelD where
 | mk (k:Int) (al nm:List UInt8) (args:List Mem) (dirs:List DirD) (on:List UInt8) (sels:List SelD)
structure TyD where
 nm:List UInt8
 lists:Int
 musts:Int
structure VarD where
 nm:List UInt8
 t:TyD
 has:Bool
 d:Val
structure OpD where
 k:Int
 nm:List UInt8
 vars:List VarD
 dirs:List DirD
 sels:List SelD
structure FragD where
 nm:List UInt8
 on:List UInt8
 dirs:List DirD
 sels:List SelD
structure DocD where
 ops:List OpD
 frags:List FragD
def cD (x:DirD):List AV:=[.str x.nm,.sl .no 6 (cMs x.args)]
def cDs (l:List DirD):List (List AV):=l.map cD
mutual
def cS:SelD→List AV
 | .mk k al nm args dirs on sels=>[.int .i64 k,.str al,.str nm,.sl .no 6 (cMs args),.sl .no 2 (cDs dirs),.str on,.sl .no 7 (cSs sels)]
def cSs:List SelD→List (List AV)
 | []=>[]
 | x :: r=>cS x :: cSs r
end
def cTy (t:TyD):List AV:=[.str t.nm,.int .i64 t.lists,.int .i64 t.musts]
def cW (x:VarD):List AV:=cTy ⟨x.nm,0,0⟩ |>.take 1 |>.append (cTy x.t++(.bool x.has :: cV x.d))
def cWs (l:List VarD):List (List AV):=l.map cW
def cO (x:OpD):List AV:=[.int .i64 x.k,.str x.nm,.sl .no 10 (cWs x.vars),.sl .no 2 (cDs x.dirs),.sl .no 7 (cSs x.sels)]
def cOs (l:List OpD):List (List AV):=l.map cO
def cF (x:FragD):List AV:=[.str x.nm,.str x.on,.sl .no 2 (cDs x.dirs),.sl .no 7 (cSs x.sels)]
def cFs (l:List FragD):List (List AV):=l.map cF
def cDoc (d:DocD):List AV:=[.sl .no 5 (cOs d.ops),.sl .no 4 (cFs d.frags)]
theorem cW_mk (nm:List UInt8) (t:TyD) (h:Bool) (d:Val):cW ⟨nm,t,h,d⟩=.str nm :: .str t.nm :: .int .i64 t.lists :: .int .i64 t.musts :: .bool h :: cV d:=rfl
theorem cSs_map:∀ l,cSs l=l.map cS
 | []=>rfl
 | v :: r=>by rw [cSs,cSs_map r];rfl
theorem cDs_len (l:List DirD):(cDs l).length=l.length:=by simp [cDs]
theorem cSs_len (l:List SelD):(cSs l).length=l.length:=by rw [cSs_map];simp
theorem cWs_len (l:List VarD):(cWs l).length=l.length:=by simp [cWs]
theorem cOs_len (l:List OpD):(cOs l).length=l.length:=by simp [cOs]
theorem cFs_len (l:List FragD):(cFs l).length=l.length:=by simp [cFs]
theorem cDs_get {l a:List DirD} {x:DirD} {b:List DirD} (h:l=a++x :: b):(cDs l).getD a.length []=cD x:=getD_mid' h
theorem cSs_get {l a:List SelD} {x:SelD} {b:List SelD} (h:l=a++x :: b):(cSs l).getD a.length []=cS x:=by rw [cSs_map,getD_mid' h]
theorem cWs_get {l a:List VarD} {x:VarD} {b:List VarD} (h:l=a++x :: b):(cWs l).getD a.length []=cW x:=getD_mid' h
theorem cOs_get {l a:List OpD} {x:OpD} {b:List OpD} (h:l=a++x :: b):(cOs l).getD a.length []=cO x:=getD_mid' h
theorem cFs_get {l a:List FragD} {x:FragD} {b:List FragD} (h:l=a++x :: b):(cFs l).getD a.length []=cF x:=getD_mid' h
theorem cS_mk (k:Int) (al nm:List UInt8) (args:List Mem) (dirs:List DirD) (on:List UInt8) (sels:List SelD):cS (.mk k al nm args dirs on sels)=[.int .i64 k,.str al,.str nm,.sl .no 6 (cMs args),.sl .no 2 (cDs dirs),.str on,.sl .no 7 (cSs sels)]:=rfl
theorem cD_strip (x:DirD):(cD x).map AV.strip1=cD x:=rfl
theorem cS_strip (x:SelD):(cS x).map AV.strip1=cS x:=by cases x;rfl
theorem cW_strip (x:VarD):(cW x).map AV.strip1=cW x:=by rcases x with ⟨a,b,c,⟨⟩⟩;rfl
theorem cO_strip (x:OpD):(cO x).map AV.strip1=cO x:=rfl
theorem cF_strip (x:FragD):(cF x).map AV.strip1=cF x:=rfl
theorem cS_len (x:SelD):(cS x).length=7:=by cases x;rfl
theorem cS_take (x:SelD):(cS x).take 7=cS x:=by cases x;rfl
theorem cS_splice (a b c d e f g:AV) (x:SelD):splice [a,b,c,d,e,f,g] 0 (cS x)=cS x:=by cases x;rfl
theorem cW_len (x:VarD):(cW x).length=10:=by rcases x with ⟨a,b,c,⟨⟩⟩;rfl
theorem cW_take (x:VarD):(cW x).take 10=cW x:=by rcases x with ⟨a,b,c,⟨⟩⟩;rfl
def bD (x:DirD):Nat:=1+x.nm.length+bMs x.args
def bDs (l:List DirD):Nat:=(l.map bD).sum
mutual
def bS:SelD→Nat
 | .mk _ al nm args dirs on sels=>1+al.length+nm.length+on.length+bMs args+bDs dirs+bSs sels
def bSs:List SelD→Nat
 | []=>0
 | x :: r=>bS x+bSs r
end
def bW (x:VarD):Nat:=x.nm.length+x.t.nm.length+bV x.d
def bWs (l:List VarD):Nat:=(l.map bW).sum
def bO (x:OpD):Nat:=1+x.nm.length+bWs x.vars+bDs x.dirs+bSs x.sels
def bOs (l:List OpD):Nat:=(l.map bO).sum
def bF (x:FragD):Nat:=1+x.nm.length+x.on.length+bDs x.dirs+bSs x.sels
def bFs (l:List FragD):Nat:=(l.map bF).sum
def bDoc (d:DocD):Nat:=bOs d.ops+bFs d.frags
theorem sum_len {α:Type} {f:α→Nat} (hf:∀ x,1≤f x):∀ l:List α,l.length≤(l.map f).sum
 | []=>Nat.zero_le _
 | x :: r=>by have:=sum_len hf r;have:=hf x;simp only [List.map_cons,List.sum_cons,List.length_cons];omega
theorem sum_mid {α:Type} (f:α→Nat) (a:List α) (x:α) (b:List α):((a++x :: b).map f).sum=(a.map f).sum+f x+(b.map f).sum:=by simp;omega
theorem bDs_len (l:List DirD):l.length≤bDs l:=sum_len (fun x=>by simp only [bD];omega) l
theorem bWs_len (l:List VarD):l.length≤bWs l:=sum_len (fun x=>by have:=bV_pos x.d;simp only [bW];omega) l
theorem bOs_len (l:List OpD):l.length≤bOs l:=sum_len (fun x=>by simp only [bO];omega) l
theorem bFs_len (l:List FragD):l.length≤bFs l:=sum_len (fun x=>by simp only [bF];omega) l
theorem bS_pos (x:SelD):1≤bS x:=by cases x;simp only [bS];omega
theorem bSs_len:∀ l:List SelD,l.length≤bSs l
 | []=>by simp
 | v :: r=>by have:=bSs_len r;have:=bS_pos v;simp only [bSs,List.length_cons];omega
theorem bDs_mid (a:List DirD) (x:DirD) (b:List DirD):bDs (a++x :: b)=bDs a+bD x+bDs b:=sum_mid ..
theorem bWs_mid (a:List VarD) (x:VarD) (b:List VarD):bWs (a++x :: b)=bWs a+bW x+bWs b:=sum_mid ..
theorem bOs_mid (a:List OpD) (x:OpD) (b:List OpD):bOs (a++x :: b)=bOs a+bO x+bOs b:=sum_mid ..
theorem bFs_mid (a:List FragD) (x:FragD) (b:List FragD):bFs (a++x :: b)=bFs a+bF x+bFs b:=sum_mid ..
theorem bSs_mid (a:List SelD) (x:SelD) (b:List SelD):bSs (a++x :: b)=bSs a+bS x+bSs b:=by
 induction a with
 | nil=>simp [bSs]
 | cons y a ih=>simp only [List.cons_append,bSs,ih];omega
mutual
theorem SelD.ind {P:SelD→Prop} (h:∀ k al nm args dirs on sels,(∀ v ∈ sels,P v)→P (.mk k al nm args dirs on sels)):∀ v,P v
 | .mk k al nm args dirs on sels=>h k al nm args dirs on sels (SelD.indL h sels)
theorem SelD.indL {P:SelD→Prop} (h:∀ k al nm args dirs on sels,(∀ v ∈ sels,P v)→P (.mk k al nm args dirs on sels)):∀ l:List SelD,∀ v ∈ l,P v
 | [],_,hv=>by cases hv
 | x :: r,v,hv=>(List.mem_cons.1 hv).elim (fun e=>e▸SelD.ind h x) (SelD.indL h r v)
end
theorem bMs_mem {t:List UInt8} {v:Val} {m:List Mem} (h:Mem.mk t v ∈ m):bV v≤bMs m:=by
 obtain ⟨a,b,hd⟩:=List.append_of_mem h
 have:=bMs_mid a (.mk t v) b
 rw [← hd] at this
 simp only [bM] at this
 omega
theorem membersE (a b:List Mem) (ha:bMs a≤Lim):Pure Tryz.prog 102 [.sl .no 6 (cMs a),.sl .no 6 (cMs b)] (.bool (eqd a b)) :=
 membersR a b (by have:=bMs_len a;omega) fun s v hm u=>sameR v (by have:=bMs_mem hm;omega) u
end Go.Proofs.YticbbfbpeimkbaaGreatDoor
namespace Go.Proofs.YticbbfbpeimkbaaGreatDoor
open Go.Ab
def hexL:List UInt8:=[48,49,50,51,52,53,54,55,56,57,97,98,99,100,101,102]
def hexD (c:UInt8):Option Nat:=if Lib.indexByte hexL (c ||| 32)<0∨c.toNat<48∨(57<c.toNat∧c.toNat<65) then none else some (Lib.indexByte hexL (c ||| 32)).toNat
def unitG:Nat→List UInt8→Nat→Option Nat
 | 0,_,u=>some u
 | _+1,[],_=>none
 | n+1,c :: t,u=>match hexD c with
  | none=>none
  | some k=>unitG n t (16*u+k)
def unitM (s:List UInt8):Option Nat:=unitG 4 s 0
def encM (n:Nat):List UInt8 :=
 if n≤127 then [UInt8.ofNat n]
 else if n≤2047 then [UInt8.ofNat (192+n / 64),UInt8.ofNat (128+n % 64)]
 else if n≤65535 then [UInt8.ofNat (224+n / 4096),UInt8.ofNat (128+n / 64 % 64),UInt8.ofNat (128+n % 64)]
 else [UInt8.ofNat (240+n / 262144),UInt8.ofNat (128+n / 4096 % 64),UInt8.ofNat (128+n / 64 % 64),UInt8.ofNat (128+n % 64)]
def joinM:List Nat→Option (List UInt8)
 | []=>some []
 | u :: r=>if 65535<u∨(56320≤u∧u≤57343) then none
  else if 55296≤u∧u<56320 then match r with
   | []=>none
   | v :: r=>if v<56320∨57343<v then none else (joinM r).map (encM (65536+1024*(u-55296)+(v-56320))++·)
  else (joinM r).map (encM u++·)
structure Sd where
 b:List UInt8
 u:List Nat
 ok:Bool
def flushM (q:Sd):Sd:=⟨q.b++(joinM q.u).getD [],[],q.ok && (joinM q.u).isSome⟩
def Sd.put (q:Sd) (c:UInt8):Sd:=⟨(flushM q).b++[c],[],(flushM q).ok⟩
def escL:List UInt8:=[34,92,47,98,102,110,114,116]
def escV:List UInt8:=[34,92,47,8,12,10,13,9]
def escM (q:Sd):List UInt8→Option (Sd × List UInt8)
 | []=>none
 | c :: t=>if c=117 then (unitM t).map fun u=>(⟨q.b,q.u++[u],q.ok⟩,t.drop 4)
  else if Lib.indexByte escL c<0 then none else some (q.put (escV.getD (Lib.indexByte escL c).toNat 0),t)
def quoG (may:UInt8→Bool):Nat→List UInt8→Sd→Option (Sd × List UInt8)
 | 0,_,_=>none
 | _+1,[],_=>none
 | n+1,c :: t,q=>if c=34 then some (flushM q,t)
  else if c=92 then match escM q t with
   | none=>none
   | some (q',t')=>quoG may n t' q'
  else if may c then quoG may n t (q.put c) else none
def quoM (may:UInt8→Bool) (t:List UInt8):Option (List UInt8 × List UInt8):=match quoG may (t.length+1) t ⟨[],[],true⟩ with
 | some (q,t')=>if q.ok then some (q.b,t') else none
 | none=>none
def hiB (c:UInt8):Bool:=decide (32≤c.toNat)
def bk (c:UInt8):Bool:=decide (0≤Lib.indexByte [9,10,13,32] c)
def skB:List UInt8→List UInt8
 | []=>[]
 | c :: t=>if bk c then skB t else c :: t
def nch (c:UInt8):Bool:=decide (0≤Lib.indexByte [48,49,50,51,52,53,54,55,56,57,43,45,46,101,69] c)
def nst (c:UInt8):Bool:=decide (0≤Lib.indexByte [45,48,49,50,51,52,53,54,55,56,57] c)
abbrev RR (α:Type):=Except Int (α × List UInt8)
def RR.bind {α β:Type} (x:RR α) (f:α→List UInt8→RR β):RR β:=match x with
 | .ok (a,t)=>f a t
 | .error e=>.error e
def mayM (p t:List UInt8):Option (List UInt8):=if p.isPrefixOf (skB t) then some ((skB t).drop p.length) else none
def mustM (p t:List UInt8):RR Unit:=match mayM p t with
 | some t'=>.ok ((),t')
 | none=>.error 2
def textM (t:List UInt8):RR (List UInt8):=if [34].isPrefixOf (skB t) then match quoM hiB (skB t).tail with
  | some x=>.ok x
  | none=>.error 2
 else .error 2
def nullV:Val:=.mk 0 0 [] [] []
def numV (s:List UInt8):Val:=if wholeB s then .mk 2 (valI s) [] [] [] else .mk 3 0 s [] []
def numM (t:List UInt8):RR Val:=if numK (t.takeWhile nch)=0 then .error 2 else .ok (numV (t.takeWhile nch),t.dropWhile nch)
def itemsM (p:List UInt8→RR Val):Nat→List Val→List UInt8→RR (List Val)
 | 0,_,_=>.error 2
 | n+1,l,t=>match mayM [93] t with
  | some t'=>.ok (l,t')
  | none=>(mustM [44] t).bind fun _ t=>(p t).bind fun v t=>itemsM p n (l++[v]) t
def listM (p:List UInt8→RR Val) (t:List UInt8):RR Val:=match mayM [93] t with
 | some t'=>.ok (.mk 6 0 [] [] [],t')
 | none=>(p t).bind fun v t=>(itemsM p (t.length+1) [v] t).bind fun l t=>.ok (.mk 6 0 [] l [],t)
def hasN (s:List UInt8):List Mem→Bool
 | []=>false
 | .mk t _ :: r=>decide (t=s) || hasN s r
def memberM (p:List UInt8→RR Val) (l:List Mem) (t:List UInt8):RR (List Mem) :=
 (textM t).bind fun s t=>if hasN s l then .error 5 else (mustM [58] t).bind fun _ t=>(p t).bind fun v t=>.ok (l++[.mk s v],t)
def membersM (p:List UInt8→RR Val):Nat→List Mem→List UInt8→RR (List Mem)
 | 0,_,_=>.error 2
 | n+1,l,t=>match mayM [125] t with
  | some t'=>.ok (l,t')
  | none=>(mustM [44] t).bind fun _ t=>(memberM p l t).bind fun l t=>membersM p n l t
def mapM (p:List UInt8→RR Val) (t:List UInt8):RR Val:=match mayM [125] t with
 | some t'=>.ok (.mk 7 0 [] [] [],t')
 | none=>(memberM p [] t).bind fun l t=>(membersM p (t.length+1) l t).bind fun l t=>.ok (.mk 7 0 [] [] l,t)
def wordM (t:List UInt8):RR Val:=match mayM [110,117,108,108] t with
 | some t'=>.ok (nullV,t')
 | none=>match mayM [116,114,117,101] t with
  | some t'=>.ok (.mk 1 1 [] [] [],t')
  | none=>(mustM [102,97,108,115,101] t).bind fun _ t=>.ok (.mk 1 0 [] [] [],t)
def headM (t:List UInt8) (p:List UInt8→RR Val):RR Val:=match t with
 | []=>wordM []
 | c :: r=>if c=123 then mapM p r else if c=91 then listM p r
  else if c=34 then (textM (c :: r)).bind fun s t=>.ok (.mk 4 0 s [] [],t)
  else if nst c then numM (c :: r) else wordM (c :: r)
def deepM (_:List UInt8):RR Val:=.error 4
def valM:Nat→List UInt8→RR Val
 | 0,t=>if (skB t).head?=some 123∨(skB t).head?=some 91 then .error 4 else headM (skB t) deepM
 | n+1,t=>headM (skB t) (valM n)
theorem escM_suf {q q':Sd} {t t':List UInt8} (h:escM q t=some (q',t')):t' <:+ t∧t'.length<t.length:=by
 cases t with
 | nil=>cases h
 | cons c t =>
  simp only [escM] at h
  split at h
  ·cases hu:unitM t with
   | none=>simp [hu] at h
   | some u =>
    simp only [hu,Option.map_some,Option.some.injEq,Prod.mk.injEq] at h
    obtain ⟨_,rfl⟩:=h
    exact ⟨(List.drop_suffix _ _).trans (List.suffix_cons ..),by simp;omega⟩
  ·split at h
   ·cases h
   ·simp only [Option.some.injEq,Prod.mk.injEq] at h
    obtain ⟨_,rfl⟩:=h
    exact ⟨List.suffix_cons ..,by simp⟩
theorem quoG_suf {may:UInt8→Bool}:∀ (n:Nat) (t:List UInt8) (q q':Sd) (t':List UInt8),quoG may n t q=some (q',t')→t' <:+ t∧t'.length<t.length
 | 0,_,_,_,_,h=>by cases h
 | _+1,[],_,_,_,h=>by cases h
 | n+1,c :: t,q,q',t',h=>by
  simp only [quoG] at h
  split at h
  ·simp only [Option.some.injEq,Prod.mk.injEq] at h
   obtain ⟨_,rfl⟩:=h
   exact ⟨List.suffix_cons ..,by simp⟩
  ·split at h
   ·cases he:escM q t with
    | none=>simp [he] at h
    | some x =>
     obtain ⟨q1,t1⟩:=x
     simp only [he] at h
     have h1:=escM_suf he
     have h2:=quoG_suf n t1 q1 q' t' h
     exact ⟨(h2.1.trans h1.1).trans (List.suffix_cons ..),by simp;omega⟩
   ·split at h
    ·have h2:=quoG_suf n t _ q' t' h
     exact ⟨h2.1.trans (List.suffix_cons ..),by simp;omega⟩
    ·cases h
theorem quoM_suf {may:UInt8→Bool} {t t' b:List UInt8} (h:quoM may t=some (b,t')):t' <:+ t∧t'.length<t.length:=by
 unfold quoM at h
 split at h
 ·rename_i q t1 hq
  split at h
  ·cases h;exact quoG_suf _ _ _ _ _ hq
  ·cases h
 ·cases h
end Go.Proofs.YticbbfbpeimkbaaGreatDoor
namespace Go.Proofs.YticbbfbpeimkbaaGreatDoor
open Go.Ab
theorem unitG_len:∀ (n:Nat) (t:List UInt8) (u v:Nat),unitG n t u=some v→n≤t.length
 | 0,_,_,_,_=>Nat.zero_le _
 | n+1,[],_,_,h=>by cases h
 | n+1,c :: t,u,v,h=>by
  simp only [unitG] at h
  split at h
  ·cases h
  ·have:=unitG_len n t _ v h;simp;omega
theorem encM_len (n:Nat):(encM n).length≤4∧(n≤65535→(encM n).length≤3):=by
 unfold encM
 split
 ·simp
 ·split
  ·simp
  ·split
   ·simp
   ·refine ⟨by simp,fun h=>by omega⟩
theorem joinM_len:∀ (u:List Nat) (s:List UInt8),joinM u=some s→s.length≤3*u.length
 | [],s,h=>by cases h;simp
 | u :: [],s,h=>by
  simp only [joinM] at h
  split at h
  ·cases h
  ·rename_i h1
   split at h
   ·cases h
   ·simp only [Option.map_some,Option.some.injEq] at h
    subst h
    have:=(encM_len u).2 (by omega)
    simp;omega
 | u :: v :: r,s,h=>by
  rw [joinM] at h
  split at h
  ·cases h
  ·rename_i h1
   split at h
   ·split at h
    ·cases h
    ·cases hr:joinM r with
     | none=>simp [hr] at h
     | some x =>
      simp only [hr,Option.map_some,Option.some.injEq] at h
      subst h
      have h2:=joinM_len r x hr
      have h3:=(encM_len (65536+1024*(u-55296)+(v-56320))).1
      simp only [List.length_append,List.length_cons];omega
   ·cases hr:joinM (v :: r) with
    | none=>simp [hr] at h
    | some x =>
     simp only [hr,Option.map_some,Option.some.injEq] at h
     subst h
     have h2:=joinM_len (v :: r) x hr
     have h3:=(encM_len u).2 (by omega)
     simp only [List.length_append,List.length_cons] at h2 ⊢;omega
def Sd.w (q:Sd):Nat:=q.b.length+3*q.u.length
theorem flush_w (q:Sd):(flushM q).b.length≤q.w:=by
 unfold flushM Sd.w
 cases h:joinM q.u with
 | none=>simp
 | some s=>have:=joinM_len _ _ h;simp;omega
theorem put_w (q:Sd) (c:UInt8):(q.put c).w≤q.w+1:=by
 have:=flush_w q
 simp only [Sd.put,Sd.w,List.length_append,List.length_cons,List.length_nil] at this ⊢;omega
theorem escM_w {q q':Sd} {t t':List UInt8} (h:escM q t=some (q',t')):q'.w+t'.length≤q.w+t.length:=by
 cases t with
 | nil=>cases h
 | cons c t =>
  simp only [escM] at h
  split at h
  ·cases hu:unitM t with
   | none=>simp [hu] at h
   | some u =>
    simp only [hu,Option.map_some,Option.some.injEq,Prod.mk.injEq] at h
    obtain ⟨rfl,rfl⟩:=h
    have:=unitG_len _ _ _ _ hu
    simp only [Sd.w,List.length_append,List.length_cons,List.length_nil,List.length_drop];omega
  ·split at h
   ·cases h
   ·simp only [Option.some.injEq,Prod.mk.injEq] at h
    obtain ⟨rfl,rfl⟩:=h
    have:=put_w q (escV.getD (Lib.indexByte escL c).toNat 0)
    simp only [List.length_cons];omega
theorem quoG_w {may:UInt8→Bool}:∀ (n:Nat) (t:List UInt8) (q q':Sd) (t':List UInt8),quoG may n t q=some (q',t')→q'.b.length+t'.length+1≤q.w+t.length
 | 0,_,_,_,_,h=>by cases h
 | _+1,[],_,_,_,h=>by cases h
 | n+1,c :: t,q,q',t',h=>by
  simp only [quoG] at h
  split at h
  ·simp only [Option.some.injEq,Prod.mk.injEq] at h
   obtain ⟨rfl,rfl⟩:=h
   have:=flush_w q
   simp only [List.length_cons];omega
  ·split at h
   ·cases he:escM q t with
    | none=>simp [he] at h
    | some x =>
     obtain ⟨q1,t1⟩:=x
     simp only [he] at h
     have h1:=escM_w he
     have h2:=quoG_w n t1 q1 q' t' h
     simp only [List.length_cons];omega
   ·split at h
    ·have h2:=quoG_w n t _ q' t' h
     have h3:=put_w q c
     simp only [List.length_cons];omega
    ·cases h
theorem quoM_w {may:UInt8→Bool} {t t' b:List UInt8} (h:quoM may t=some (b,t')):b.length+t'.length+1≤t.length:=by
 unfold quoM at h
 split at h
 ·rename_i q t1 hq
  split at h
  ·cases h;have:=quoG_w _ _ _ _ _ hq;simpa [Sd.w] using this
  ·cases h
 ·cases h
theorem inR0:inR 0:=by simp [inR]
theorem parse_inR {s:List UInt8} {n:Int} (h:Lib.parseIntB 64 s=.ok n):inR n:=by
 cases s with
 | nil=>cases h
 | cons c r =>
  simp only [Lib.parseIntB] at h
  split at h
  ·cases h
  ·cases h
  ·split at h
   ·cases h
   ·split at h
    ·cases h
    ·rename_i h1 h2
     cases h
     simp only [inR]
     split<;>simp_all<;>omega
theorem numV_fit (s:List UInt8):bV (numV s)≤1+s.length∧wfV (numV s):=by
 unfold numV
 split
 ·rename_i h
  refine ⟨by simp only [bV,bVs,bMs,List.length_nil];omega,?_,trivial,trivial⟩
  unfold wholeB at h
  unfold valI
  rcases hp:Lib.parseIntB 64 s with v|_|_
  ·exact parse_inR hp
  ·exact inR0
  ·rw [hp] at h;simp [okI] at h
 ·exact ⟨by simp only [bV,bVs,bMs];omega,inR0,trivial,trivial⟩
end Go.Proofs.YticbbfbpeimkbaaGreatDoor
namespace Go.Proofs.YticbbfbpeimkbaaGreatDoor
open Go.Ab
abbrev TS:=List Tok
def hdT (t:TS):Tok:=t.headD ⟨0,[]⟩
def isP (m:List UInt8) (t:TS):Bool:=decide ((hdT t).k=1) && decide ((hdT t).s=m)
def isW (w:List UInt8) (t:TS):Bool:=decide ((hdT t).k=2) && decide ((hdT t).s=w)
abbrev PR (α:Type):=Except Int (α × TS)
def pb {α β:Type} (x:PR α) (f:α→TS→PR β):PR β:=match x with
 | .ok (a,t)=>f a t
 | .error e=>.error e
theorem pb_ok {α β:Type} (a:α) (t:TS) (f:α→TS→PR β):pb (.ok (a,t)) f=f a t:=rfl
def mustP (m:List UInt8) (t:TS):PR Unit:=if isP m t then .ok ((),t.tail) else .error 2
def nameP (t:TS):PR (List UInt8):=if (hdT t).k=2 then .ok ((hdT t).s,t.tail) else .error 2
def mayWordP (w:List UInt8) (t:TS):TS:=if isW w t then t.tail else t
def manyP {α:Type} (m:List UInt8) (f:TS→PR α):Nat→List α→TS→PR (List α)
 | 0,_,_=>.error 0
 | n+1,l,t=>if isP m t then .ok (l,t.tail) else pb (f t) fun x t=>manyP m f n (l++[x]) t
def many1P {α:Type} (m:List UInt8) (f:TS→PR α) (t:TS):PR (List α):=pb (f t) fun x t=>manyP m f (t.length+1) [x] t
def whileP {α:Type} (m:List UInt8) (f:TS→PR α):Nat→List α→TS→PR (List α)
 | 0,_,_=>.error 0
 | n+1,l,t=>if isP m t then pb (f t.tail) fun x t=>whileP m f n (l++[x]) t else .ok (l,t)
def bangP (ty:TyD) (t:TS):PR TyD:=if isP [33] t then .ok (⟨ty.nm,ty.lists,ty.musts+1⟩,t.tail) else .ok (ty,t)
def predP {α:Type} (f:Nat→α):Nat→Option α
 | 0=>none
 | k+1=>some (f k)
theorem predP_s {α:Type} (f:Nat→α) (k:Nat):predP f (k+1)=some (f k):=rfl
def typB (sub:Option (TS→PR TyD)) (t:TS):PR TyD:=if isP [91] t then (match sub with
   | none=>.error 4
   | some f=>pb (f t.tail) fun ty t=>pb (mustP [93] t) fun _ t=>bangP ⟨ty.nm,ty.lists+1,ty.musts*2⟩ t)
  else pb (nameP t) fun s t=>bangP ⟨s,0,0⟩ t
def typP:Nat→TS→PR TyD
 | 0=>typB none
 | k+1=>typB (some (typP k))
theorem typP_eq (k:Nat) (t:TS):typP k t=typB (predP typP k) t:=by cases k<;>rfl
def wordV (s:List UInt8):Val:=if s=[110,117,108,108] then zV else if s=[116,114,117,101] then .mk 1 1 [] [] [] else if s=[102,97,108,115,101] then .mk 1 0 [] [] [] else .mk 5 0 s [] []
def memberP (v:TS→PR Val) (t:TS):PR Mem:=pb (nameP t) fun s t=>pb (mustP [58] t) fun _ t=>pb (v t) fun x t=>.ok (.mk s x,t)
def valB (fixed:Bool) (sub:Option (TS→PR Val)) (t:TS):PR Val :=
  if (hdT t).k=2 then .ok (wordV (hdT t).s,t.tail)
  else if (hdT t).k=3∨(hdT t).k=4 then .ok (numV (hdT t).s,t.tail)
  else if (hdT t).k=5 then .ok (.mk 4 0 (hdT t).s [] [],t.tail)
  else if isP [91] t then (match sub with
   | none=>.error 4
   | some f=>pb (manyP [93] f (t.tail.length+1) [] t.tail) fun l t=>.ok (.mk 6 0 [] l [],t))
  else if isP [123] t then (match sub with
   | none=>.error 4
   | some f=>pb (manyP [125] (memberP f) (t.tail.length+1) [] t.tail) fun l t=>.ok (.mk 7 0 [] [] l,t))
  else if fixed then .error 2
  else pb (mustP [36] t) fun _ t=>pb (nameP t) fun s t=>.ok (.mk 8 0 s [] [],t)
def valP (fixed:Bool):Nat→TS→PR Val
 | 0=>valB fixed none
 | k+1=>valB fixed (some (valP fixed k))
theorem valP_eq (fixed:Bool) (k:Nat) (t:TS):valP fixed k t=valB fixed (predP (valP fixed) k) t:=by cases k<;>rfl
def argsP (fixed:Bool) (k:Nat) (t:TS):PR (List Mem):=if isP [40] t then many1P [41] (memberP (valP fixed k)) t.tail else .ok ([],t)
def dirP (fixed:Bool) (k:Nat) (t:TS):PR DirD:=pb (nameP t) fun s t=>pb (argsP fixed k t) fun a t=>.ok (⟨s,a⟩,t)
def dirsP (fixed:Bool) (k:Nat) (t:TS):PR (List DirD):=whileP [64] (dirP fixed k) (t.length+1) [] t
def spreadP (sels:TS→PR (List SelD)) (k:Nat) (t:TS):PR SelD :=
 if (hdT t).k=2∧isW [111,110] t=false then pb (nameP t) fun s t=>pb (dirsP false k t) fun d t=>.ok (.mk 1 [] s [] d [] [],t)
 else pb (if isW [111,110] t then nameP t.tail else .ok ([],t)) fun o t=>pb (dirsP false k t) fun d t=>pb (sels t) fun l t=>.ok (.mk 2 [] [] [] d o l,t)
def selP (sels:TS→PR (List SelD)) (k:Nat) (t:TS):PR SelD :=
 if isP [46,46,46] t then spreadP sels k t.tail
 else pb (nameP t) fun s t=>pb (if isP [58] t then pb (nameP t.tail) fun s2 t=>.ok ((s,s2),t) else .ok (([],s),t)) fun an t =>
  pb (argsP false k t) fun a t=>pb (dirsP false k t) fun d t=>pb (if isP [123] t then sels t else .ok ([],t)) fun l t=>.ok (.mk 0 an.1 an.2 a d [] l,t)
def selsP:Nat→TS→PR (List SelD)
 | 0,t=>if isP [123] t then .error 4 else .error 2
 | k+1,t=>if isP [123] t then many1P [125] (selP (selsP k) k) t.tail else .error 2
def varP (t:TS):PR VarD:=pb (mustP [36] t) fun _ t=>pb (nameP t) fun s t=>pb (mustP [58] t) fun _ t=>pb (typP 4 t) fun ty t =>
 if isP [61] t then pb (valP true 16 t.tail) fun v t=>.ok (⟨s,ty,true,v⟩,t) else .ok (⟨s,ty,false,zV⟩,t)
def opP (kind:Int) (t:TS):PR OpD :=
 pb (if (hdT t).k=2 then nameP t else .ok ([],t)) fun s t=>pb (if isP [40] t then many1P [41] varP t.tail else .ok ([],t)) fun vs t =>
 pb (dirsP true 16 t) fun d t=>pb (selsP 16 t) fun l t=>.ok (⟨kind,s,vs,d,l⟩,t)
def fragP (t:TS):PR FragD :=
 pb (if isW [111,110] t then .error 2 else nameP t) fun s t=>pb (if isW [111,110] t then .ok ((),t.tail) else .error 2) fun _ t=>pb (nameP t) fun o t =>
 pb (dirsP true 16 t) fun d t=>pb (selsP 16 t) fun l t=>.ok (⟨s,o,d,l⟩,t)
def defP (d:DocD) (t:TS):PR DocD :=
 if isP [123] t then pb (selsP 16 t) fun l t=>.ok (⟨d.ops++[⟨0,[],[],[],l⟩],d.frags⟩,t)
 else if isW [113,117,101,114,121] t then pb (opP 0 t.tail) fun o t=>.ok (⟨d.ops++[o],d.frags⟩,t)
 else if isW [109,117,116,97,116,105,111,110] t then pb (opP 1 t.tail) fun o t=>.ok (⟨d.ops++[o],d.frags⟩,t)
 else if isW [102,114,97,103,109,101,110,116] t then pb (fragP t.tail) fun f t=>.ok (⟨d.ops,d.frags++[f]⟩,t)
 else .error 2
def defsP:Nat→DocD→TS→PR DocD
 | 0,_,_=>.error 0
 | n+1,d,t=>if t=[] then .ok (d,t) else pb (defP d t) fun d t=>defsP n d t
def docP (t:TS):PR DocD:=pb (defP ⟨[],[]⟩ t) fun d t=>defsP (t.length+1) d t
def wK (t:Tok):Nat:=t.s.length+4
def wT (l:TS):Nat:=(l.map wK).sum
theorem wT_cons (x:Tok) (l:TS):wT (x :: l)=wK x+wT l:=by simp [wT]
structure Fp {α:Type} (b:α→Nat) (ok:α→Prop) (c:Nat) (t:TS) (a:α) (t':TS):Prop where
 suf:t' <:+ t
 w:b a+c+wT t'≤wT t
 ok:ok a
def GP {α:Type} (b:α→Nat) (ok:α→Prop) (c:Nat) (f:TS→PR α):Prop:=∀ t a t',f t=.ok (a,t')→Fp b ok c t a t'
theorem Fp.lt {α:Type} {b:α→Nat} {ok:α→Prop} {c:Nat} {t t':TS} {a:α} (h:Fp b ok c t a t') (hc:0<c):t'.length<t.length:=by
 obtain ⟨p,hp⟩:=h.suf
 have h2:=h.w
 cases p with
 | nil=>simp at hp;subst hp;omega
 | cons x p=>rw [← hp];simp;omega
theorem hd_tail {t:TS} (h:(hdT t).k≠0):t=hdT t :: t.tail:=by
 cases t with
 | nil=>exact absurd rfl h
 | cons x t=>rfl
theorem isP_ne {m:List UInt8} {t:TS} (h:isP m t=true):(hdT t).k≠0:=by
 simp only [isP,Bool.and_eq_true,decide_eq_true_eq] at h;rw [h.1];decide
theorem isW_ne {m:List UInt8} {t:TS} (h:isW m t=true):(hdT t).k≠0:=by
 simp only [isW,Bool.and_eq_true,decide_eq_true_eq] at h;rw [h.1];decide
theorem tail_w {t:TS} (h:(hdT t).k≠0):t.tail <:+ t∧(hdT t).s.length+4+wT t.tail=wT t:=by
 refine ⟨List.tail_suffix t,?_⟩
 conv=>rhs;rw [hd_tail h,wT_cons]
 rfl
theorem tail_p {m:List UInt8} {t:TS} (h:isP m t=true):t.tail <:+ t∧4+wT t.tail≤wT t:=by
 have:=tail_w (isP_ne h);exact ⟨this.1,by omega⟩
theorem tail_ww {m:List UInt8} {t:TS} (h:isW m t=true):t.tail <:+ t∧4+wT t.tail≤wT t:=by
 have:=tail_w (isW_ne h);exact ⟨this.1,by omega⟩
def T1 {α:Type} (_:α):Prop:=True
def b0 {α:Type} (_:α):Nat:=0
theorem mustP_fit (m:List UInt8):GP b0 T1 4 (mustP m):=fun t a t' h=>by
 unfold mustP at h
 split at h
 ·rename_i hp;simp only [Except.ok.injEq,Prod.mk.injEq] at h;obtain ⟨_,rfl⟩:=h
  have:=tail_p hp;exact ⟨this.1,by simp only [b0];omega,trivial⟩
 ·cases h
theorem nameP_fit:GP List.length T1 4 nameP:=fun t a t' h=>by
 unfold nameP at h
 split at h
 ·rename_i hp;simp only [Except.ok.injEq,Prod.mk.injEq] at h;obtain ⟨rfl,rfl⟩:=h
  have:=tail_w (t:=t) (by rw [hp];decide);exact ⟨this.1,by omega,trivial⟩
 ·cases h
theorem pb_inv {α β:Type} {x:PR α} {f:α→TS→PR β} {b:β} {t':TS} (h:pb x f=.ok (b,t')):∃ a t,x=.ok (a,t)∧f a t=.ok (b,t'):=by
 rcases x with e|⟨a,t⟩
 ·cases h
 ·exact ⟨a,t,rfl,h⟩
def sm {α:Type} (b:α→Nat) (l:List α):Nat:=(l.map b).sum+l.length
theorem sm_snoc {α:Type} (b:α→Nat) (l:List α) (x:α):sm b (l++[x])=sm b l+b x+1:=by simp [sm];omega
theorem ok_snoc {α:Type} {ok:α→Prop} {l:List α} {x:α} (h:∀ y ∈ l,ok y) (hx:ok x):∀ y ∈ l++[x],ok y:=fun y hy=>by
 rcases List.mem_append.1 hy with h1|h1
 ·exact h y h1
 ·simp at h1;subst h1;exact hx
theorem manyP_fit {α:Type} {b:α→Nat} {ok:α→Prop} {m:List UInt8} {f:TS→PR α} (hf:GP b ok 1 f):∀ (n:Nat) (l:List α) (t:TS) (l':List α) (t':TS),(∀ x ∈ l,ok x)→manyP m f n l t=.ok (l',t')→t' <:+ t∧sm b l'+4+wT t'≤sm b l+wT t∧∀ x ∈ l',ok x
 | 0,_,_,_,_,_,h=>by cases h
 | n+1,l,t,l',t',hl,h=>by
  simp only [manyP] at h
  split at h
  ·rename_i hp;simp only [Except.ok.injEq,Prod.mk.injEq] at h;obtain ⟨rfl,rfl⟩:=h
   have:=tail_p hp;exact ⟨this.1,by omega,hl⟩
  ·obtain ⟨x,t1,h1,h2⟩:=pb_inv h
   have g1:=hf _ _ _ h1
   have w:=g1.w
   have g2:=manyP_fit hf n _ _ _ _ (ok_snoc hl g1.ok) h2
   rw [sm_snoc] at g2
   exact ⟨g2.1.trans g1.suf,by omega,g2.2.2⟩
theorem whileP_fit {α:Type} {b:α→Nat} {ok:α→Prop} {m:List UInt8} {f:TS→PR α} (hf:GP b ok 1 f):∀ (n:Nat) (l:List α) (t:TS) (l':List α) (t':TS),(∀ x ∈ l,ok x)→whileP m f n l t=.ok (l',t')→t' <:+ t∧sm b l'+wT t'≤sm b l+wT t∧∀ x ∈ l',ok x
 | 0,_,_,_,_,_,h=>by cases h
 | n+1,l,t,l',t',hl,h=>by
  simp only [whileP] at h
  split at h
  ·rename_i hp
   have h0:=tail_p hp
   obtain ⟨x,t1,h1,h2⟩:=pb_inv h
   have g1:=hf _ _ _ h1
   have w:=g1.w
   have g2:=whileP_fit hf n _ _ _ _ (ok_snoc hl g1.ok) h2
   rw [sm_snoc] at g2
   exact ⟨(g2.1.trans g1.suf).trans h0.1,by omega,g2.2.2⟩
  ·simp only [Except.ok.injEq,Prod.mk.injEq] at h;obtain ⟨rfl,rfl⟩:=h
   exact ⟨List.suffix_refl t,by omega,hl⟩
theorem many1P_fit {α:Type} {b:α→Nat} {ok:α→Prop} {m:List UInt8} {f:TS→PR α} (hf:GP b ok 1 f):GP (sm b) (fun l=>∀ x ∈ l,ok x) 4 (many1P m f):=fun t l t' h=>by
 obtain ⟨x,t1,h1,h2⟩:=pb_inv h
 have g1:=hf _ _ _ h1
 have w:=g1.w
 have g2:=manyP_fit hf _ [x] _ _ _ (fun y hy=>by simp at hy;subst hy;exact g1.ok) h2
 have e:sm b [x]=b x+1:=by simp [sm]
 exact ⟨g2.1.trans g1.suf,by omega,g2.2.2⟩
theorem tail_lt {m:List UInt8} {t:TS} (h:isP m t=true):t.tail.length<t.length:=by
 conv=>rhs;rw [hd_tail (isP_ne h)]
 simp
theorem GP.lt {α:Type} {b:α→Nat} {ok:α→Prop} {c:Nat} {f:TS→PR α} (h:GP b ok c f) (hc:0<c):∀ t a t',f t=.ok (a,t')→t'.length<t.length:=fun t a t' e=>(h t a t' e).lt hc
def okTy (ty:TyD) (n:Nat):Prop:=0≤ty.lists∧ty.lists≤n∧0≤ty.musts∧ty.musts<2 ^ (ty.lists.toNat+1)∧ty.musts % 2=0
def okTy' (n:Nat) (ty:TyD):Prop:=0≤ty.lists∧ty.lists≤n∧0≤ty.musts∧ty.musts<2 ^ (ty.lists.toNat+1)
theorem bangP_fit {ty:TyD} {n:Nat} (h:okTy ty n):∀ t a t',bangP ty t=.ok (a,t')→t' <:+ t∧a.nm=ty.nm∧wT t'≤wT t∧okTy' n a:=fun t a t' e=>by
 obtain ⟨h1,h2,h3,h4,h5⟩:=h
 unfold bangP at e
 split at e
 ·rename_i hp;simp only [Except.ok.injEq,Prod.mk.injEq] at e;obtain ⟨rfl,rfl⟩:=e
  have:=tail_p hp
  refine ⟨this.1,rfl,by omega,h1,h2,by simp only;omega,?_⟩
  have e2:(2:Int) ^ (ty.lists.toNat+1) % 2=0:=by rw [Int.pow_succ];omega
  simp only;omega
 ·simp only [Except.ok.injEq,Prod.mk.injEq] at e;obtain ⟨rfl,rfl⟩:=e
  exact ⟨List.suffix_refl t,rfl,Nat.le_refl _,h1,h2,h3,h4⟩
theorem typP_step (n:Nat) (ih:∀ m,n=m+1→GP (fun ty=>ty.nm.length) (okTy' m) 4 (typP m)):GP (fun ty=>ty.nm.length) (okTy' n) 4 (typP n):=fun t a t' h=>by
 rw [typP_eq,typB.eq_def] at h
 split at h
 ·rename_i hp
  have h0:=tail_p hp
  cases n with
  | zero=>cases h
  | succ n =>
   obtain ⟨ty,t1,h1,h2⟩:=pb_inv h
   obtain ⟨_,t2,h3,h4⟩:=pb_inv h2
   have g1:=ih n rfl _ _ _ h1
   have g3:=mustP_fit _ _ _ _ h3
   obtain ⟨a1,a2,a3,a4⟩:=g1.ok
   have e1:(ty.lists+1).toNat=ty.lists.toNat+1:=by omega
   have g4:=bangP_fit (n:=n+1) ⟨by simp only;omega,by simp only;omega,by simp only;omega,by simp only;rw [e1,Int.pow_succ];omega,by simp only;omega⟩ _ _ _ h4
   have w1:=g1.w
   have w3:=g3.w
   simp only [b0] at w1 w3
   exact ⟨((g4.1.trans g3.suf).trans g1.suf).trans h0.1,by rw [g4.2.1];simp only;omega,g4.2.2.2⟩
 ·obtain ⟨s,t1,h1,h2⟩:=pb_inv h
  have g1:=nameP_fit _ _ _ h1
  have g4:=bangP_fit (n:=n) ⟨by simp,by simp,by simp,by simp,by simp⟩ _ _ _ h2
  have w1:=g1.w
  exact ⟨g4.1.trans g1.suf,by rw [g4.2.1];simp only;omega,g4.2.2.2⟩
theorem typP_fit:∀ n,GP (fun ty=>ty.nm.length) (okTy' n) 4 (typP n)
 | 0=>typP_step 0 fun m h=>by cases h
 | k+1=>typP_step (k+1) fun m h=>by cases h;exact typP_fit k
end Go.Proofs.YticbbfbpeimkbaaGreatDoor
namespace Go.Proofs.YticbbfbpeimkbaaGreatDoor
open Go.Ab
def tokA (x:Tok):AV:=.agg [.int .i64 x.k,.str x.s]
end Go.Proofs.YticbbfbpeimkbaaGreatDoor
namespace Go.Proofs.YticbbfbpeimkbaaGreatDoor
open Go.Ab
def tipOf:Own→Option Nat
 | .tip b _=>some b
 | _=>none
structure Sep (H:Heap) (l:List (Own × Nat × Nat)):Prop where
 own:∀ x ∈ l,Owned H x.1 x.2.1 x.2.2
 nd:(l.filterMap fun x=>tipOf x.1).Nodup
theorem tipOf_some {o:Own} {b:Nat} (h:tipOf o=some b):∃ d,o=.tip b d:=by
 cases o<;>simp [tipOf] at h
 rename_i c d;subst h;exact ⟨d,rfl⟩
theorem Owned.ofKept {H H':Heap} {o o2:Own} {n sz:Nat} (h:Owned H o n sz) (hk:Kept H o2 H') (hne:∀ b d d2,o=.tip b d→o2≠.tip b d2):Owned H' o n sz:=by
 cases o with
 | tip b d=>exact hk b _ h fun d2 e=>hne b d d2 rfl e
 | no=>exact h
 | nil=>exact h
 | full=>exact h
theorem Sep.step {H H':Heap} {a b:List (Own × Nat × Nat)} {o o':Own} {n n' sz:Nat} (h:Sep H (a++(o,n,sz) :: b)) (h':OwnS H o H' o' n' sz):Sep H' (a++(o',n',sz) :: b):=by
 have hnd:=h.nd
 simp only [List.filterMap_append,List.filterMap_cons] at hnd
 have hother:∀ x,x ∈ a∨x ∈ b→∀ c d d2,x.1=.tip c d→o≠.tip c d2:=fun x hx c d d2 hxe e=>by
  subst e
  simp only [tipOf] at hnd
  rw [List.nodup_append] at hnd
  obtain ⟨_,hb,hab⟩:=hnd
  rcases hx with hx|hx
  ·exact hab c (List.mem_filterMap.2 ⟨x,hx,by rw [hxe]⟩) c (List.mem_cons_self ..) rfl
  ·exact (List.nodup_cons.1 hb).1 (List.mem_filterMap.2 ⟨x,hx,by rw [hxe]⟩)
 refine ⟨fun x hx=>?_,?_⟩
 ·rcases List.mem_append.1 hx with hx|hx
  ·exact Owned.ofKept (h.own x (by simp [hx])) h'.kept fun c d d2=>hother x (.inl hx) c d d2
  ·rcases List.mem_cons.1 hx with rfl|hx
   ·exact h'.own
   ·exact Owned.ofKept (h.own x (by simp [hx])) h'.kept fun c d d2=>hother x (.inr hx) c d d2
 ·simp only [List.filterMap_append,List.filterMap_cons]
  have hsub:∀ c,c ∈ a.filterMap (fun x=>tipOf x.1)∨c ∈ b.filterMap (fun x=>tipOf x.1)→tipOf o'≠some c:=fun c hc e=>by
   obtain ⟨d',e⟩:=tipOf_some e
   have hH:H c≠none∧∀ d0,o≠.tip c d0:=by
    rcases hc with hc|hc<;>obtain ⟨x,hx,hxe⟩:=List.mem_filterMap.1 hc<;>obtain ⟨d,hxe⟩:=tipOf_some hxe
    ·have:=h.own x (by simp [hx]);rw [hxe] at this
     have h2:H c=some _:=this
     exact ⟨by simp [h2],fun d0=>hother x (.inl hx) c d d0 hxe⟩
    ·have:=h.own x (by simp [hx]);rw [hxe] at this
     have h2:H c=some _:=this
     exact ⟨by simp [h2],fun d0=>hother x (.inr hx) c d d0 hxe⟩
   rcases h'.new c d' e with h1|⟨d0,h1⟩
   ·exact hH.1 h1
   ·exact hH.2 d0 h1
  have hnd2:(a.filterMap (fun x=>tipOf x.1)++b.filterMap (fun x=>tipOf x.1)).Nodup:=by
   cases ho:tipOf o with
   | none=>rw [ho] at hnd;exact hnd
   | some c =>
    rw [ho] at hnd
    rw [List.nodup_append] at hnd ⊢
    exact ⟨hnd.1,(List.nodup_cons.1 hnd.2.1).2,fun x hx y hy=>hnd.2.2 x hx y (List.mem_cons_of_mem _ hy)⟩
  cases ho:tipOf o' with
  | none=>exact hnd2
  | some c =>
   have hc:=hsub c
   rw [List.nodup_append] at hnd2 ⊢
   refine ⟨hnd2.1,List.nodup_cons.2 ⟨fun hm=>hc (.inr hm) ho,hnd2.2.1⟩,fun x hx y hy=>?_⟩
   rcases List.mem_cons.1 hy with rfl|hy
   ·exact fun e=>hc (.inl (e▸hx)) ho
   ·exact hnd2.2.2 x hx y hy
theorem Sep.mono {H H':Heap} {l:List (Own × Nat × Nat)} (h:Sep H l) (hk:∀ c n sz,H c=some (.tip n sz)→H' c=some (.tip n sz)):Sep H' l :=
 ⟨fun x hx=>by
  have:=h.own x hx
  obtain ⟨o,n,sz⟩:=x
  cases o with
  | tip c d=>exact hk c _ _ this
  | no=>exact this
  | nil=>exact this
  | full=>exact this,h.nd⟩
end Go.Proofs.YticbbfbpeimkbaaGreatDoor
namespace Go.Proofs.YticbbfbpeimkbaaGreatDoor
open Go.Ab Go.RowKit Go.Sort Go.Lib
theorem idxByteC (s:List UInt8) (c:UInt8):Pure Tryz.prog 222 [.str s,.int .u8 c.toNat] (.int .i64 (Lib.indexByte s c)):=by
 refine Pure.of_calls fun γ w vs ht hv=>?_
 obtain ⟨hl,hr⟩:=hv
 match vs,hl with
 | [v,u],_ =>
  cases hr 0 _ _ rfl rfl
  cases hr 1 _ _ rfl rfl
  refine (Tryz.strings_IndexByte ⟨s.toArray⟩ c.toNat w).mono fun e w' ⟨he,hw⟩=>⟨hw,_,he,?_⟩
  have e1:((c.toNat:Int)).toNat.toUInt8=c:=by simp
  rw [e1]
  exact .int _ _
theorem containsC1 (s:List UInt8) (c:UInt8):Pure Tryz.prog 209 [.str s,.str [c]] (.bool (decide (0≤Lib.indexByte s c))):=by
 refine Pure.of_calls fun γ w vs ht hv=>?_
 obtain ⟨hl,hr⟩:=hv
 match vs,hl with
 | [v,u],_ =>
  cases hr 0 _ _ rfl rfl
  cases hr 1 _ _ rfl rfl
  exact (Tryz.strings_Contains_one ⟨s.toArray⟩ c w).mono fun e w' ⟨he,hw⟩=>⟨hw,_,he,.bool _⟩
end Go.Proofs.YticbbfbpeimkbaaGreatDoor
namespace Go.Proofs.YticbbfbpeimkbaaGreatDoor
open Go.Ab
theorem bytesOf_len (l:List UInt8):(bytesOf l).length=l.length:=by simp [bytesOf]
theorem bytesOf_app (a b:List UInt8):bytesOf a++bytesOf b=bytesOf (a++b):=by simp [bytesOf]
theorem bytesOf_strip (l:List UInt8):(bytesOf l).map (·.map AV.strip1)=bytesOf l:=by simp [bytesOf,AV.strip1]
theorem byts_of (l:List UInt8):byts (bytesOf l)=some l:=by
 induction l with
 | nil=>rfl
 | cons c r ih =>
  have h:=c.toNat_lt
  simp only [bytesOf,List.map_cons] at ih ⊢
  simp only [byts,ih,Option.map_some]
  rw [if_pos ⟨by omega,by omega⟩]
  simp
theorem bytesOf_one (acc:List UInt8) (c:UInt8):bytesOf acc++[[.int .u8 c.toNat]]=bytesOf (acc++[c]):=bytesOf_app acc [c]
theorem bytesOf_two (acc:List UInt8) (c d:UInt8):bytesOf acc++[[.int .u8 c.toNat],[.int .u8 d.toNat]]=bytesOf (acc++[c,d]):=bytesOf_app acc [c,d]
theorem wr32 {n:Nat} (h:n<4294967296):IntKind.wrap .u32 (n:Int)=n:=by
 have e:IntKind.wrap .u32 (n:Int)=(n:Int) % 4294967296:=rfl
 rw [e];omega
theorem wri32 {n:Nat} (h:n<2147483648):IntKind.wrap .i32 (n:Int)=n:=by
 have e:IntKind.wrap .i32 (n:Int)=if (n:Int) % 4294967296≥2147483648 then (n:Int) % 4294967296-4294967296 else (n:Int) % 4294967296:=by
  simp [IntKind.wrap,IntKind.bits,IntKind.signed]
 rw [e];split<;>omega
theorem wr8 (n:Nat):IntKind.wrap .u8 (n:Int)=((n % 256:Nat):Int):=by
 have e:IntKind.wrap .u8 (n:Int)=(n:Int) % 256:=rfl
 rw [e];omega
theorem fd6 (n:Nat):(n:Int).fdiv (2 ^ min 6 IntKind.i32.bits)=((n / 64:Nat):Int):=by
 show (n:Int).fdiv 64=_
 rw [Int.fdiv_eq_ediv_of_nonneg _ (by decide)];omega
theorem fd12 (n:Nat):(n:Int).fdiv (2 ^ min 12 IntKind.i32.bits)=((n / 4096:Nat):Int):=by
 show (n:Int).fdiv 4096=_
 rw [Int.fdiv_eq_ediv_of_nonneg _ (by decide)];omega
theorem fd18 (n:Nat):(n:Int).fdiv (2 ^ min 18 IntKind.i32.bits)=((n / 262144:Nat):Int):=by
 show (n:Int).fdiv 262144=_
 rw [Int.fdiv_eq_ediv_of_nonneg _ (by decide)];omega
theorem leadT:∀ x:Fin 32,IntKind.wrap .u8 ((BitVec.ofInt IntKind.u8.bits 192 ||| BitVec.ofInt IntKind.u8.bits ((x.val:Nat):Int)).toNat:Int)=((UInt8.ofNat (192+x.val)).toNat:Int):=by decide +kernel
theorem leadU:∀ x:Fin 16,IntKind.wrap .u8 ((BitVec.ofInt IntKind.u8.bits 224 ||| BitVec.ofInt IntKind.u8.bits ((x.val:Nat):Int)).toNat:Int)=((UInt8.ofNat (224+x.val)).toNat:Int):=by decide +kernel
theorem leadV:∀ x:Fin 8,IntKind.wrap .u8 ((BitVec.ofInt IntKind.u8.bits 240 ||| BitVec.ofInt IntKind.u8.bits ((x.val:Nat):Int)).toNat:Int)=((UInt8.ofNat (240+x.val)).toNat:Int):=by decide +kernel
theorem contT:∀ x:Fin 256,IntKind.wrap .u8 ((BitVec.ofInt IntKind.u8.bits 128 ||| BitVec.ofInt IntKind.u8.bits (IntKind.wrap .u8 ((BitVec.ofInt IntKind.u8.bits ((x.val:Nat):Int) &&& BitVec.ofInt IntKind.u8.bits 63).toNat:Int))).toNat:Int)=((UInt8.ofNat (128+x.val % 64)).toNat:Int):=by decide +kernel
theorem lead2 {m:Nat} (h:m<32):IntKind.wrap .u8 ((BitVec.ofInt IntKind.u8.bits 192 ||| BitVec.ofInt IntKind.u8.bits (IntKind.wrap .u8 (m:Int))).toNat:Int)=((UInt8.ofNat (192+m)).toNat:Int):=by
 rw [wr8 m,Nat.mod_eq_of_lt (show m<256 by omega)];exact leadT ⟨m,h⟩
theorem lead3 {m:Nat} (h:m<16):IntKind.wrap .u8 ((BitVec.ofInt IntKind.u8.bits 224 ||| BitVec.ofInt IntKind.u8.bits (IntKind.wrap .u8 (m:Int))).toNat:Int)=((UInt8.ofNat (224+m)).toNat:Int):=by
 rw [wr8 m,Nat.mod_eq_of_lt (show m<256 by omega)];exact leadU ⟨m,h⟩
theorem lead4 {m:Nat} (h:m<8):IntKind.wrap .u8 ((BitVec.ofInt IntKind.u8.bits 240 ||| BitVec.ofInt IntKind.u8.bits (IntKind.wrap .u8 (m:Int))).toNat:Int)=((UInt8.ofNat (240+m)).toNat:Int):=by
 rw [wr8 m,Nat.mod_eq_of_lt (show m<256 by omega)];exact leadV ⟨m,h⟩
theorem cont (m:Nat):IntKind.wrap .u8 ((BitVec.ofInt IntKind.u8.bits 128 ||| BitVec.ofInt IntKind.u8.bits (IntKind.wrap .u8 ((BitVec.ofInt IntKind.u8.bits (IntKind.wrap .u8 (m:Int)) &&& BitVec.ofInt IntKind.u8.bits 63).toNat:Int))).toNat:Int)=((UInt8.ofNat (128+m % 64)).toNat:Int):=by
 rw [wr8 m]
 have:=contT ⟨m % 256,Nat.mod_lt _ (by decide)⟩
 simp only at this
 rw [this,Nat.mod_mod_of_dvd m (by decide)]
theorem appNon (n:Nat) (h0:127<n) (h1:n≤1114111) (h2:¬ (55296≤n∧n≤57343)) (acc:List UInt8) (H:Heap) (o:Own) (ho:Owned H o acc.length 1) (hb:acc.length≤Lim) :
  Gives Tryz.prog 356 [.sl o 1 (bytesOf acc),.int .i32 n] H o 1 (bytesOf (acc++encM n)):=by
 refine ACalls.goO ir356 ck356 (Nat.le_refl _) fun KP Q hQ hP=>?_
 have e1:=wr32 (n:=n) (by omega)
 have hal:=bytesOf_len acc
 simp only [Lim] at hb
 have ho':Owned H o (bytesOf acc).length 1:=by rw [hal];exact ho
 have fin:∀ (e:List UInt8) o' H',encM n=e→OwnS H o H' o' ((bytesOf acc).length+e.length) 1→OwnR H o 1 (bytesOf (acc++encM n)) (.sl o' 1 (bytesOf acc++bytesOf e)) H':=fun e o' H' he hs=>by
  rw [he];exact ⟨o',by rw [bytesOf_app],by rw [bytesOf_len,List.length_append];rw [hal] at hs;exact hs⟩
 by_cases h3:n≤2047
 ·have g1:((n:Int)≤2047)=True:=eq_true (by omega)
  simp (disch:=first|omega|assumption) only [ir356,e1,g1,steps,st2,pev,rev,oev,optr,ibin,sbin,ishf,bound,mmAll,mm2,mk,mkArgs,AV.cells,AV.boxable,AV.one,AV.strip1,fillA,fillS,Nat.reduceEqDiff,reduceCtorEq,↓reduceIte,Nat.reduceAdd,Int.reduceNeg,Nat.reduceLeDiff,Int.reduceToNat,Int.reduceEq,Int.reduceLT,Int.reduceLE,Int.reduceAdd,Io,Im,If,Il,Jt,Jf]
  simp only [fd6,lead2 (show n / 64<32 by omega),cont]
  refine goP_ownS ho' (by simp [hal];omega) (by simp [hal,maxLen];omega) fun o' H' hs=>?_
  simp (disch:=first|omega|assumption) only [steps,st2,pev,rev,oev,optr,ibin,sbin,ishf,bound,mmAll,mm2,mk,mkArgs,AV.cells,AV.boxable,AV.one,AV.strip1,fillA,fillS,Nat.reduceEqDiff,reduceCtorEq,↓reduceIte,Nat.reduceAdd,Int.reduceNeg,Nat.reduceLeDiff,Int.reduceToNat,Int.reduceEq,Int.reduceLT,Int.reduceLE,Int.reduceAdd,Io,Im,If,Il,Jt,Jf]
  exact hQ _ _ H' H' [_] nofun rfl (Low.refl _) (fin [_,_] o' H' (by unfold encM;rw [if_neg (by omega),if_pos h3]) hs)
 ·have g1:¬ ((n:Int)≤2047):=by omega
  by_cases h4:n≤65535
  ·by_cases h5:n<55296
   ·have g2:((n:Int)<55296)=True:=eq_true (by omega)
    simp (disch:=first|omega|assumption) only [ir356,e1,g1,g2,steps,st2,pev,rev,oev,optr,ibin,sbin,ishf,bound,mmAll,mm2,mk,mkArgs,AV.cells,AV.boxable,AV.one,AV.strip1,fillA,fillS,Nat.reduceEqDiff,reduceCtorEq,↓reduceIte,Nat.reduceAdd,Int.reduceNeg,Nat.reduceLeDiff,Int.reduceToNat,Int.reduceEq,Int.reduceLT,Int.reduceLE,Int.reduceAdd,Io,Im,If,Il,Jt,Jf]
    simp only [fd6,fd12,lead3 (show n / 4096<16 by omega),cont]
    refine goP_ownS ho' (by simp [hal];omega) (by simp [hal,maxLen];omega) fun o' H' hs=>?_
    simp (disch:=first|omega|assumption) only [steps,st2,pev,rev,oev,optr,ibin,sbin,ishf,bound,mmAll,mm2,mk,mkArgs,AV.cells,AV.boxable,AV.one,AV.strip1,fillA,fillS,Nat.reduceEqDiff,reduceCtorEq,↓reduceIte,Nat.reduceAdd,Int.reduceNeg,Nat.reduceLeDiff,Int.reduceToNat,Int.reduceEq,Int.reduceLT,Int.reduceLE,Int.reduceAdd,Io,Im,If,Il,Jt,Jf]
    exact hQ _ _ H' H' [_] nofun rfl (Low.refl _) (fin [_,_,_] o' H' (by unfold encM;rw [if_neg (by omega),if_neg h3,if_pos h4]) hs)
   ·have g2:¬ ((n:Int)<55296):=by omega
    have g3:((57343:Int)<n)=True:=eq_true (by omega)
    have g4:((n:Int)≤65535)=True:=eq_true (by omega)
    simp (disch:=first|omega|assumption) only [ir356,e1,g1,g2,g3,g4,steps,st2,pev,rev,oev,optr,ibin,sbin,ishf,bound,mmAll,mm2,mk,mkArgs,AV.cells,AV.boxable,AV.one,AV.strip1,fillA,fillS,Nat.reduceEqDiff,reduceCtorEq,↓reduceIte,Nat.reduceAdd,Int.reduceNeg,Nat.reduceLeDiff,Int.reduceToNat,Int.reduceEq,Int.reduceLT,Int.reduceLE,Int.reduceAdd,Io,Im,If,Il,Jt,Jf]
    simp only [fd6,fd12,lead3 (show n / 4096<16 by omega),cont]
    refine goP_ownS ho' (by simp [hal];omega) (by simp [hal,maxLen];omega) fun o' H' hs=>?_
    simp (disch:=first|omega|assumption) only [steps,st2,pev,rev,oev,optr,ibin,sbin,ishf,bound,mmAll,mm2,mk,mkArgs,AV.cells,AV.boxable,AV.one,AV.strip1,fillA,fillS,Nat.reduceEqDiff,reduceCtorEq,↓reduceIte,Nat.reduceAdd,Int.reduceNeg,Nat.reduceLeDiff,Int.reduceToNat,Int.reduceEq,Int.reduceLT,Int.reduceLE,Int.reduceAdd,Io,Im,If,Il,Jt,Jf]
    exact hQ _ _ H' H' [_] nofun rfl (Low.refl _) (fin [_,_,_] o' H' (by unfold encM;rw [if_neg (by omega),if_neg h3,if_pos h4]) hs)
  ·have g2:¬ ((n:Int)<55296):=by omega
   have g3:((57343:Int)<n)=True:=eq_true (by omega)
   have g4:¬ ((n:Int)≤65535):=by omega
   have g5:((65535:Int)<n)=True:=eq_true (by omega)
   have g6:((n:Int)≤1114111)=True:=eq_true (by omega)
   simp (disch:=first|omega|assumption) only [ir356,e1,g1,g2,g3,g4,g5,g6,steps,st2,pev,rev,oev,optr,ibin,sbin,ishf,bound,mmAll,mm2,mk,mkArgs,AV.cells,AV.boxable,AV.one,AV.strip1,fillA,fillS,Nat.reduceEqDiff,reduceCtorEq,↓reduceIte,Nat.reduceAdd,Int.reduceNeg,Nat.reduceLeDiff,Int.reduceToNat,Int.reduceEq,Int.reduceLT,Int.reduceLE,Int.reduceAdd,Io,Im,If,Il,Jt,Jf]
   simp only [fd6,fd12,fd18,lead4 (show n / 262144<8 by omega),cont]
   refine goP_ownS ho' (by simp [hal];omega) (by simp [hal,maxLen];omega) fun o' H' hs=>?_
   simp (disch:=first|omega|assumption) only [steps,st2,pev,rev,oev,optr,ibin,sbin,ishf,bound,mmAll,mm2,mk,mkArgs,AV.cells,AV.boxable,AV.one,AV.strip1,fillA,fillS,Nat.reduceEqDiff,reduceCtorEq,↓reduceIte,Nat.reduceAdd,Int.reduceNeg,Nat.reduceLeDiff,Int.reduceToNat,Int.reduceEq,Int.reduceLT,Int.reduceLE,Int.reduceAdd,Io,Im,If,Il,Jt,Jf]
   exact hQ _ _ H' H' [_] nofun rfl (Low.refl _) (fin [_,_,_,_] o' H' (by unfold encM;rw [if_neg (by omega),if_neg h3,if_neg h4]) hs)
theorem appRune (n:Nat) (h1:n≤1114111) (h2:¬ (55296≤n∧n≤57343)) (acc:List UInt8) (H:Heap) (o:Own) (ho:Owned H o acc.length 1) (hb:acc.length≤Lim) :
  Gives Tryz.prog 346 [.sl o 1 (bytesOf acc),.int .i32 n] H o 1 (bytesOf (acc++encM n)):=by
 refine ACalls.goO ir346 ck346 (Nat.le_refl _) fun KP Q hQ hP=>?_
 have e1:=wr32 (n:=n) (by omega)
 have hal:=bytesOf_len acc
 by_cases h3:n≤127
 ·have g1:((n:Int)≤127)=True:=eq_true (by omega)
  have g2:IntKind.wrap .u8 (n:Int)=((UInt8.ofNat n).toNat:Int):=by rw [wr8];simp
  simp only [Lim] at hb
  simp (disch:=first|omega|assumption) only [ir346,e1,g1,g2,go_sem,↓reduceIte]
  refine goP_ownS (by rw [hal];exact ho) (by simp [hal];omega) (by simp [hal,maxLen];omega) fun o' H' hs=>?_
  simp (disch:=first|omega|assumption) only [go_sem,↓reduceIte]
  refine hQ _ _ H' H' [_] nofun rfl (Low.refl _) ⟨o',?_,?_⟩
  ·have:encM n=[UInt8.ofNat n]:=by unfold encM;rw [if_pos h3]
   rw [this];exact congrArg _ (bytesOf_one _ _)
  ·have:encM n=[UInt8.ofNat n]:=by unfold encM;rw [if_pos h3]
   rw [this,bytesOf_len];simpa [hal] using hs
 ·have g1:¬ ((n:Int)≤127):=by omega
  simp (disch:=first|omega|assumption) only [ir346,e1,g1,go_sem,↓reduceIte]
  refine goK_gives (appNon n (by omega) h1 h2 acc H o ho hb) fun o' H' hs=>?_
  simp (disch:=first|omega|assumption) only [go_sem,↓reduceIte]
  exact hQ _ _ H' H' [_] nofun rfl (Low.refl _) ⟨o',rfl,hs⟩
end Go.Proofs.YticbbfbpeimkbaaGreatDoor
namespace Go.Proofs.YticbbfbpeimkbaaGreatDoor
open Go.Ab
theorem or32T:∀ x:Fin 256,IntKind.wrap .u8 ((BitVec.ofInt IntKind.u8.bits ((x.val:Nat):Int) ||| BitVec.ofInt IntKind.u8.bits 32).toNat:Int)=((UInt8.ofNat x.val ||| 32).toNat:Int):=by decide +kernel
theorem or32 (c:UInt8):IntKind.wrap .u8 ((BitVec.ofInt IntKind.u8.bits (c.toNat:Int) ||| BitVec.ofInt IntKind.u8.bits 32).toNat:Int)=((c ||| 32).toNat:Int):=by
 have:=or32T ⟨c.toNat,c.toNat_lt⟩
 simpa using this
theorem idx_le (l:List UInt8) (c:UInt8):-1≤Lib.indexByte l c∧Lib.indexByte l c<l.length:=by
 induction l with
 | nil=>simp [Lib.indexByte]
 | cons x r ih =>
  simp only [Lib.indexByte,List.length_cons]
  split
  ·omega
  ·split
   ·omega
   ·omega
theorem unitC (s:List UInt8) (hs:s.length≤Lim):Pure Tryz.prog 326 [.str s] (.tup [.int .i64 ((unitM s).getD 0:Nat),.bool (unitM s).isSome]):=by
 refine Pure.go ir326 ck326 (Nat.le_refl _) fun KP Q hQ=>?_
 simp only [Lim] at hs
 by_cases h4:s.length<4
 ·have g1:((s.length:Int)<4)=True:=eq_true (by omega)
  have:unitM s=none:=by
   cases h:unitM s with
   | none=>rfl
   | some u=>have:=unitG_len _ _ _ _ h;omega
  simp (disch:=first|omega|assumption) only [ir326,g1,steps,st2,pev,rev,oev,optr,ibin,sbin,ishf,bound,mmAll,mm2,mk,mkArgs,AV.cells,AV.boxable,AV.one,AV.strip1,fillA,fillS,Nat.reduceEqDiff,reduceCtorEq,↓reduceIte,Nat.reduceAdd,Int.reduceNeg,Nat.reduceLeDiff,Int.reduceToNat,Int.reduceEq,Int.reduceLT,Int.reduceLE,Int.reduceAdd,Io,Im,If,Il,Jt,Jf]
  exact hQ _ _ _ _ nofun rfl (by simp [tupOf,envOf,AV.strip,AV.strip1,this])
 ·have g1:¬ ((s.length:Int)<4):=by omega
  obtain ⟨l,r,hl,hsr⟩:∃ l r:List UInt8,l.length=4∧s=l++r:=⟨s.take 4,s.drop 4,by simp;omega,by simp⟩
  have hl':(l.length:Int)=4:=by omega
  have key:∀ (a b:List UInt8) (u:Nat),l=a++b→unitG b.length (b++r) u=unitG (4-a.length) (s.drop a.length) u:=fun a b u h=>by
   have:a.length+b.length=4:=by rw [← hl,h];simp
   rw [hsr,h,List.append_assoc,List.drop_left];congr 1;omega
  simp (disch:=first|omega|assumption) only [ir326,g1,steps,st2,pev,rev,oev,optr,ibin,sbin,ishf,bound,mmAll,mm2,mk,mkArgs,AV.cells,AV.boxable,AV.one,AV.strip1,fillA,fillS,Nat.reduceEqDiff,reduceCtorEq,↓reduceIte,Nat.reduceAdd,Int.reduceNeg,Nat.reduceLeDiff,Int.reduceToNat,Int.reduceEq,Int.reduceLT,Int.reduceLE,Int.reduceAdd,Io,Im,If,Il,Jt,Jf]
  refine goL_range l 10 (fun u:Nat=>[(4,.int .i64 u)]) (fun done rest u H=>unitG rest.length (rest++r) u=unitM s∧u<16 ^ done.length∧H=Heap.emp) 0 (by simp (disch:=first|omega|assumption) only [steps,st2,pev,rev,oev,optr,ibin,sbin,ishf,bound,mmAll,mm2,mk,mkArgs,AV.cells,AV.boxable,AV.one,AV.strip1,fillA,fillS,Nat.reduceEqDiff,reduceCtorEq,↓reduceIte,Nat.reduceAdd,Int.reduceNeg,Nat.reduceLeDiff,Int.reduceToNat,Int.reduceEq,Int.reduceLT,Int.reduceLE,Int.reduceAdd,Io,Im,If,Il,Jt,Jf]) ⟨by rw [hl,← hsr];rfl,by simp,rfl⟩ ?_ ?_
  ·rintro u H J ⟨hu,_,rfl⟩ hlt
   simp only [List.length_nil,unitG] at hu
   simp (disch:=first|omega|assumption) only [hl',steps,st2,pev,rev,oev,optr,ibin,sbin,ishf,bound,mmAll,mm2,mk,mkArgs,AV.cells,AV.boxable,AV.one,AV.strip1,fillA,fillS,Nat.reduceEqDiff,reduceCtorEq,↓reduceIte,Nat.reduceAdd,Int.reduceNeg,Nat.reduceLeDiff,Int.reduceToNat,Int.reduceEq,Int.reduceLT,Int.reduceLE,Int.reduceAdd,Io,Im,If,Il,Jt,Jf]
   exact hQ _ _ _ _ nofun rfl (by simp [tupOf,envOf,AV.strip,AV.strip1,← hu])
  ·rintro done c rest u H J hd hlt hlt2 ⟨hu,hb,rfl⟩ hJ
   have hd4:done.length<4:=by omega
   have hlt':(done.length:Int)<4:=by omega
   have hlt3:(done.length:Int)<s.length:=by omega
   have hg:s.getD done.length 0=c:=by rw [hsr,hd];simp
   have hpow:16 ^ done.length≤4096:=by
    have:done.length≤3:=by omega
    calc 16 ^ done.length≤16 ^ 3:=Nat.pow_le_pow_right (by decide) this
     _=4096:=rfl
   simp only [List.length_cons,List.cons_append,unitG] at hu
   have hidx:=idx_le hexL (c ||| 32)
   have hc:=c.toNat_lt
   simp only [hexL,List.length_cons,List.length_nil] at hidx
   simp (disch:=first|omega|assumption) only [hlt',hlt3,hg,or32,steps,st2,pev,rev,oev,optr,ibin,sbin,ishf,bound,mmAll,mm2,mk,mkArgs,AV.cells,AV.boxable,AV.one,AV.strip1,fillA,fillS,Nat.reduceEqDiff,reduceCtorEq,↓reduceIte,Nat.reduceAdd,Int.reduceNeg,Nat.reduceLeDiff,Int.reduceToNat,Int.reduceEq,Int.reduceLT,Int.reduceLE,Int.reduceAdd,Io,Im,If,Il,Jt,Jf]
   refine goK_pure (idxByteC hexL (c ||| 32)) ?_
   have no:hexD c=none→(unitM s)=none:=fun e=>by rw [e] at hu;exact hu.symm
   by_cases n1:Lib.indexByte hexL (c ||| 32)<0
   ·have e:hexD c=none:=by unfold hexD;rw [if_pos (.inl n1)]
    simp (disch:=first|omega|assumption) only [n1,steps,st2,pev,rev,oev,optr,ibin,sbin,ishf,bound,mmAll,mm2,mk,mkArgs,AV.cells,AV.boxable,AV.one,AV.strip1,fillA,fillS,Nat.reduceEqDiff,reduceCtorEq,↓reduceIte,Nat.reduceAdd,Int.reduceNeg,Nat.reduceLeDiff,Int.reduceToNat,Int.reduceEq,Int.reduceLT,Int.reduceLE,Int.reduceAdd,Io,Im,If,Il,Jt,Jf]
    exact hQ _ _ _ _ nofun rfl (by simp [tupOf,envOf,AV.strip,AV.strip1,no e])
   obtain ⟨k,hk⟩:∃ k:Nat,Lib.indexByte hexL (c ||| 32)=(k:Int):=⟨(Lib.indexByte hexL (c ||| 32)).toNat,by omega⟩
   have hk16:k<16:=by rw [show Lib.indexByte [48,49,50,51,52,53,54,55,56,57,97,98,99,100,101,102] (c ||| 32)=(k:Int) from hk] at hidx;omega
   have hu4:u<4096:=by omega
   have hkn:¬ ((k:Int)<0):=by omega
   have hnext:hexD c=some k→unitG rest.length (rest++r) (16*u+k)=unitM s∧16*u+k<16 ^ (done++[c]).length∧Heap.emp=Heap.emp:=fun e=>by
    rw [e] at hu
    refine ⟨hu,?_,rfl⟩
    rw [List.length_append,List.length_cons,List.length_nil,Nat.pow_succ];omega
   have hpush:((16*u+k:Nat):Int)=16*(u:Int)+k:=by omega
   by_cases n2:c.toNat<48
   ·have e:hexD c=none:=by unfold hexD;rw [if_pos (.inr (.inl n2))]
    have n2':((c.toNat:Int)<48)=True:=eq_true (by omega)
    simp (disch:=first|omega|assumption) only [hk,hkn,n2',hlt3,hg,steps,st2,pev,rev,oev,optr,ibin,sbin,ishf,bound,mmAll,mm2,mk,mkArgs,AV.cells,AV.boxable,AV.one,AV.strip1,fillA,fillS,Nat.reduceEqDiff,reduceCtorEq,↓reduceIte,Nat.reduceAdd,Int.reduceNeg,Nat.reduceLeDiff,Int.reduceToNat,Int.reduceEq,Int.reduceLT,Int.reduceLE,Int.reduceAdd,Io,Im,If,Il,Jt,Jf]
    exact hQ _ _ _ _ nofun rfl (by simp [tupOf,envOf,AV.strip,AV.strip1,no e])
   have n2':¬ ((c.toNat:Int)<48):=by omega
   by_cases n3:57<c.toNat
   ·have n3':((57:Int)<c.toNat)=True:=eq_true (by omega)
    by_cases n4:c.toNat<65
    ·have e:hexD c=none:=by unfold hexD;rw [if_pos (.inr (.inr ⟨n3,n4⟩))]
     have n4':((c.toNat:Int)<65)=True:=eq_true (by omega)
     simp (disch:=first|omega|assumption) only [hk,hkn,n2',n3',n4',hlt3,hg,steps,st2,pev,rev,oev,optr,ibin,sbin,ishf,bound,mmAll,mm2,mk,mkArgs,AV.cells,AV.boxable,AV.one,AV.strip1,fillA,fillS,Nat.reduceEqDiff,reduceCtorEq,↓reduceIte,Nat.reduceAdd,Int.reduceNeg,Nat.reduceLeDiff,Int.reduceToNat,Int.reduceEq,Int.reduceLT,Int.reduceLE,Int.reduceAdd,Io,Im,If,Il,Jt,Jf]
     exact hQ _ _ _ _ nofun rfl (by simp [tupOf,envOf,AV.strip,AV.strip1,no e])
    ·have e:hexD c=some k:=by unfold hexD;rw [if_neg (by omega),hk];rfl
     have n4':¬ ((c.toNat:Int)<65):=by omega
     simp (disch:=first|omega|assumption) only [hk,hkn,n2',n3',n4',hlt3,hg,wrap64,steps,st2,pev,rev,oev,optr,ibin,sbin,ishf,bound,mmAll,mm2,mk,mkArgs,AV.cells,AV.boxable,AV.one,AV.strip1,fillA,fillS,Nat.reduceEqDiff,reduceCtorEq,↓reduceIte,Nat.reduceAdd,Int.reduceNeg,Nat.reduceLeDiff,Int.reduceToNat,Int.reduceEq,Int.reduceLT,Int.reduceLE,Int.reduceAdd,Io,Im,If,Il,Jt,Jf]
     refine goJ (hJ (16*u+k) _ (hnext e)) (by simp (disch:=first|omega|assumption) only [hpush,steps,st2,pev,rev,oev,optr,ibin,sbin,ishf,bound,mmAll,mm2,mk,mkArgs,AV.cells,AV.boxable,AV.one,AV.strip1,fillA,fillS,Nat.reduceEqDiff,reduceCtorEq,↓reduceIte,Nat.reduceAdd,Int.reduceNeg,Nat.reduceLeDiff,Int.reduceToNat,Int.reduceEq,Int.reduceLT,Int.reduceLE,Int.reduceAdd,Io,Im,If,Il,Jt,Jf])
   ·have e:hexD c=some k:=by unfold hexD;rw [if_neg (by omega),hk];rfl
    have n3':¬ ((57:Int)<c.toNat):=by omega
    simp (disch:=first|omega|assumption) only [hk,hkn,n2',n3',hlt3,hg,wrap64,steps,st2,pev,rev,oev,optr,ibin,sbin,ishf,bound,mmAll,mm2,mk,mkArgs,AV.cells,AV.boxable,AV.one,AV.strip1,fillA,fillS,Nat.reduceEqDiff,reduceCtorEq,↓reduceIte,Nat.reduceAdd,Int.reduceNeg,Nat.reduceLeDiff,Int.reduceToNat,Int.reduceEq,Int.reduceLT,Int.reduceLE,Int.reduceAdd,Io,Im,If,Il,Jt,Jf]
    refine goJ (hJ (16*u+k) _ (hnext e)) (by simp (disch:=first|omega|assumption) only [hpush,steps,st2,pev,rev,oev,optr,ibin,sbin,ishf,bound,mmAll,mm2,mk,mkArgs,AV.cells,AV.boxable,AV.one,AV.strip1,fillA,fillS,Nat.reduceEqDiff,reduceCtorEq,↓reduceIte,Nat.reduceAdd,Int.reduceNeg,Nat.reduceLeDiff,Int.reduceToNat,Int.reduceEq,Int.reduceLT,Int.reduceLE,Int.reduceAdd,Io,Im,If,Il,Jt,Jf])
def cU (l:List Nat):List (List AV):=l.map fun (n:Nat)=>[AV.int .i64 (n:Int)]
theorem cU_len (l:List Nat):(cU l).length=l.length:=by simp [cU]
theorem cU_strip (l:List Nat):(cU l).map (·.map AV.strip1)=cU l:=by simp [cU,AV.strip1]
theorem joinC (us:List Nat) (hl:us.length≤68719476736):Pure Tryz.prog 327 [.sl .no 1 (cU us)] (.tup [.str ((joinM us).getD []),.bool (joinM us).isSome]):=by
 refine Pure.go ir327 ck327 (Nat.le_refl _) fun KP Q hQ=>?_
 have hll:=cU_len us
 simp (disch:=first|omega|assumption) only [ir327,go_sem,↓reduceIte]
 refine goL_st (fun s:List Nat × List Nat × Own × List UInt8=>[(4,.sl s.2.2.1 1 (bytesOf s.2.2.2)),(5,.int .i64 s.1.length)]) (fun s H=>us=s.1++s.2.1∧joinM us=(joinM s.2.1).map (s.2.2.2++·)∧s.2.2.2.length≤2*s.1.length*2∧Owned H s.2.2.1 s.2.2.2.length 1) (fun s=>s.2.1.length) ([],us,.nil,[]) (by simp (disch:=first|omega|assumption) only [go_sem,↓reduceIte];rfl) ⟨rfl,by cases joinM us<;>rfl,by simp,rfl⟩ ?_
 rintro ⟨done,rest,o,out⟩ H J ⟨hd,hj,hle,ho⟩ hJ
 simp only at hd hj hle ho
 have hdl:done.length+rest.length=us.length:=by rw [hd];simp
 cases rest with
 | nil =>
  simp only [List.append_nil] at hd
  have hlt:¬ ((done.length:Int)<us.length):=by rw [hd];omega
  simp (disch:=first|omega|assumption) only [hll,hlt,go_sem,↓reduceIte]
  simp only [joinM,Option.map_some,List.append_nil] at hj
  simp (disch:=first|omega|assumption) only [byts_of,go_sem,↓reduceIte]
  exact hQ _ _ _ _ nofun rfl (by simp [tupOf,envOf,AV.strip,AV.strip1,hj])
 | cons u r =>
  have hlt:((done.length:Int)<us.length):=by simp at hdl;omega
  have hg:(cU us).getD done.length []=[.int .i64 u]:=by rw [hd];simp [cU]
  have hu0:¬ ((u:Int)<0):=by omega
  have hrl:r.length+1+done.length=us.length:=by simp at hdl;omega
  have none_of:joinM (u :: r)=none→joinM us=none:=fun e=>by rw [hj,e];rfl
  have hmax:maxLen=9223372036854775807:=rfl
  by_cases a1:65535<u
  ·have e:=none_of (by rw [joinM.eq_def];simp only;rw [if_pos (.inl a1)])
   have a1':((65535:Int)<u)=True:=eq_true (by omega)
   simp (disch:=first|omega|assumption) only [hll,hlt,hg,hu0,a1',go_sem,↓reduceIte]
   exact hQ _ _ _ _ nofun rfl (by simp [tupOf,envOf,AV.strip,AV.strip1,e])
  have a1':¬ ((65535:Int)<u):=by omega
  by_cases a2:56320≤u∧u≤57343
  ·have e:=none_of (by rw [joinM.eq_def];simp only;rw [if_pos (.inr a2)])
   have a2':((56320:Int)≤u)=True:=eq_true (by omega)
   have a3':((u:Int)≤57343)=True:=eq_true (by omega)
   simp (disch:=first|omega|assumption) only [hll,hlt,hg,hu0,a1',a2',a3',go_sem,↓reduceIte]
   exact hQ _ _ _ _ nofun rfl (by simp [tupOf,envOf,AV.strip,AV.strip1,e])
  by_cases a3:55296≤u∧u<56320
  ·have b1:¬ ((56320:Int)≤u):=by omega
   have b2:((55296:Int)≤u)=True:=eq_true (by omega)
   have b3:((u:Int)<56320)=True:=eq_true (by omega)
   cases r with
   | nil =>
    have e:=none_of (by rw [joinM.eq_def];simp only;rw [if_neg (by omega),if_pos a3])
    have b4:((done.length:Int)+1=us.length)=True:=eq_true (by simp at hrl;omega)
    simp (disch:=first|omega|assumption) only [hll,hlt,hg,hu0,a1',b1,b2,b3,wrap64,b4,go_sem,↓reduceIte]
    exact hQ _ _ _ _ nofun rfl (by simp [tupOf,envOf,AV.strip,AV.strip1,e])
   | cons v r =>
    have b4:¬ ((done.length:Int)+1=us.length):=by simp at hrl;omega
    have b5:((done.length:Int)+1<us.length):=by simp at hrl;omega
    have b6:((done.length:Int)+1).toNat=done.length+1:=by omega
    have hg2:(cU us).getD (done.length+1) []=[.int .i64 v]:=by rw [hd];simp [cU]
    by_cases c1:v<56320
    ·have e:=none_of (by rw [joinM.eq_def];simp only;rw [if_neg (by omega),if_pos a3,if_pos (.inl c1)])
     have c1':((v:Int)<56320)=True:=eq_true (by omega)
     simp (disch:=first|omega|assumption) only [hll,hlt,hg,hu0,a1',b1,b2,b3,wrap64,b4,b5,b6,hg2,c1',go_sem,↓reduceIte]
     exact hQ _ _ _ _ nofun rfl (by simp [tupOf,envOf,AV.strip,AV.strip1,e])
    have c1':¬ ((v:Int)<56320):=by omega
    by_cases c2:57343<v
    ·have e:=none_of (by rw [joinM.eq_def];simp only;rw [if_neg (by omega),if_pos a3,if_pos (.inr c2)])
     have c2':((57343:Int)<v)=True:=eq_true (by omega)
     simp (disch:=first|omega|assumption) only [hll,hlt,hg,hu0,a1',b1,b2,b3,wrap64,b4,b5,b6,hg2,c1',c2',go_sem,↓reduceIte]
     exact hQ _ _ _ _ nofun rfl (by simp [tupOf,envOf,AV.strip,AV.strip1,e])
    have c2':¬ ((57343:Int)<v):=by omega
    have ej:joinM (u :: v :: r)=(joinM r).map (encM (65536+1024*(u-55296)+(v-56320))++·):=by rw [joinM.eq_def];simp only;rw [if_neg (by omega),if_pos a3,if_neg (by omega)]
    obtain ⟨m,hm⟩:∃ m,65536+1024*(u-55296)+(v-56320)=m:=⟨_,rfl⟩
    rw [hm] at ej
    have hm2:(65536+1024*((u:Int)-55296)+v-56320)=(m:Int):=by omega
    have hm3:=(encM_len m).1
    simp (disch:=first|omega|assumption) only [hll,hlt,hg,hu0,a1',b1,b2,b3,wrap64,b4,b5,b6,hg2,c1',c2',hm2,wri32 (show m<2147483648 by omega),go_sem,↓reduceIte]
    refine goK_gives (appRune m (by omega) (by omega) out _ o ho (by simp only [Lim];omega)) fun o' H' hs=>?_
    simp (disch:=first|omega|assumption) only [wrap64,go_sem,↓reduceIte]
    have hown:=hs.own
    rw [bytesOf_len] at hown
    have e5:(((done++[u,v]).length:Nat):Int)=(done.length:Int)+1+1:=by simp;omega
    refine goJ (hJ (done++[u,v],r,o',out++encM m) _ (by simp;omega) ⟨by simp [hd],?_,?_,hown⟩) (by simp (disch:=first|omega|assumption) only [e5,go_sem,↓reduceIte])
    ·simp only [hj,ej];cases joinM r<;>simp
    ·simp;omega
  have ej:joinM (u :: r)=(joinM r).map (encM u++·):=by
   rw [joinM.eq_def];simp only;rw [if_neg (by omega),if_neg a3]
  have hm3:=(encM_len u).1
  have e5:(((done++[u]).length:Nat):Int)=(done.length:Int)+1:=by simp
  by_cases h:u<55296
  ·have b1:¬ ((56320:Int)≤u):=by omega
   have b2:¬ ((55296:Int)≤u):=by omega
   simp (disch:=first|omega|assumption) only [hll,hlt,hg,hu0,a1',b1,b2,wri32 (show u<2147483648 by omega),go_sem,↓reduceIte]
   refine goK_gives (appRune u (by omega) (by omega) out _ o ho (by simp only [Lim];omega)) fun o' H' hs=>?_
   simp (disch:=first|omega|assumption) only [wrap64,go_sem,↓reduceIte]
   have hown:=hs.own
   rw [bytesOf_len] at hown
   refine goJ (hJ (done++[u],r,o',out++encM u) _ (by simp) ⟨by simp [hd],?_,?_,hown⟩) (by simp (disch:=first|omega|assumption) only [e5,go_sem,↓reduceIte])
   ·simp only [hj,ej];cases joinM r<;>simp
   ·simp;omega
  ·have b1:((56320:Int)≤u)=True:=eq_true (by omega)
   have b2:¬ ((u:Int)≤57343):=by omega
   have b3:((55296:Int)≤u)=True:=eq_true (by omega)
   have b4:¬ ((u:Int)<56320):=by omega
   simp (disch:=first|omega|assumption) only [hll,hlt,hg,hu0,a1',b1,b2,b3,b4,wri32 (show u<2147483648 by omega),go_sem,↓reduceIte]
   refine goK_gives (appRune u (by omega) (by omega) out _ o ho (by simp only [Lim];omega)) fun o' H' hs=>?_
   simp (disch:=first|omega|assumption) only [wrap64,go_sem,↓reduceIte]
   have hown:=hs.own
   rw [bytesOf_len] at hown
   refine goJ (hJ (done++[u],r,o',out++encM u) _ (by simp) ⟨by simp [hd],?_,?_,hown⟩) (by simp (disch:=first|omega|assumption) only [e5,go_sem,↓reduceIte])
   ·simp only [hj,ej];cases joinM r<;>simp
   ·simp;omega
end Go.Proofs.YticbbfbpeimkbaaGreatDoor
namespace Go.Proofs.YticbbfbpeimkbaaGreatDoor
open Go.Ab
abbrev LimQ:Nat:=68719476736
theorem upd_upd (H:Heap) (b:Nat) (x y:AObj):(H.upd b x).upd b y=H.upd b y:=by
 funext c;by_cases e:c=b<;>simp [Heap.upd,e]
theorem retStrip {P:Program} {f:FuncId} {args:List AV} {H:Heap} {R RP:AV→Heap→Prop} (h:ACalls P f args H (fun e H'=>match e with|.ret v=>R v.strip H'|.pan v=>RP v H')) :
  ACalls P f args H (fun e H'=>match e with|.ret v=>R v H'|.pan v=>RP v H'):=by
 intro γ w vs ht hs hv
 refine (h γ w vs ht hs hv).mono fun e w' ⟨γ',H',r,h1,h2,h3,h4,h5⟩=>?_
 cases r with
 | ret v =>
  cases e with
  | returned u=>exact ⟨γ',H',.ret v.strip,h1,h2,h3,Rep.strip h4,h5⟩
  | panicked ch=>exact h4.elim
  | outgrown=>exact h4.elim
 | pan v=>exact ⟨γ',H',.pan v,h1,h2,h3,h4,h5⟩
theorem own_ne {H:Heap} {c b d n sz:Nat} {cs:List AV} (h:Owned H (.tip b d) n sz) (hc:H c=some (.cells cs)):b≠c:=fun e=>by
 subst e
 have:H b=some (.tip (d+n) sz):=h
 rw [hc] at this;cases this
theorem own_keep {H H':Heap} {o:Own} {n sz c:Nat} {cs:List AV} (h:Owned H o n sz) (hc:H c=some (.cells cs)) (hk:Kept H o H'):H' c=some (.cells cs) :=
 hk c _ hc fun d e=>by subst e;exact own_ne h hc rfl
theorem own_upd {H:Heap} {o:Own} {n sz c:Nat} {cs:List AV} {x:AObj} (h:Owned H o n sz) (hc:H c=some (.cells cs)):Owned (H.upd c x) o n sz:=by
 cases o with
 | tip b d=>have:=own_ne h hc;show (H.upd c x) b=_;rw [upd_ne this];exact h
 | no=>exact h
 | nil=>exact h
 | full=>exact h
structure SaidAt (H:Heap) (q:Nat) (x:Sd) (o o2:Own):Prop where
 hq:H q=some (.cells [.sl o 1 (bytesOf x.b),.sl o2 1 (cU x.u),.bool x.ok])
 ho:Owned H o x.b.length 1
 ho2:Owned H o2 x.u.length 1
 ne:∀ b d d2,o=.tip b d→o2≠.tip b d2
theorem flushC {H:Heap} {q:Nat} {x:Sd} {o o2:Own} (hs:SaidAt H q x o o2) (hw:x.w≤LimQ) :
  ACalls Tryz.prog 282 [.ptr q 0] H (fun e H'=>∃ v,e=.ret v∧(v=.tup []∧∃ o',SaidAt H' q (flushM x) o' .nil)):=by
 refine ACalls.go ir282 ck282 (Nat.le_refl _) fun KP Q hQ=>?_
 obtain ⟨hq,ho,ho2,hne⟩:=hs
 have hbl:=bytesOf_len x.b
 simp only [LimQ,Sd.w] at hw
 simp (disch:=first|omega|assumption) only [ir282,hq,go_sem,↓reduceIte]
 refine goK_pure (Pure.low (joinC x.u (by omega))) ?_
 have hfw:=flush_w x
 simp only [flushM,Sd.w,List.length_append] at hfw
 simp (disch:=first|omega|assumption) only [hq,go_sem,↓reduceIte]
 refine goP_ownS (by rw [hbl];exact ho) (by simp [bytesOf_len];omega) (by simp [maxLen,bytesOf_len];omega) fun o' H1 hs=>?_
 have h1:H1 q=some (.cells [.sl o 1 (bytesOf x.b),.sl o2 1 (cU x.u),.bool x.ok]):=own_keep ho hq hs.kept
 have hown:=hs.own
 simp only [List.length_append,bytesOf_len] at hown
 cases hok:x.ok
 ·rw [hok] at h1
  simp (disch:=first|omega|assumption) only [h1,bytesOf_strip,bytesOf_app,go_sem,↓reduceIte]
  refine hQ _ _ _ _ _ nofun rfl (Low.refl _) ⟨rfl,o',?_,?_,rfl,nofun⟩
  ·simp [flushM,hok,upd_same,cU,bytesOf_app,bytesOf_strip]
  ·simp only [flushM,List.length_append]
   exact own_upd hown h1
 ·rw [hok] at h1
  simp (disch:=first|omega|assumption) only [h1,bytesOf_strip,bytesOf_app,go_sem,↓reduceIte]
  refine hQ _ _ _ _ _ nofun rfl (Low.refl _) ⟨rfl,o',?_,?_,rfl,nofun⟩
  ·simp [flushM,hok,upd_same,cU,bytesOf_app,bytesOf_strip]
  ·simp only [flushM,List.length_append]
   exact own_upd hown h1
def EscP (H':Heap) (q:Nat) (x:Sd) (s:List UInt8) (v:AV):Prop:=match escM x s with
 | none=>v=.int .i64 0
 | some (x',t')=>v=.int .i64 ((s.length-t'.length:Nat):Int)∧∃ o o2,SaidAt H' q x' o o2
theorem escC {H:Heap} {q:Nat} {x:Sd} {o o2:Own} (hs:SaidAt H q x o o2) (hw:x.w≤LimQ) (s:List UInt8) (hl:s.length≤Lim) :
  ACalls Tryz.prog 281 [.ptr q 0,.str s] H (fun e H'=>∃ v,e=.ret v∧EscP H' q x s v):=by
 refine ACalls.go ir281 ck281 (Nat.le_refl _) fun KP Q hQ=>?_
 have hs0:=hs
 obtain ⟨hq,ho,ho2,hne⟩:=hs
 have hul:=cU_len x.u
 have hw0:=hw
 simp only [LimQ,Sd.w] at hw
 simp only [Lim] at hl
 simp (disch:=first|omega|assumption) only [ir281,go_sem,↓reduceIte]
 refine goK_pure (prefixC s [117]) ?_
 cases s with
 | nil =>
  simp (disch:=first|omega|assumption) only [List.isPrefixOf,go_sem,↓reduceIte]
  exact hQ _ _ _ _ [_] nofun rfl (Low.refl _) (by simp [EscP,escM,tupOf,envOf,AV.strip,AV.strip1])
 | cons c t =>
  simp only [List.length_cons] at hl
  by_cases hc:c=117
  ·subst hc
   have hp:[117].isPrefixOf ((117:UInt8) :: t)=true:=rfl
   have h1:((1:Int)≤((t.length+1:Nat):Int))=True:=eq_true (by omega)
   simp (disch:=first|omega|assumption) only [hp,h1,go_sem,↓reduceIte]
   refine goK_pure (unitC t (by simp only [Lim];omega)) ?_
   cases hu:unitM t with
   | none =>
    simp (disch:=first|omega|assumption) only [Option.isSome_none,go_sem,↓reduceIte]
    exact hQ _ _ _ _ [_] nofun rfl (Low.refl _) (by simp [EscP,escM,hu,tupOf,envOf,AV.strip,AV.strip1])
   | some u =>
    have h4:=unitG_len _ _ _ _ hu
    simp (disch:=first|omega|assumption) only [Option.isSome_some,Option.getD_some,hq,go_sem,↓reduceIte]
    refine goP_ownS (by rw [hul];exact ho2) (by simp [hul];omega) (by simp [maxLen,hul];omega) fun o' H1 hs1=>?_
    have h2:=own_keep ho2 hq hs1.kept
    simp (disch:=first|omega|assumption) only [h2,cU_strip,go_sem,↓reduceIte]
    refine hQ _ _ _ _ [_] nofun rfl (Low.refl _) ?_
    have hsp:=Sep.step (a:=[(o,x.b.length,1)]) (b:=[]) (n:=x.u.length) (n':=x.u.length+1) (sz:=1) ⟨by intro y hy;simp at hy;rcases hy with rfl|rfl<;>assumption,?_⟩ (by simpa [hul] using hs1)
    ·simp only [EscP,escM,if_true,hu,Option.map_some]
     refine ⟨?_,o,o',?_,?_,?_,?_⟩
     ·show AV.int .i64 5=_
      simp only [List.length_cons,List.length_drop]
      congr 1;omega
     ·simp [upd_same,cU]
     ·exact own_upd (hsp.own (o,x.b.length,1) (by simp)) h2
     ·simp only [List.length_append,List.length_cons,List.length_nil]
      exact own_upd (hsp.own (o',x.u.length+1,1) (by simp)) h2
     ·intro b d d2 e1 e2
      have:=hsp.nd
      simp [e1,e2,tipOf] at this
    ·cases h5:tipOf o with
     | none=>cases h6:tipOf o2<;>simp [h5,h6]
     | some b =>
      obtain ⟨d,h7⟩:=tipOf_some h5
      cases h6:tipOf o2 with
      | none=>simp [h5,h6]
      | some b2 =>
       obtain ⟨d2,h8⟩:=tipOf_some h6
       simp only [List.cons_append,List.nil_append,List.filterMap_cons,List.filterMap_nil,h5,h6,List.nodup_cons,List.mem_singleton,List.not_mem_nil,not_false_eq_true,List.nodup_nil,and_true]
       rintro rfl
       exact hne b d d2 h7 h8
  ·have hp:[117].isPrefixOf (c :: t)=false:=by
    simp only [List.isPrefixOf,Bool.and_true,beq_eq_false_iff_ne,ne_eq];exact fun e=>hc e.symm
   have hcl:¬ (c :: t=[]):=by simp
   have h1:((0:Int)<((t.length+1:Nat):Int))=True:=eq_true (by omega)
   simp (disch:=first|omega|assumption) only [hp,hcl,h1,go_sem,↓reduceIte]
   refine goK_pure (idxByteC escL c) ?_
   have hidx:=idx_le escL c
   by_cases hk:Lib.indexByte escL c<0
   ·simp (disch:=first|omega|assumption) only [hk,go_sem,↓reduceIte]
    exact hQ _ _ _ _ [_] nofun rfl (Low.refl _) (by simp [EscP,escM,hc,hk,tupOf,envOf,AV.strip,AV.strip1])
   ·obtain ⟨k,hk2⟩:∃ k:Nat,Lib.indexByte escL c=(k:Int):=⟨(Lib.indexByte escL c).toNat,by omega⟩
    have hk8:k<8:=by simp [escL] at hidx;rw [show Lib.indexByte [34,92,47,98,102,110,114,116] c=(k:Int) from hk2] at hidx;omega
    have hk0:¬ ((k:Int)<0):=by omega
    simp (disch:=first|omega|assumption) only [hk2,hk0,go_sem,↓reduceIte]
    refine goK_ret (flushC hs0 hw0) fun v H1 ⟨hv,o',hs1⟩=>?_
    subst hv
    obtain ⟨hq1,ho1,_,_⟩:=hs1
    have hfw:=flush_w x
    have hbl:=bytesOf_len (flushM x).b
    simp only [Sd.w] at hfw
    have hk8':((k:Int)<8)=True:=eq_true (by omega)
    simp (disch:=first|omega|assumption) only [hq1,hk8',go_sem,↓reduceIte]
    refine goP_ownS (by rw [hbl];exact ho1) (by simp [hbl];omega) (by simp [maxLen,hbl];omega) fun o3 H2 hs3=>?_
    have hq2:=own_keep ho1 hq1 hs3.kept
    simp (disch:=first|omega|assumption) only [hq2,go_sem,↓reduceIte]
    refine hQ _ _ _ _ [_] nofun rfl (Low.refl _) ?_
    simp only [EscP,escM,hc,if_false,hk2,hk0]
    refine ⟨?_,o3,.nil,?_,?_,rfl,nofun⟩
    ·show AV.int .i64 1=_
     simp only [List.length_cons]
     congr 1;omega
    ·simp only [upd_same,Sd.put,Int.toNat_natCast]
     rw [← bytesOf_app];rfl
    ·simp only [Sd.put,List.length_append,List.length_cons,List.length_nil]
     exact own_upd (by simpa [hbl] using hs3.own) hq2
end Go.Proofs.YticbbfbpeimkbaaGreatDoor
namespace Go.Proofs.YticbbfbpeimkbaaGreatDoor
open Go.Ab
def stopP (n:Int):AV:=.ifc 186 (.agg [.int .i64 n])
def prc (L p:TS) (dp:Nat):AObj:=.cells [.sl .no 2 (cKs L),.int .i64 (p.length:Int),.int .i64 (dp:Int)]
def Pat (H:Heap) (r:Nat) (L t:TS) (dp:Nat) (H':Heap):Prop:=∃ p,p++t=L∧H'=H.upd r (prc L p dp)
def RetQ {α:Type} (H:Heap) (r:Nat) (L:TS) (dp:Nat) (x:PR α) (f:α→AV) (v:AV) (H':Heap):Prop:=∃ a t',x=.ok (a,t')∧v=f a∧Pat H r L t' dp H'
def PanQ {α:Type} (x:PR α) (v:AV) (_:Heap):Prop:=∃ n,x=.error n∧v=stopP n
abbrev LimP:Nat:=1000000
abbrev RpE {α:Type} (H:Heap) (r:Nat) (L:TS) (dp:Nat) (x:PR α) (f:α→AV):AEnd→Heap→Prop:=fun e H'=>match e with|.ret v=>RetQ H r L dp x f v H'|.pan v=>PanQ x v H'
theorem Pat.again {H H1 H2:Heap} {r:Nat} {L t t':TS} {dp dp':Nat} (h:Pat H r L t dp H1) (h':Pat H1 r L t' dp' H2):Pat H r L t' dp' H2:=by
 obtain ⟨p,_,rfl⟩:=h
 obtain ⟨q,hq,rfl⟩:=h'
 exact ⟨q,hq,upd_upd ..⟩
theorem Pat.at {H H1:Heap} {r:Nat} {L t:TS} {dp:Nat} (h:Pat H r L t dp H1):∃ p,p++t=L∧H1 r=some (prc L p dp):=by
 obtain ⟨p,hp,rfl⟩:=h
 exact ⟨p,hp,upd_same ..⟩
theorem Pat.self {H:Heap} {r:Nat} {L p t:TS} {dp:Nat} (hs:p++t=L) (hr:H r=some (prc L p dp)):Pat H r L t dp H :=
 ⟨p,hs,by funext c;by_cases e:c=r<;>simp [Heap.upd,e,hr]⟩
structure KI (H:Heap) (r:Nat) (L t:TS) (dp:Nat) (H1:Heap):Prop where
 keep:∀ c x,c≠r→H c=some x→H1 c=some x
 here:∃ p,p++t=L∧H1 r=some (prc L p dp)
 hr:∃ x,H r=some x
theorem KI.start {H:Heap} {r:Nat} {L p t:TS} {dp:Nat} (hs:p++t=L) (hr:H r=some (prc L p dp)):KI H r L t dp H:=⟨fun _ _ _ h=>h,⟨p,hs,hr⟩,⟨_,hr⟩⟩
theorem KI.call {H H1 H2:Heap} {r:Nat} {L t t':TS} {dp dp':Nat} (h:KI H r L t dp H1) (ha:Pat H1 r L t' dp' H2):KI H r L t' dp' H2:=by
 obtain ⟨q,hq,rfl⟩:=ha
 exact ⟨fun c x hc hx=>by rw [upd_ne hc];exact h.keep c x hc hx,⟨q,hq,upd_same ..⟩,h.hr⟩
theorem KI.ne {H H1:Heap} {r b:Nat} {L t:TS} {dp:Nat} (h:KI H r L t dp H1) (hb:H b=none):r≠b:=fun e=>by
 subst e;obtain ⟨x,hx⟩:=h.hr;rw [hb] at hx;cases hx
theorem KI.none {H H1:Heap} {r b:Nat} {L t:TS} {dp:Nat} (h:KI H r L t dp H1) (hb:H1 b=.none):H b=.none:=by
 cases hx:H b with
 | none=>rfl
 | some x =>
  by_cases e:b=r
  ·subst e;obtain ⟨p,_,h2⟩:=h.here;rw [hb] at h2;cases h2
  ·have:=h.keep b x e hx;rw [hb] at this;cases this
theorem KI.box {H H1:Heap} {r b:Nat} {L t:TS} {dp:Nat} {x:AObj} (h:KI H r L t dp H1) (hb:H b=.none):KI H r L t dp (H1.upd b x):=by
 obtain ⟨p,hp,h2⟩:=h.here
 exact ⟨fun c y hc hy=>by rw [upd_ne (fun e=>by subst e;rw [hb] at hy;cases hy)];exact h.keep c y hc hy,⟨p,hp,by rw [upd_ne (h.ne hb)];exact h2⟩,h.hr⟩
theorem KI.low {H H1:Heap} {r:Nat} {L t:TS} {dp:Nat} (h:KI H r L t dp H1):∃ H2,Low H2 H1∧Pat H r L t dp H2:=by
 obtain ⟨p,hp,h1⟩:=h.here
 refine ⟨_,Low.of_sub fun c x hc=>?_,p,hp,rfl⟩
 by_cases e:c=r
 ·subst e;rw [upd_same] at hc;rw [← hc];exact h1
 ·rw [upd_ne e] at hc;exact h.keep c x e hc
structure KO (H:Heap) (r:Nat) (L t:TS) (dp:Nat) (H1:Heap) (o:Own) (n sz:Nat):Prop extends KI H r L t dp H1 where
 own:Owned H1 o n sz
 tip:∀ b d,o=.tip b d→H b=.none
theorem KO.call {H H1 H2:Heap} {r:Nat} {L t t':TS} {dp dp':Nat} {o:Own} {n sz:Nat} (h:KO H r L t dp H1 o n sz) (ha:Pat H1 r L t' dp' H2):KO H r L t' dp' H2 o n sz:=by
 obtain ⟨p,hp,h1⟩:=h.here
 refine ⟨h.toKI.call ha,?_,h.tip⟩
 obtain ⟨q,hq,rfl⟩:=ha
 exact own_upd h.own h1
theorem KO.box {H H1:Heap} {r b:Nat} {L t:TS} {dp:Nat} {o:Own} {n sz:Nat} {cs cs':List AV} (h:KO H r L t dp H1 o n sz) (hb:H b=.none) (h1:H1 b=some (.cells cs)):KO H r L t dp (H1.upd b (.cells cs')) o n sz :=
 ⟨h.toKI.box hb,own_upd h.own h1,h.tip⟩
theorem KO.app {H H1 H2:Heap} {r:Nat} {L t:TS} {dp:Nat} {o o':Own} {n n' sz:Nat} (h:KO H r L t dp H1 o n sz) (hs:OwnS H1 o H2 o' n' sz):KO H r L t dp H2 o' n' sz:=by
 obtain ⟨p,hp,h1⟩:=h.here
 refine ⟨⟨fun c x hc hx=>hs.kept c x (h.keep c x hc hx) fun d e=>?_,⟨p,hp,own_keep h.own h1 hs.kept⟩,h.hr⟩,hs.own,fun b d e=>?_⟩
 ·have:=h.tip c d e;rw [hx] at this;cases this
 ·rcases hs.new b d e with h2|⟨d0,e2⟩
  ·exact h.toKI.none h2
  ·exact h.tip b d0 e2
theorem KO.stay {H H1 H2:Heap} {r b:Nat} {L t:TS} {dp:Nat} {o o':Own} {n n' sz:Nat} {cs:List AV} (h:KO H r L t dp H1 o n sz) (hs:OwnS H1 o H2 o' n' sz) (hb:H1 b=some (.cells cs)):H2 b=some (.cells cs) :=
 own_keep h.own hb hs.kept
theorem KI.done {α:Type} {H:Heap} {r:Nat} {L:TS} {dp:Nat} {x:PR α} {f:α→AV} {Q:AExit→Env→Heap→Prop} {res:List ARes}
  (hQ:∀ e ρ H1 H2 vs,(∀ i,e≠.exit i)→resvs ρ H1 res=some vs→Low H2 H1→RetQ H r L dp x f (tupOf vs).strip H2→Q e ρ H1)
  (ρ1:Env) (H1:Heap) (vs:List AV) (a:α) (t':TS) (h1:resvs ρ1 H1 res=some vs) (h2:x=.ok (a,t')) (h3:KI H r L t' dp H1) (h4:(tupOf vs).strip=f a):Q .ret ρ1 H1:=by
 obtain ⟨H2,hl,ha⟩:=h3.low
 exact hQ .ret ρ1 H1 H2 vs nofun h1 hl ⟨a,t',h2,h4,ha⟩
theorem len_w:∀ L:TS,L.length≤wT L
 | []=>Nat.le_refl _
 | x :: L=>by have:=len_w L;rw [wT_cons];simp only [List.length_cons,wK];omega
theorem hd_w {p t L:TS} (h:p++t=L):(hdT t).s.length≤wT L:=by
 subst h
 cases t with
 | nil=>simp [hdT]
 | cons x t =>
  have:wT (p++x :: t)=wT p+wT (x :: t):=by simp [wT]
  rw [this,wT_cons];simp only [hdT,List.headD_cons,wK];omega
theorem Pat.other {H H1:Heap} {r c:Nat} {L t:TS} {dp:Nat} (h:Pat H r L t dp H1) (hc:c≠r):H1 c=H c:=by
 obtain ⟨p,_,rfl⟩:=h
 exact upd_ne hc
theorem failP (H:Heap) (r:Nat) (n:Int):ACalls Tryz.prog 160 [.ptr r 0,.int .i64 n] H (fun e H'=>match e with|.ret v=>False|.pan v=>v=stopP n):=by
 refine ACalls.goO (R:=fun _ _=>False) (RP:=fun v _=>v=stopP n) ir160 ck160 (Nat.le_refl _) fun KP Q hQ hP=>?_
 simp (disch:=first|omega|assumption) only [ir160,go_sem,↓reduceIte]
 exact hP _ _ H (Low.refl _) rfl
section
variable {H:Heap} {r:Nat} {L p t:TS} {dp:Nat}
theorem moreP (hs:p++t=L) (hr:H r=some (prc L p dp)):ACalls Tryz.prog 92 [.ptr r 0] H (fun e H'=>∃ v,e=.ret v∧(v=.bool (decide (t≠[]))∧H'=H)):=by
 refine ACalls.go ir92 ck92 (Nat.le_refl _) fun KP Q hQ=>?_
 simp only [prc] at hr
 have hcl:=cKs_len L
 have hlen:p.length+t.length=L.length:=by rw [← hs];simp
 simp (disch:=first|omega|assumption) only [ir92,hr,hcl,go_sem,↓reduceIte]
 cases t with
 | nil =>
  have h1:¬ ((p.length:Int)<(L.length:Int)):=by simp at hlen;omega
  simp (disch:=first|omega|assumption) only [h1,go_sem,↓reduceIte]
  exact hQ _ _ _ _ [_] nofun rfl (Low.refl _) ⟨(by simp [tupOf,envOf,AV.strip,AV.strip1]),rfl⟩
 | cons c u =>
  have h1:((p.length:Int)<(L.length:Int))=True:=eq_true (by simp at hlen;omega)
  simp (disch:=first|omega|assumption) only [h1,go_sem,↓reduceIte]
  exact hQ _ _ _ _ [_] nofun rfl (Low.refl _) ⟨(by simp [tupOf,envOf,AV.strip,AV.strip1]),rfl⟩
theorem nextP (hs:p++t=L) (hr:H r=some (prc L p dp)):ACalls Tryz.prog 174 [.ptr r 0] H (fun e H'=>∃ v,e=.ret v∧(v=tokA (hdT t)∧H'=H)):=by
 refine ACalls.go ir174 ck174 (Nat.le_refl _) fun KP Q hQ=>?_
 have hcl:=cKs_len L
 have hlen:p.length+t.length=L.length:=by rw [← hs];simp
 simp (disch:=first|omega|assumption) only [ir174,go_sem,↓reduceIte]
 refine goA_intro fun b hb=>?_
 have hbr:r≠b:=fun e=>by subst e;rw [hb] at hr;cases hr
 have hr2:(H.upd b (.cells [.int .i64 0,.str []])) r=some (prc L p dp):=by rw [upd_ne hbr];exact hr
 simp (disch:=first|omega|assumption) only [go_sem,↓reduceIte]
 refine goK_ret (moreP hs hr2) fun v H1 ⟨hv,hH⟩=>?_
 subst hv;subst hH
 have hlow:∀ x,Low H (H.upd b x):=fun x=>(Low.refl _).upd hb
 cases t with
 | nil =>
  simp (disch:=first|omega|assumption) only [go_sem,↓reduceIte]
  exact hQ _ _ _ H [.agg [.int .i64 0,.str []]] nofun (by simp (disch:=first|omega|assumption) only [ir174,resvs,resv,go_sem,↓reduceIte]) (hlow _) ⟨rfl,rfl⟩
 | cons c u =>
  simp only [prc] at hr2
  have h1:((p.length:Int)<(L.length:Int))=True:=eq_true (by simp at hlen;omega)
  have hg:(cKs L).getD p.length []=[.int .i64 c.k,.str c.s]:=by rw [← hs];simp [cKs,cK]
  simp (disch:=first|omega|assumption) only [hr2,hcl,h1,hg,go_sem,↓reduceIte]
  exact hQ _ _ _ H [.agg [.int .i64 c.k,.str c.s]] nofun (by simp (disch:=first|omega|assumption) only [ir174,resvs,resv,go_sem,↓reduceIte]) (hlow _) ⟨rfl,rfl⟩
theorem isPC (hs:p++t=L) (hr:H r=some (prc L p dp)) (m:List UInt8):ACalls Tryz.prog 161 [.ptr r 0,.str m] H (fun e H'=>∃ v,e=.ret v∧(v=.bool (isP m t)∧H'=H)):=by
 refine ACalls.go ir161 ck161 (Nat.le_refl _) fun KP Q hQ=>?_
 simp (disch:=first|omega|assumption) only [ir161,go_sem,↓reduceIte]
 refine goK_ret (nextP hs hr) fun v H1 ⟨hv,hH⟩=>?_
 subst hv;subst hH
 simp (disch:=first|omega|assumption) only [tokA,fitsAll,K1.fits,keqs,AV.keq1,Bool.and_true,go_sem,↓reduceIte]
 exact hQ _ _ _ _ [_] nofun rfl (Low.refl _) ⟨by simp [tupOf,envOf,AV.strip,AV.strip1,isP],rfl⟩
theorem isWC (hs:p++t=L) (hr:H r=some (prc L p dp)) (m:List UInt8):ACalls Tryz.prog 248 [.ptr r 0,.str m] H (fun e H'=>∃ v,e=.ret v∧(v=.bool (isW m t)∧H'=H)):=by
 refine ACalls.go ir248 ck248 (Nat.le_refl _) fun KP Q hQ=>?_
 simp (disch:=first|omega|assumption) only [ir248,go_sem,↓reduceIte]
 refine goK_ret (nextP hs hr) fun v H1 ⟨hv,hH⟩=>?_
 subst hv;subst hH
 simp (disch:=first|omega|assumption) only [tokA,fitsAll,K1.fits,keqs,AV.keq1,Bool.and_true,go_sem,↓reduceIte]
 exact hQ _ _ _ _ [_] nofun rfl (Low.refl _) ⟨by simp [tupOf,envOf,AV.strip,AV.strip1,isW],rfl⟩
theorem step_tail (hs:p++t=L) (hk:(hdT t).k≠0):(p++[hdT t])++t.tail=L:=by
 rw [List.append_assoc,List.singleton_append,← hd_tail hk];exact hs
theorem prc_on (hs:p++t=L) (hk:(hdT t).k≠0) (H:Heap):Pat H r L t.tail dp (H.upd r (.cells [.sl .no 2 (cKs L),.int .i64 ((p.length:Int)+1),.int .i64 (dp:Int)])) :=
 ⟨p++[hdT t],step_tail hs hk,by simp [prc]⟩
def mayT (m:List UInt8) (t:TS):TS:=if isP m t then t.tail else t
theorem mayPC (hs:p++t=L) (hl:L.length≤LimP) (hr:H r=some (prc L p dp)) (m:List UInt8):ACalls Tryz.prog 191 [.ptr r 0,.str m] H (fun e H'=>∃ v,e=.ret v∧(v=.bool (isP m t)∧Pat H r L (mayT m t) dp H')):=by
 refine ACalls.go ir191 ck191 (Nat.le_refl _) fun KP Q hQ=>?_
 simp only [LimP] at hl
 have hlen:p.length+t.length=L.length:=by rw [← hs];simp
 simp (disch:=first|omega|assumption) only [ir191,go_sem,↓reduceIte]
 refine goK_ret (isPC hs hr m) fun v H1 ⟨hv,hH⟩=>?_
 subst hv;subst hH
 have hr':=hr
 simp only [prc] at hr'
 cases hi:isP m t with
 | true =>
  simp (disch:=first|omega|assumption) only [hr',wrap64,go_sem,↓reduceIte]
  refine hQ _ _ _ _ [_] nofun rfl (Low.refl _) ⟨(by simp [tupOf,envOf,AV.strip,AV.strip1,hi]),?_⟩
  simp only [mayT,hi,if_true]
  exact prc_on hs (isP_ne hi) _
 | false =>
  simp (disch:=first|omega|assumption) only [go_sem,↓reduceIte]
  refine hQ _ _ _ _ [_] nofun rfl (Low.refl _) ⟨(by simp [tupOf,envOf,AV.strip,AV.strip1,hi]),?_⟩
  simp only [mayT,hi,Bool.false_eq_true,if_false]
  exact Pat.self hs hr
theorem mayWC (hs:p++t=L) (hl:L.length≤LimP) (hr:H r=some (prc L p dp)) (m:List UInt8):ACalls Tryz.prog 163 [.ptr r 0,.str m] H (fun e H'=>∃ v,e=.ret v∧(v=.bool (isW m t)∧Pat H r L (mayWordP m t) dp H')):=by
 refine ACalls.go ir163 ck163 (Nat.le_refl _) fun KP Q hQ=>?_
 simp only [LimP] at hl
 have hlen:p.length+t.length=L.length:=by rw [← hs];simp
 simp (disch:=first|omega|assumption) only [ir163,go_sem,↓reduceIte]
 refine goK_ret (isWC hs hr m) fun v H1 ⟨hv,hH⟩=>?_
 subst hv;subst hH
 have hr':=hr
 simp only [prc] at hr'
 cases hi:isW m t with
 | true =>
  simp (disch:=first|omega|assumption) only [hr',wrap64,go_sem,↓reduceIte]
  refine hQ _ _ _ _ [_] nofun rfl (Low.refl _) ⟨(by simp [tupOf,envOf,AV.strip,AV.strip1,hi]),?_⟩
  simp only [mayWordP,hi,if_true]
  exact prc_on hs (isW_ne hi) _
 | false =>
  simp (disch:=first|omega|assumption) only [go_sem,↓reduceIte]
  refine hQ _ _ _ _ [_] nofun rfl (Low.refl _) ⟨(by simp [tupOf,envOf,AV.strip,AV.strip1,hi]),?_⟩
  simp only [mayWordP,hi,Bool.false_eq_true,if_false]
  exact Pat.self hs hr
theorem mustPC (hs:p++t=L) (hl:L.length≤LimP) (hr:H r=some (prc L p dp)) (m:List UInt8):ACalls Tryz.prog 182 [.ptr r 0,.str m] H (RpE H r L dp (mustP m t) fun _=>.tup []):=by
 refine ACalls.goO ir182 ck182 (Nat.le_refl _) fun KP Q hQ hP=>?_
 simp (disch:=first|omega|assumption) only [ir182,go_sem,↓reduceIte]
 refine goK_ret (mayPC hs hl hr m) fun v H1 ⟨hv,hH⟩=>?_
 subst hv
 cases hi:isP m t with
 | true =>
  rw [mayT,hi] at hH
  simp (disch:=first|omega|assumption) only [go_sem,↓reduceIte]
  exact hQ _ _ _ _ [] nofun rfl (Low.refl _) ⟨(),t.tail,by unfold mustP;rw [hi];rfl,rfl,hH⟩
 | false =>
  simp (disch:=first|omega|assumption) only [go_sem,↓reduceIte]
  exact goK_both (failP H1 r 2) (fun _ _ h=>h.elim) fun v H2 h=>hP v H2 H2 (Low.refl _) ⟨2,by unfold mustP;rw [hi];rfl,h⟩
theorem namePC (hs:p++t=L) (hl:L.length≤LimP) (hr:H r=some (prc L p dp)):ACalls Tryz.prog 183 [.ptr r 0] H (RpE H r L dp (nameP t) AV.str):=by
 refine ACalls.goO ir183 ck183 (Nat.le_refl _) fun KP Q hQ hP=>?_
 simp only [LimP] at hl
 have hlen:p.length+t.length=L.length:=by rw [← hs];simp
 simp (disch:=first|omega|assumption) only [ir183,go_sem,↓reduceIte]
 refine goK_ret (nextP hs hr) fun v H1 ⟨hv,hH⟩=>?_
 subst hv;subst hH
 simp (disch:=first|omega|assumption) only [go_sem,↓reduceIte]
 refine goA_intro fun b hb=>?_
 have hbr:r≠b:=fun e=>by subst e;rw [hb] at hr;cases hr
 have hr':=hr
 simp only [prc] at hr'
 by_cases hk:(hdT t).k=2
 ·have hk':((hdT t).k=2)=True:=eq_true hk
  simp (disch:=first|omega|assumption) only [tokA,hk',hr',hbr,Ne.symm hbr,wrap64,go_sem,↓reduceIte]
  refine hQ _ _ _ (H1.upd r (.cells [.sl .no 2 (cKs L),.int .i64 ((p.length:Int)+1),.int .i64 (dp:Int)])) [_] nofun rfl ?_ ⟨(hdT t).s,t.tail,by unfold nameP;rw [if_pos hk],(by simp [tupOf,envOf,AV.strip,AV.strip1]),prc_on hs (by rw [hk];decide) _⟩
  refine Low.of_sub fun c x hc=>?_
  by_cases e:c=r
  ·subst e;rw [upd_same] at hc ⊢;exact hc
  ·rw [upd_ne e] at hc ⊢
   rw [upd_ne (fun e2=>by subst e2;rw [hb] at hc;cases hc)];exact hc
 ·simp (disch:=first|omega|assumption) only [tokA,hk,go_sem,↓reduceIte]
  exact goK_both (failP _ r 2) (fun _ _ h=>h.elim) fun v H2 h=>hP v H2 H2 (Low.refl _) ⟨2,by unfold nameP;rw [if_neg hk],h⟩
theorem openPC (hs:p++t=L) (hl:L.length≤LimP) (hd:dp≤16) (hr:H r=some (prc L p dp)) (m:List UInt8):ACalls Tryz.prog 179 [.ptr r 0,.str m] H
  (fun e H'=>match e with
   | .ret v=>v=.bool (isP m t)∧(isP m t=true→dp<16∧Pat H r L t.tail (dp+1) H')∧(isP m t=false→Pat H r L t dp H')
   | .pan v=>isP m t=true∧dp=16∧v=stopP 4):=by
 refine ACalls.goO (R:=fun v H'=>v=.bool (isP m t)∧(isP m t=true→dp<16∧Pat H r L t.tail (dp+1) H')∧(isP m t=false→Pat H r L t dp H')) (RP:=fun v _=>isP m t=true∧dp=16∧v=stopP 4) ir179 ck179 (Nat.le_refl _) fun KP Q hQ hP=>?_
 have hlen:p.length+t.length=L.length:=by rw [← hs];simp
 simp (disch:=first|omega|assumption) only [ir179,go_sem,↓reduceIte]
 refine goK_ret (isPC hs hr m) fun v H1 ⟨hv,hH⟩=>?_
 subst hv;subst hH
 have hr':=hr
 simp only [prc] at hr'
 cases hi:isP m t with
 | true =>
  by_cases h16:(16:Int)≤(dp:Int)
  ·simp (disch:=first|omega|assumption) only [hr',h16,go_sem,↓reduceIte]
   exact goK_both (failP _ r 4) (fun _ _ h=>h.elim) fun v H2 h=>hP v H2 H2 (Low.refl _) ⟨hi,by omega,h⟩
  ·simp (disch:=first|omega|assumption) only [hr',h16,go_sem,↓reduceIte]
   refine goK_ret (mayPC hs hl hr m) fun v H2 ⟨hv,hH⟩=>?_
   subst hv
   rw [mayT,hi] at hH
   obtain ⟨q,hq,h2⟩:=hH.at
   simp only [prc] at h2
   rw [hi]
   simp (disch:=first|omega|assumption) only [h2,wrap64,go_sem,↓reduceIte]
   exact hQ _ _ _ _ [_] nofun rfl (Low.refl _) ⟨(by simp [tupOf,envOf,AV.strip,AV.strip1,hi]),fun _=>⟨by omega,hH.again ⟨q,hq,by simp [prc]⟩⟩,fun h=>(by rw [hi] at h;cases h)⟩
 | false =>
  simp (disch:=first|omega|assumption) only [go_sem,↓reduceIte]
  refine goK_ret (mayPC hs hl hr m) fun v H2 ⟨hv,hH⟩=>?_
  subst hv
  rw [mayT,hi] at hH
  rw [hi]
  simp (disch:=first|omega|assumption) only [go_sem,↓reduceIte]
  exact hQ _ _ _ _ [_] nofun rfl (Low.refl _) ⟨(by simp [tupOf,envOf,AV.strip,AV.strip1,hi]),fun h=>(by rw [hi] at h;cases h),fun _=>by simpa using hH⟩
theorem closePC (hs:p++t=L) (hl:L.length≤LimP) (hd:1≤dp∧dp≤16) (hr:H r=some (prc L p dp)) (m:List UInt8):ACalls Tryz.prog 180 [.ptr r 0,.str m] H
  (fun e H'=>∃ v,e=.ret v∧(v=.bool (isP m t)∧(isP m t=true→Pat H r L t.tail (dp-1) H')∧(isP m t=false→Pat H r L t dp H'))):=by
 refine ACalls.go ir180 ck180 (Nat.le_refl _) fun KP Q hQ=>?_
 simp (disch:=first|omega|assumption) only [ir180,go_sem,↓reduceIte]
 refine goK_ret (mayPC hs hl hr m) fun v H2 ⟨hv,hH⟩=>?_
 subst hv
 cases hi:isP m t with
 | true =>
  rw [mayT,hi] at hH
  obtain ⟨q,hq,h2⟩:=hH.at
  simp only [prc] at h2
  simp (disch:=first|omega|assumption) only [h2,wrap64,go_sem,↓reduceIte]
  refine hQ _ _ _ _ [_] nofun rfl (Low.refl _) ⟨(by simp [tupOf,envOf,AV.strip,AV.strip1,hi]),fun _=>hH.again ⟨q,hq,?_⟩,fun h=>(by rw [hi] at h;cases h)⟩
  have e:((dp-1:Nat):Int)=(dp:Int)-1:=by omega
  simp only [prc,e]
 | false =>
  rw [mayT,hi] at hH
  simp (disch:=first|omega|assumption) only [go_sem,↓reduceIte]
  exact hQ _ _ _ _ [_] nofun rfl (Low.refl _) ⟨(by simp [tupOf,envOf,AV.strip,AV.strip1,hi]),fun h=>(by rw [hi] at h;cases h),fun _=>by simpa using hH⟩
end
end Go.Proofs.YticbbfbpeimkbaaGreatDoor
namespace Go.Proofs.YticbbfbpeimkbaaGreatDoor
open Go.Ab
def wfD (x:DirD):Prop:=wfMs x.args
def wfDs (l:List DirD):Prop:=∀ x ∈ l,wfD x
mutual
def wfS:SelD→Prop
 | .mk _ _ _ args dirs _ sels=>wfMs args∧wfDs dirs∧wfSs sels
def wfSs:List SelD→Prop
 | []=>True
 | x :: r=>wfS x∧wfSs r
end
def wfW (x:VarD):Prop:=inR x.t.lists∧inR x.t.musts∧wfV x.d
def wfO (x:OpD):Prop:=(∀ y ∈ x.vars,wfW y)∧wfDs x.dirs∧wfSs x.sels
def wfF (x:FragD):Prop:=wfDs x.dirs∧wfSs x.sels
def wfDoc (d:DocD):Prop:=(∀ x ∈ d.ops,wfO x)∧∀ x ∈ d.frags,wfF x
def pk (s:List UInt8):Tok:=⟨1,s⟩
def wk (s:List UInt8):Tok:=⟨2,s⟩
def tArgs (l:List Mem):List Tok:=if l.length=0 then [] else pk [40] :: (tokMs l++[pk [41]])
def tD (d:DirD):List Tok:=pk [64] :: wk d.nm :: tArgs d.args
end Go.Proofs.YticbbfbpeimkbaaGreatDoor
namespace Go.Proofs.YticbbfbpeimkbaaGreatDoor
open Go.Ab
theorem zV_fit:bV zV=1∧wfV zV:=⟨rfl,inR0,trivial,trivial⟩
theorem wordV_fit (s:List UInt8):bV (wordV s)≤1+s.length∧wfV (wordV s):=by
 unfold wordV
 split
 ·exact ⟨by rw [zV_fit.1];omega,zV_fit.2⟩
 split
 ·exact ⟨by simp only [bV,bVs,bMs,List.length_nil];omega,by simp [inR],trivial,trivial⟩
 split
 ·exact ⟨by simp only [bV,bVs,bMs,List.length_nil];omega,inR0,trivial,trivial⟩
 ·exact ⟨by simp only [bV,bVs,bMs];omega,inR0,trivial,trivial⟩
theorem memberP_fit {f:TS→PR Val} (hf:GP bV wfV 1 f):GP bM wfM 1 (memberP f):=fun t x t' h=>by
 obtain ⟨s,t1,h1,h2⟩:=pb_inv h
 obtain ⟨_,t2,h3,h4⟩:=pb_inv h2
 obtain ⟨v,t3,h5,h6⟩:=pb_inv h4
 cases h6
 have g1:=nameP_fit _ _ _ h1
 have g2:=mustP_fit _ _ _ _ h3
 have g3:=hf _ _ _ h5
 have w1:=g1.w
 have w2:=g2.w
 have w3:=g3.w
 simp only [b0] at w2
 exact ⟨(g3.suf.trans g2.suf).trans g1.suf,by simp only [bM];omega,g3.ok⟩
theorem bVs_sm:∀ l:List Val,bVs l+l.length=sm bV l
 | []=>rfl
 | v :: r=>by have:=bVs_sm r;simp only [sm,bVs,List.length_cons,List.map_cons,List.sum_cons] at *;omega
theorem bMs_sm:∀ l:List Mem,bMs l+l.length=sm bM l
 | []=>rfl
 | v :: r=>by have:=bMs_sm r;simp only [sm,bMs,List.length_cons,List.map_cons,List.sum_cons] at *;omega
theorem wfVs_of:∀ {l:List Val},(∀ v ∈ l,wfV v)→wfVs l
 | [],_=>trivial
 | v :: r,h=>⟨h v (.head _),wfVs_of fun x hx=>h x (.tail _ hx)⟩
theorem wfMs_of:∀ {l:List Mem},(∀ v ∈ l,wfM v)→wfMs l
 | [],_=>trivial
 | v :: r,h=>⟨h v (.head _),wfMs_of fun x hx=>h x (.tail _ hx)⟩
theorem valP_step (fixed:Bool) (k:Nat) (ih:∀ n,k=n+1→GP bV wfV 1 (valP fixed n)):GP bV wfV 1 (valP fixed k):=fun t v t' h=>by
 rw [valP_eq,valB.eq_def] at h
 split at h
 ·rename_i hk
  cases h
  have h0:=tail_w (t:=t) (by omega)
  have h1:=wordV_fit (hdT t).s
  exact ⟨h0.1,by omega,h1.2⟩
 split at h
 ·rename_i hk
  cases h
  have h0:=tail_w (t:=t) (by omega)
  have h1:=numV_fit (hdT t).s
  exact ⟨h0.1,by omega,h1.2⟩
 split at h
 ·rename_i hk
  cases h
  have h0:=tail_w (t:=t) (by omega)
  exact ⟨h0.1,by simp only [bV,bVs,bMs];omega,inR0,trivial,trivial⟩
 split at h
 ·rename_i hp
  have h0:=tail_p hp
  cases k with
  | zero=>cases h
  | succ n =>
   obtain ⟨l,t1,h1,h2⟩:=pb_inv h
   cases h2
   have g:=manyP_fit (ih n rfl) _ [] _ _ _ (fun x hx=>by cases hx) h1
   have e:=bVs_sm l
   have e0:sm bV []=0:=rfl
   exact ⟨g.1.trans h0.1,by simp only [bV,bMs,List.length_nil];omega,inR0,wfVs_of g.2.2,trivial⟩
 split at h
 ·rename_i hp
  have h0:=tail_p hp
  cases k with
  | zero=>cases h
  | succ n =>
   obtain ⟨l,t1,h1,h2⟩:=pb_inv h
   cases h2
   have g:=manyP_fit (memberP_fit (ih n rfl)) _ [] _ _ _ (fun x hx=>by cases hx) h1
   have e:=bMs_sm l
   have e0:sm bM []=0:=rfl
   exact ⟨g.1.trans h0.1,by simp only [bV,bVs,List.length_nil];omega,inR0,trivial,wfMs_of g.2.2⟩
 split at h
 ·cases h
 ·obtain ⟨_,t1,h1,h2⟩:=pb_inv h
  obtain ⟨s,t2,h3,h4⟩:=pb_inv h2
  cases h4
  have g1:=mustP_fit _ _ _ _ h1
  have g2:=nameP_fit _ _ _ h3
  have w1:=g1.w
  have w2:=g2.w
  simp only [b0] at w1
  exact ⟨g2.suf.trans g1.suf,by simp only [bV,bVs,bMs];omega,inR0,trivial,trivial⟩
theorem valP_fit (fixed:Bool):∀ k,GP bV wfV 1 (valP fixed k)
 | 0=>valP_step fixed 0 fun n h=>by cases h
 | k+1=>valP_step fixed (k+1) fun n h=>by cases h;exact valP_fit fixed k
theorem argsP_fit (fixed:Bool) (k:Nat):GP bMs wfMs 0 (argsP fixed k):=fun t a t' h=>by
 unfold argsP at h
 split at h
 ·rename_i hp
  have h0:=tail_p hp
  have g:=many1P_fit (memberP_fit (valP_fit fixed k)) _ _ _ h
  have e:=bMs_sm a
  have w:=g.w
  exact ⟨g.suf.trans h0.1,by omega,wfMs_of g.ok⟩
 ·cases h
  exact ⟨List.suffix_refl t,by simp [bMs],trivial⟩
theorem dirP_fit (fixed:Bool) (k:Nat):GP bD wfD 1 (dirP fixed k):=fun t a t' h=>by
 obtain ⟨s,t1,h1,h2⟩:=pb_inv h
 obtain ⟨l,t2,h3,h4⟩:=pb_inv h2
 cases h4
 have g1:=nameP_fit _ _ _ h1
 have g2:=argsP_fit fixed k _ _ _ h3
 have w1:=g1.w
 have w2:=g2.w
 exact ⟨g2.suf.trans g1.suf,by simp only [bD];omega,g2.ok⟩
theorem bDs_sm (l:List DirD):bDs l+l.length=sm bD l:=rfl
theorem dirsP_fit (fixed:Bool) (k:Nat):GP bDs wfDs 0 (dirsP fixed k):=fun t a t' h=>by
 have g:=whileP_fit (dirP_fit fixed k) _ [] _ _ _ (fun x hx=>by cases hx) h
 have e:=bDs_sm a
 have e0:sm bD []=0:=rfl
 exact ⟨g.1,by omega,g.2.2⟩
theorem bSs_sm:∀ l:List SelD,bSs l+l.length=sm bS l
 | []=>rfl
 | v :: r=>by have:=bSs_sm r;simp only [sm,bSs,List.length_cons,List.map_cons,List.sum_cons] at *;omega
theorem wfSs_of:∀ {l:List SelD},(∀ v ∈ l,wfS v)→wfSs l
 | [],_=>trivial
 | v :: r,h=>⟨h v (.head _),wfSs_of fun x hx=>h x (.tail _ hx)⟩
theorem selP_fit {k:Nat} {sels:TS→PR (List SelD)} (hs:GP bSs wfSs 4 sels):GP bS wfS 1 (selP sels k):=fun t a t' h=>by
 unfold selP at h
 split at h
 ·rename_i hp
  have h0:=tail_p hp
  unfold spreadP at h
  split at h
  ·obtain ⟨s,t1,h1,h2⟩:=pb_inv h
   obtain ⟨d,t2,h3,h4⟩:=pb_inv h2
   cases h4
   have g1:=nameP_fit _ _ _ h1
   have g2:=dirsP_fit false k _ _ _ h3
   have w1:=g1.w
   have w2:=g2.w
   exact ⟨(g2.suf.trans g1.suf).trans h0.1,by simp only [bS,bMs,bSs,List.length_nil];omega,trivial,g2.ok,trivial⟩
  ·obtain ⟨o,t1,h1,h2⟩:=pb_inv h
   obtain ⟨d,t2,h3,h4⟩:=pb_inv h2
   obtain ⟨l,t3,h5,h6⟩:=pb_inv h4
   cases h6
   have g1:t1 <:+ t.tail∧o.length+wT t1≤wT t.tail:=by
    split at h1
    ·rename_i hw
     have h7:=tail_ww hw
     have g:=nameP_fit _ _ _ h1
     have w:=g.w
     exact ⟨g.suf.trans h7.1,by omega⟩
    ·cases h1;exact ⟨List.suffix_refl _,by simp⟩
   have g2:=dirsP_fit false k _ _ _ h3
   have g3:=hs _ _ _ h5
   have w2:=g2.w
   have w3:=g3.w
   exact ⟨((g3.suf.trans g2.suf).trans g1.1).trans h0.1,by simp only [bS,bMs,List.length_nil];omega,trivial,g2.ok,g3.ok⟩
 ·obtain ⟨s,t1,h1,h2⟩:=pb_inv h
  obtain ⟨an,t2,h3,h4⟩:=pb_inv h2
  obtain ⟨l,t3,h5,h6⟩:=pb_inv h4
  obtain ⟨d,t4,h7,h8⟩:=pb_inv h6
  obtain ⟨ss,t5,h9,h10⟩:=pb_inv h8
  cases h10
  have g1:=nameP_fit _ _ _ h1
  have g2:t2 <:+ t1∧an.1.length+an.2.length+wT t2≤s.length+wT t1:=by
   split at h3
   ·rename_i hw
    have h7:=tail_p hw
    obtain ⟨s2,t6,h11,h12⟩:=pb_inv h3
    cases h12
    have g:=nameP_fit _ _ _ h11
    have w:=g.w
    exact ⟨g.suf.trans h7.1,by simp only;omega⟩
   ·cases h3;exact ⟨List.suffix_refl _,by simp⟩
  have g3:=argsP_fit false k _ _ _ h5
  have g4:=dirsP_fit false k _ _ _ h7
  have g5:t' <:+ t4∧bSs ss+wT t'≤wT t4∧wfSs ss:=by
   split at h9
   ·have g:=hs _ _ _ h9
    have w:=g.w
    exact ⟨g.suf,by omega,g.ok⟩
   ·cases h9;exact ⟨List.suffix_refl _,by simp [bSs],trivial⟩
  have w1:=g1.w
  have w3:=g3.w
  have w4:=g4.w
  exact ⟨(((g5.1.trans g4.suf).trans g3.suf).trans g2.1).trans g1.suf,by simp only [bS,List.length_nil];omega,g3.ok,g4.ok,g5.2.2⟩
theorem selsP_fit:∀ k,GP bSs wfSs 4 (selsP k)
 | 0=>fun t a t' h=>by rw [selsP] at h;split at h<;>cases h
 | k+1=>fun t a t' h=>by
  rw [selsP] at h
  split at h
  ·rename_i hp
   have h0:=tail_p hp
   have g:=many1P_fit (selP_fit (k:=k) (selsP_fit k)) _ _ _ h
   have e:=bSs_sm a
   have w:=g.w
   exact ⟨g.suf.trans h0.1,by omega,wfSs_of g.ok⟩
  ·cases h
theorem inR_small {n:Int} (h0:0≤n) (h1:n<64):inR n:=by simp only [inR];omega
theorem okTy_wf {ty:TyD} (h:okTy' 4 ty):inR ty.lists∧inR ty.musts:=by
 obtain ⟨h1,h2,h3,h4⟩:=h
 refine ⟨inR_small h1 (by omega),inR_small h3 ?_⟩
 have:ty.lists.toNat+1≤5:=by omega
 have h5:(2:Int) ^ (ty.lists.toNat+1)≤2 ^ 5:=by exact_mod_cast Nat.pow_le_pow_right (by decide) this
 omega
theorem varP_fit:GP bW wfW 1 varP:=fun t a t' h=>by
 obtain ⟨_,t1,h1,h2⟩:=pb_inv h
 obtain ⟨s,t2,h3,h4⟩:=pb_inv h2
 obtain ⟨_,t3,h5,h6⟩:=pb_inv h4
 obtain ⟨ty,t4,h7,h8⟩:=pb_inv h6
 have g1:=mustP_fit _ _ _ _ h1
 have g2:=nameP_fit _ _ _ h3
 have g3:=mustP_fit _ _ _ _ h5
 have g4:=typP_fit 4 _ _ _ h7
 have w1:=g1.w
 have w2:=g2.w
 have w3:=g3.w
 have w4:=g4.w
 simp only [b0] at w1 w3
 have hw:=okTy_wf g4.ok
 split at h8
 ·rename_i hp
  have h0:=tail_p hp
  obtain ⟨v,t5,h9,h10⟩:=pb_inv h8
  cases h10
  have g5:=valP_fit true 16 _ _ _ h9
  have w5:=g5.w
  exact ⟨((((g5.suf.trans h0.1).trans g4.suf).trans g3.suf).trans g2.suf).trans g1.suf,by simp only [bW];omega,hw.1,hw.2,g5.ok⟩
 ·cases h8
  exact ⟨((g4.suf.trans g3.suf).trans g2.suf).trans g1.suf,by simp only [bW,zV_fit.1];omega,hw.1,hw.2,zV_fit.2⟩
theorem bWs_sm (l:List VarD):bWs l+l.length=sm bW l:=rfl
theorem opP_fit (kind:Int):GP bO wfO 1 (opP kind):=fun t a t' h=>by
 obtain ⟨s,t1,h1,h2⟩:=pb_inv h
 obtain ⟨vs,t2,h3,h4⟩:=pb_inv h2
 obtain ⟨d,t3,h5,h6⟩:=pb_inv h4
 obtain ⟨l,t4,h7,h8⟩:=pb_inv h6
 cases h8
 have g1:t1 <:+ t∧s.length+wT t1≤wT t:=by
  split at h1
  ·have g:=nameP_fit _ _ _ h1
   have w:=g.w
   exact ⟨g.suf,by omega⟩
  ·cases h1;exact ⟨List.suffix_refl _,by simp⟩
 have g2:t2 <:+ t1∧bWs vs+wT t2≤wT t1∧∀ x ∈ vs,wfW x:=by
  split at h3
  ·rename_i hp
   have h0:=tail_p hp
   have g:=many1P_fit varP_fit _ _ _ h3
   have w:=g.w
   have e:=bWs_sm vs
   exact ⟨g.suf.trans h0.1,by omega,g.ok⟩
  ·cases h3;exact ⟨List.suffix_refl _,by simp [bWs],fun x hx=>(by cases hx)⟩
 have g3:=dirsP_fit true 16 _ _ _ h5
 have g4:=selsP_fit 16 _ _ _ h7
 have w3:=g3.w
 have w4:=g4.w
 exact ⟨((g4.suf.trans g3.suf).trans g2.1).trans g1.1,by simp only [bO];omega,g2.2.2,g3.ok,g4.ok⟩
theorem fragP_fit:GP bF wfF 1 fragP:=fun t a t' h=>by
 obtain ⟨s,t1,h1,h2⟩:=pb_inv h
 obtain ⟨_,t2,h3,h4⟩:=pb_inv h2
 obtain ⟨o,t3,h5,h6⟩:=pb_inv h4
 obtain ⟨d,t4,h7,h8⟩:=pb_inv h6
 obtain ⟨l,t5,h9,h10⟩:=pb_inv h8
 cases h10
 have g1:Fp List.length T1 4 t s t1:=by
  split at h1
  ·cases h1
  ·exact nameP_fit _ _ _ h1
 have g2:t2 <:+ t1∧wT t2≤wT t1:=by
  split at h3
  ·rename_i hw
   cases h3
   have h0:=tail_ww hw
   exact ⟨h0.1,by omega⟩
  ·cases h3
 have g3:=nameP_fit _ _ _ h5
 have g4:=dirsP_fit true 16 _ _ _ h7
 have g5:=selsP_fit 16 _ _ _ h9
 have w1:=g1.w
 have w3:=g3.w
 have w4:=g4.w
 have w5:=g5.w
 exact ⟨(((g5.suf.trans g4.suf).trans g3.suf).trans g2.1).trans g1.suf,by simp only [bF];omega,g4.ok,g5.ok⟩
structure DocFit (d:DocD) (t:TS) (d':DocD) (t':TS):Prop where
 suf:t' <:+ t
 lt:t'.length<t.length
 w:bDoc d'+wT t'≤bDoc d+wT t
 ok:wfDoc d→wfDoc d'
theorem bOs_snoc (l:List OpD) (o:OpD):bOs (l++[o])=bOs l+bO o:=by simp [bOs]
theorem bFs_snoc (l:List FragD) (o:FragD):bFs (l++[o])=bFs l+bF o:=by simp [bFs]
theorem defP_fit {d:DocD} {t:TS} {d':DocD} {t':TS} (h:defP d t=.ok (d',t')):DocFit d t d' t':=by
 have key:∀ {u:TS},t' <:+ u→u <:+ t→wT t'<wT t→t'.length<t.length:=fun h1 h2 h3=>by
  obtain ⟨p,hp⟩:=h1.trans h2
  cases p with
  | nil=>simp at hp;subst hp;omega
  | cons x p=>rw [← hp];simp;omega
 have op:∀ (kind:Int) (w:List UInt8),isW w t=true→pb (opP kind t.tail) (fun o t=>.ok ((⟨d.ops++[o],d.frags⟩:DocD),t))=.ok (d',t')→DocFit d t d' t':=fun kind w hw h=>by
  have h0:=tail_ww hw
  obtain ⟨o,t1,h1,h2⟩:=pb_inv h
  cases h2
  have g:=opP_fit kind _ _ _ h1
  have w1:=g.w
  exact ⟨g.suf.trans h0.1,key g.suf h0.1 (by omega),by simp only [bDoc,bOs_snoc];omega,fun hd=>⟨ok_snoc hd.1 g.ok,hd.2⟩⟩
 unfold defP at h
 split at h
 ·obtain ⟨l,t1,h1,h2⟩:=pb_inv h
  cases h2
  have g:=selsP_fit 16 _ _ _ h1
  have w1:=g.w
  refine ⟨g.suf,key g.suf (List.suffix_refl t) (by omega),?_,fun hd=>⟨ok_snoc hd.1 ⟨fun x hx=>(by cases hx),fun x hx=>(by cases hx),g.ok⟩,hd.2⟩⟩
  simp only [bDoc,bOs_snoc,bO,bWs,bDs,List.map_nil,List.sum_nil,List.length_nil];omega
 split at h
 ·rename_i hw;exact op 0 _ hw h
 split at h
 ·rename_i hw;exact op 1 _ hw h
 split at h
 ·rename_i hw
  have h0:=tail_ww hw
  obtain ⟨o,t1,h1,h2⟩:=pb_inv h
  cases h2
  have g:=fragP_fit _ _ _ h1
  have w1:=g.w
  exact ⟨g.suf.trans h0.1,key g.suf h0.1 (by omega),by simp only [bDoc,bFs_snoc];omega,fun hd=>⟨hd.1,ok_snoc hd.2 g.ok⟩⟩
 ·cases h
theorem defsP_fit:∀ (n:Nat) (d:DocD) (t:TS) (d':DocD) (t':TS),defsP n d t=.ok (d',t')→t'=[]∧bDoc d'≤bDoc d+wT t∧(wfDoc d→wfDoc d')
 | 0,_,_,_,_,h=>by cases h
 | n+1,d,t,d',t',h=>by
  simp only [defsP] at h
  split at h
  ·rename_i ht
   cases h
   exact ⟨ht,by omega,id⟩
  ·obtain ⟨d1,t1,h1,h2⟩:=pb_inv h
   have g1:=defP_fit h1
   have g2:=defsP_fit n _ _ _ _ h2
   have w1:=g1.w
   exact ⟨g2.1,by omega,fun hd=>g2.2.2 (g1.ok hd)⟩
theorem docP_fit {t:TS} {d:DocD} {t':TS} (h:docP t=.ok (d,t')):t'=[]∧bDoc d≤wT t∧wfDoc d:=by
 obtain ⟨d1,t1,h1,h2⟩:=pb_inv h
 have g1:=defP_fit h1
 have g2:=defsP_fit _ _ _ _ _ h2
 have w1:=g1.w
 have e0:bDoc ⟨[],[]⟩=0:=rfl
 exact ⟨g2.1,by omega,g2.2.2 (g1.ok ⟨fun x hx=>(by cases hx),fun x hx=>(by cases hx)⟩)⟩
end Go.Proofs.YticbbfbpeimkbaaGreatDoor
namespace Go.Proofs.YticbbfbpeimkbaaGreatDoor
open Go.Ab
theorem wordPC (s:List UInt8):Pure Tryz.prog 175 [.str s] (.agg (cV (wordV s))):=by
 refine Pure.go ir175 ck175 (Nat.le_refl _) fun KP Q hQ=>?_
 simp (disch:=first|omega|assumption) only [ir175,go_sem,↓reduceIte]
 refine goA_intro fun b hb=>?_
 by_cases h1:s=[110,117,108,108]
 ·have h1':(s=[110,117,108,108])=True:=eq_true h1
  simp (disch:=first|omega|assumption) only [h1',go_sem,↓reduceIte]
  exact hQ _ _ _ [.agg [.int .i64 0,.int .i64 0,.str [],.sl .nil 5 [],.sl .nil 6 []]] nofun (by simp (disch:=first|omega|assumption) only [ir175,resvs,resv,go_sem,↓reduceIte]) (by rw [wordV,if_pos h1];rfl)
 by_cases h2:s=[116,114,117,101]
 ·have h2':(s=[116,114,117,101])=True:=eq_true h2
  simp (disch:=first|omega|assumption) only [h1,h2',go_sem,↓reduceIte]
  exact hQ _ _ _ [.agg [.int .i64 1,.int .i64 1,.str [],.sl .nil 5 [],.sl .nil 6 []]] nofun (by simp (disch:=first|omega|assumption) only [ir175,resvs,resv,go_sem,↓reduceIte]) (by rw [wordV,if_neg h1,if_pos h2];rfl)
 by_cases h3:s=[102,97,108,115,101]
 ·have h3':(s=[102,97,108,115,101])=True:=eq_true h3
  simp (disch:=first|omega|assumption) only [h1,h2,h3',go_sem,↓reduceIte]
  exact hQ _ _ _ [.agg [.int .i64 1,.int .i64 0,.str [],.sl .nil 5 [],.sl .nil 6 []]] nofun (by simp (disch:=first|omega|assumption) only [ir175,resvs,resv,go_sem,↓reduceIte]) (by rw [wordV,if_neg h1,if_neg h2,if_pos h3];rfl)
 simp (disch:=first|omega|assumption) only [h1,h2,h3,go_sem,↓reduceIte]
 exact hQ _ _ _ [.agg [.int .i64 5,.int .i64 0,.str s,.sl .nil 5 [],.sl .nil 6 []]] nofun (by simp (disch:=first|omega|assumption) only [ir175,resvs,resv,go_sem,↓reduceIte]) (by rw [wordV,if_neg h1,if_neg h2,if_neg h3];rfl)
def ValPC (fixed:Bool) (k:Nat):Prop:=∀ (H:Heap) (r:Nat) (L p t:TS),p++t=L→wT L≤LimP→H r=some (prc L p (16-k)) →
 ACalls Tryz.prog 96 [.ptr r 0,.bool fixed] H (RpE H r L (16-k) (valP fixed k t) fun v=>.agg (cV v))
theorem memberPC {fixed:Bool} {k:Nat} (hv:ValPC fixed k) {H:Heap} {r:Nat} {L p t:TS} (hs:p++t=L) (hl:wT L≤LimP) (hr:H r=some (prc L p (16-k))) :
  ACalls Tryz.prog 181 [.ptr r 0,.bool fixed] H (RpE H r L (16-k) (memberP (valP fixed k) t) fun m=>.agg (cM m)):=by
 refine retStrip (ACalls.goO (R:=fun v H'=>RetQ H r L (16-k) (memberP (valP fixed k) t) (fun m=>.agg (cM m)) v.strip H') (RP:=fun v H'=>PanQ (memberP (valP fixed k) t) v H') ir181 ck181 (Nat.le_refl _) fun KP Q hQ hP=>?_)
 have hll:L.length≤LimP:=Nat.le_trans (len_w L) hl
 have pan:∀ (v:AV) (H1:Heap) (n:Int),v=stopP n→memberP (valP fixed k) t=.error n→KP v H1:=fun v H1 n h1 h2=>hP v H1 H1 (Low.refl _) ⟨n,h2,h1⟩
 have fin:=KI.done hQ
 have K0:=KI.start hs hr
 simp (disch:=first|omega|assumption) only [ir181,go_sem,↓reduceIte]
 refine goA_intro fun b4 hb4=>?_
 have n4:=K0.ne hb4
 have K1:=K0.box (x:=.cells [.str [],.int .i64 0,.int .i64 0,.str [],.sl .nil 5 [],.sl .nil 6 []]) hb4
 simp (disch:=first|omega|assumption) only [go_sem,↓reduceIte]
 refine goK_both (namePC (dp:=16-k) hs hll (by rw [upd_ne n4];exact hr)) (fun v H1 ⟨nm,t1,e1,hv1,ha1⟩=>?_) fun v H1 ⟨n,e1,hv1⟩=>pan v H1 n hv1 (by rw [memberP,e1];rfl)
 subst hv1
 have K2:=K1.call ha1
 obtain ⟨p1,hp1,hr1⟩:=K2.here
 have g1:H1 b4=some (.cells [.str [],.int .i64 0,.int .i64 0,.str [],.sl .nil 5 [],.sl .nil 6 []]):=by rw [ha1.other (Ne.symm n4),upd_same]
 simp (disch:=first|omega|assumption) only [go_sem,↓reduceIte]
 refine goK_both (mustPC (dp:=16-k) hp1 hll hr1 [58]) (fun v H2 ⟨_,t2,e2,hv2,ha2⟩=>?_) fun v H2 ⟨n,e2,hv2⟩=>pan v H2 n hv2 (by rw [memberP,e1,pb_ok,e2];rfl)
 subst hv2
 have K3:=K2.call ha2
 obtain ⟨p2,hp2,hr2⟩:=K3.here
 have g2:H2 b4=some (.cells [.str [],.int .i64 0,.int .i64 0,.str [],.sl .nil 5 [],.sl .nil 6 []]):=by rw [ha2.other (Ne.symm n4),g1]
 simp (disch:=first|omega|assumption) only [go_sem,↓reduceIte]
 refine goK_both (hv _ r L p2 t2 hp2 hl hr2) (fun v H3 ⟨x,t3,e3,hv3,ha3⟩=>?_) fun v H3 ⟨n,e3,hv3⟩=>pan v H3 n hv3 (by rw [memberP,e1,pb_ok,e2,pb_ok,e3];rfl)
 subst hv3
 have K4:=K3.call ha3
 have g3:H3 b4=some (.cells [.str [],.int .i64 0,.int .i64 0,.str [],.sl .nil 5 [],.sl .nil 6 []]):=by rw [ha3.other (Ne.symm n4),g2]
 simp (disch:=first|omega|assumption) only [cV_len,cV_take,cV_splice,cM_len,cM_take,cM_splice,cM_mk,g3,go_sem,↓reduceIte]
 refine fin _ _ [.agg (.str nm :: cV x)] (.mk nm x) t3 (by simp (disch:=first|omega|assumption) only [cV_len,cV_take,cV_splice,cM_len,cM_take,cM_splice,cM_mk,ir181,resvs,resv,go_sem,↓reduceIte]) (by rw [memberP,e1,pb_ok,e2,pb_ok,e3];rfl) (K4.box hb4) ?_
 simp [tupOf,AV.strip,AV.strip1,cM_mk,cV_strip]
abbrev zB:List AV:=[.int .i64 0,.int .i64 0,.str [],.sl .nil 5 [],.sl .nil 6 []]
theorem valuePC (fixed:Bool) (k:Nat) (hk:k≤16) (ih:∀ n,k=n+1→ValPC fixed n):ValPC fixed k:=by
 intro H r L p t hs hl hr
 refine retStrip (ACalls.goO (R:=fun v H'=>RetQ H r L (16-k) (valP fixed k t) (fun v=>.agg (cV v)) v.strip H') (RP:=fun v H'=>PanQ (valP fixed k t) v H') ir96 ck96 (Nat.le_refl _) fun KP Q hQ hP=>?_)
 have hll:L.length≤LimP:=Nat.le_trans (len_w L) hl
 have hsl:(hdT t).s.length≤LimP:=Nat.le_trans (hd_w hs) hl
 have hplen:p.length+t.length=L.length:=by rw [← hs];simp
 have pan:∀ (v:AV) (H1:Heap) (n:Int),v=stopP n→valP fixed k t=.error n→KP v H1:=fun v H1 n h1 h2=>hP v H1 H1 (Low.refl _) ⟨n,h2,h1⟩
 have fin:=KI.done hQ
 have K0:=KI.start hs hr
 simp (disch:=first|omega|assumption) only [ir96,go_sem,↓reduceIte]
 refine goA_intro fun b4 hb4=>?_
 have n4:=K0.ne hb4
 simp (disch:=first|omega|assumption) only [go_sem,↓reduceIte]
 refine goK_ret (nextP (dp:=16-k) hs (by rw [upd_ne n4];exact hr)) fun v H1 ⟨hv,hH⟩=>?_
 subst hv;subst hH
 simp (disch:=first|omega|assumption) only [tokA,go_sem,↓reduceIte]
 refine goA_intro fun b5 hb5=>?_
 have h54:b5≠b4:=fun e=>by subst e;rw [upd_same] at hb5;cases hb5
 have hb5H:H b5=none:=by rw [upd_ne h54] at hb5;exact hb5
 have n5:=K0.ne hb5H
 simp (disch:=first|omega|assumption) only [go_sem,↓reduceIte]
 generalize hHa:Heap.upd (Heap.upd H b4 _) b5 _=Ha
 have g5:Ha b5=some (.cells [.int .i64 (hdT t).k,.str (hdT t).s]):=by rw [← hHa,upd_same]
 have g4:Ha b4=some (.cells zB):=by rw [← hHa,upd_ne (Ne.symm h54),upd_same]
 have gr:Ha r=some (prc L p (16-k)):=by rw [← hHa,upd_ne n5,upd_ne n4];exact hr
 have KA:KI H r L t (16-k) Ha:=by rw [← hHa];exact (K0.box hb4).box hb5H
 clear hHa
 have gr':=gr
 simp only [prc] at gr'
 simp only [zB] at g4
 have n5s:=Ne.symm n5
 have n4s:=Ne.symm n4
 simp only [LimP] at hsl
 have hll2:=hll
 simp only [LimP] at hll2
 by_cases hk2:(hdT t).k=2
 ·have hk2':((hdT t).k=2)=True:=eq_true hk2
  have e1:valP fixed k t=.ok (wordV (hdT t).s,t.tail):=by rw [valP_eq,valB.eq_def,if_pos hk2]
  simp (disch:=first|omega|assumption) only [hk2',g5,gr',wrap64,n5s,n4s,go_sem,↓reduceIte]
  refine goK_pure (wordPC _) ?_
  simp (disch:=first|omega|assumption) only [cV_len,cV_take,cV_splice,cM_len,cM_take,cM_splice,cM_mk,g4,n4s,go_sem,↓reduceIte]
  exact fin _ _ [.agg (cV (wordV (hdT t).s))] _ _ (by simp (disch:=first|omega|assumption) only [cV_len,cV_take,cV_splice,cM_len,cM_take,cM_splice,cM_mk,ir96,resvs,resv,go_sem,↓reduceIte]) e1 ((KA.call (prc_on hs (by rw [hk2];decide) _)).box hb4) (by simp [tupOf,AV.strip,cV_strip])
 by_cases hk34:(hdT t).k=3∨(hdT t).k=4
 ·have e1:valP fixed k t=.ok (numV (hdT t).s,t.tail):=by rw [valP_eq,valB.eq_def,if_neg hk2,if_pos hk34]
  have hk0:(hdT t).k≠0:=by omega
  have hd3:(decide ((hdT t).k=3) || decide ((hdT t).k=4))=true:=by simpa using hk34
  rcases Classical.em ((hdT t).k=3) with hk3|hk3
  ·have hk3':((hdT t).k=3)=True:=eq_true hk3
   simp (disch:=first|omega|assumption) only [hk2,hk3',g5,gr',wrap64,n5s,n4s,go_sem,↓reduceIte]
   refine goK_pure (WholeC _ (by simp only [Lim];omega)) ?_
   cases hw:wholeB (hdT t).s with
   | true =>
    simp (disch:=first|omega|assumption) only [go_sem,↓reduceIte]
    refine goK_pure (intP _) ?_
    simp (disch:=first|omega|assumption) only [cV_len,cV_take,cV_splice,cM_len,cM_take,cM_splice,cM_mk,g4,n4s,go_sem,↓reduceIte]
    refine fin _ _ [.agg (cV (.mk 2 (valI (hdT t).s) [] [] []))] _ _ (by simp (disch:=first|omega|assumption) only [cV_len,cV_take,cV_splice,cM_len,cM_take,cM_splice,cM_mk,ir96,resvs,resv,go_sem,↓reduceIte]) e1 ((KA.call (prc_on hs hk0 _)).box hb4) ?_
    simp [tupOf,AV.strip,cV_strip,numV,hw]
   | false =>
    simp (disch:=first|omega|assumption) only [g5,g4,n5s,n4s,go_sem,↓reduceIte]
    refine fin _ _ [.agg [.int .i64 3,.int .i64 0,.str (hdT t).s,.sl .nil 5 [],.sl .nil 6 []]] _ _ (by simp (disch:=first|omega|assumption) only [cV_len,cV_take,cV_splice,cM_len,cM_take,cM_splice,cM_mk,ir96,resvs,resv,go_sem,↓reduceIte]) e1 ((KA.call (prc_on hs hk0 _)).box hb4) ?_
    simp [tupOf,AV.strip,AV.strip1,numV,hw,cV,cVs,cMs]
  ·have hk4':((hdT t).k=4)=True:=eq_true (by omega)
   simp (disch:=first|omega|assumption) only [hk2,hk3,hk4',g5,gr',wrap64,n5s,n4s,go_sem,↓reduceIte]
   refine goK_pure (WholeC _ (by simp only [Lim];omega)) ?_
   cases hw:wholeB (hdT t).s with
   | true =>
    simp (disch:=first|omega|assumption) only [go_sem,↓reduceIte]
    refine goK_pure (intP _) ?_
    simp (disch:=first|omega|assumption) only [cV_len,cV_take,cV_splice,cM_len,cM_take,cM_splice,cM_mk,g4,n4s,go_sem,↓reduceIte]
    refine fin _ _ [.agg (cV (.mk 2 (valI (hdT t).s) [] [] []))] _ _ (by simp (disch:=first|omega|assumption) only [cV_len,cV_take,cV_splice,cM_len,cM_take,cM_splice,cM_mk,ir96,resvs,resv,go_sem,↓reduceIte]) e1 ((KA.call (prc_on hs hk0 _)).box hb4) ?_
    simp [tupOf,AV.strip,cV_strip,numV,hw]
   | false =>
    simp (disch:=first|omega|assumption) only [g5,g4,n5s,n4s,go_sem,↓reduceIte]
    refine fin _ _ [.agg [.int .i64 3,.int .i64 0,.str (hdT t).s,.sl .nil 5 [],.sl .nil 6 []]] _ _ (by simp (disch:=first|omega|assumption) only [cV_len,cV_take,cV_splice,cM_len,cM_take,cM_splice,cM_mk,ir96,resvs,resv,go_sem,↓reduceIte]) e1 ((KA.call (prc_on hs hk0 _)).box hb4) ?_
    simp [tupOf,AV.strip,AV.strip1,numV,hw,cV,cVs,cMs]
 by_cases hk5:(hdT t).k=5
 ·have hk5':((hdT t).k=5)=True:=eq_true hk5
  have hk3:¬ ((hdT t).k=3):=by omega
  have hk4:¬ ((hdT t).k=4):=by omega
  have e1:valP fixed k t=.ok (.mk 4 0 (hdT t).s [] [],t.tail):=by rw [valP_eq,valB.eq_def,if_neg hk2,if_neg hk34,if_pos hk5]
  simp (disch:=first|omega|assumption) only [hk2,hk3,hk4,hk5',g5,gr',wrap64,n5s,n4s,go_sem,↓reduceIte]
  refine goK_pure (textP _) ?_
  simp (disch:=first|omega|assumption) only [cV_len,cV_take,cV_splice,cM_len,cM_take,cM_splice,cM_mk,g4,n4s,go_sem,↓reduceIte]
  exact fin _ _ [.agg (cV (.mk 4 0 (hdT t).s [] []))] _ _ (by simp (disch:=first|omega|assumption) only [cV_len,cV_take,cV_splice,cM_len,cM_take,cM_splice,cM_mk,ir96,resvs,resv,go_sem,↓reduceIte]) e1 ((KA.call (prc_on hs (by rw [hk5];decide) _)).box hb4) (by simp [tupOf,AV.strip,cV_strip])
 have hk3:¬ ((hdT t).k=3):=fun e=>hk34 (.inl e)
 have hk4:¬ ((hdT t).k=4):=fun e=>hk34 (.inr e)
 have bad1:isP [91] t=true→k=0→valP fixed k t=.error 4:=fun hi h=>by
  subst h
  rw [valP_eq,valB.eq_def,if_neg hk2,if_neg hk34,if_neg hk5,if_pos hi];rfl
 have bad2:¬ (isP [91] t=true)→isP [123] t=true→k=0→valP fixed k t=.error 4:=fun h0 hi h=>by
  subst h
  rw [valP_eq,valB.eq_def,if_neg hk2,if_neg hk34,if_neg hk5,if_neg h0,if_pos hi];rfl
 simp (disch:=first|omega|assumption) only [hk2,hk3,hk4,hk5,g5,go_sem,↓reduceIte]
 refine goK_both (openPC (dp:=16-k) hs hll (by omega) gr [91]) (fun v H1 ⟨hv,hat,haf⟩=>?_) fun v H1 ⟨hi,h16,hv⟩=>pan v H1 4 hv (bad1 hi (by omega))
 subst hv
 cases hi:isP [91] t with
 | true =>
  obtain ⟨hd16,ha1⟩:=hat hi
  obtain ⟨n,rfl⟩:∃ n,k=n+1:=⟨k-1,by omega⟩
  rw [show 16-(n+1)+1=16-n by omega] at ha1
  have K1:=KA.call ha1
  have g41:H1 b4=some (.cells zB):=by rw [ha1.other n4s,g4]
  have hi0:isP [91] t=true:=hi
  have hi2:isP [91] t=true:=hi
  simp (disch:=first|omega|assumption) only [go_sem,↓reduceIte]
  refine goA_intro fun b8 hb8=>?_
  have hb8':=hb8
  have hb8H:H b8=none:=K1.none hb8
  have n8:=K1.ne hb8H
  have h84:b8≠b4:=fun e=>by subst e;rw [g41] at hb8;cases hb8
  have K2:KO H r L t.tail (16-n) (H1.upd b8 (.cells [.int .i64 6,.int .i64 0,.str [],.sl .nil 5 [],.sl .nil 6 []])) .nil 0 5:=⟨K1.box hb8H,rfl,nofun⟩
  obtain ⟨R,hR⟩:∃ R,manyP [93] (valP fixed n) (t.tail.length+1) [] t.tail=R:=⟨_,rfl⟩
  have hx:valP fixed (n+1) t=pb R fun l t=>.ok (Val.mk 6 0 [] l [],t):=by rw [← hR,valP_eq,valB.eq_def,if_neg hk2,if_neg hk34,if_neg hk5,if_pos hi2];rfl
  simp (disch:=first|omega|assumption) only [List.map_nil,go_sem,↓reduceIte]
  refine goL_st (fun x:Own × List Val × TS=>[]) (fun x H'=>KO H r L x.2.2 (16-n) H' x.1 x.2.1.length 5∧H' b8=some (.cells [.int .i64 6,.int .i64 0,.str [],.sl x.1 5 (cVs x.2.1),.sl .nil 6 []])∧H' b4=some (.cells zB)∧(∃ m,x.2.2.length<m∧manyP [93] (valP fixed n) m x.2.1 x.2.2=R)∧x.2.1.length+x.2.2.length≤L.length) (fun x=>x.2.2.length) (.nil,[],t.tail) (by simp (disch:=first|omega|assumption) only [go_sem,↓reduceIte]) ⟨K2,upd_same ..,by rw [upd_ne (Ne.symm h84)];exact g41,⟨_,Nat.lt_succ_self _,hR⟩,by have:=K1.here;obtain ⟨q,hq,_⟩:=this;rw [← hq];simp⟩ ?_
  rintro ⟨o,l,u⟩ H3 J ⟨K3,g8,g4,⟨m,hm,hR3⟩,hlen⟩ hJ
  simp only at K3 g8 g4 hm hR3 hlen
  obtain ⟨m,rfl⟩:∃ j,m=j+1:=⟨m-1,by omega⟩
  obtain ⟨p3,hp3,hr3⟩:=K3.here
  have hcl:=cVs_len l
  simp (disch:=first|omega|assumption) only [go_sem,↓reduceIte]
  refine goK_ret (closePC hp3 hll (by omega) hr3 [93]) fun v H4 ⟨hv4,hat,haf⟩=>?_
  subst hv4
  cases hj:isP [93] u with
  | true =>
   have ha4:=hat hj
   have K4:=K3.call ha4
   rw [show 16-n-1=16-(n+1) by omega] at K4
   have g84:H4 b8=some (.cells [.int .i64 6,.int .i64 0,.str [],.sl o 5 (cVs l),.sl .nil 6 []]):=by rw [ha4.other (Ne.symm n8),g8]
   have g44:H4 b4=some (.cells zB):=by rw [ha4.other (Ne.symm n4),g4]
   simp only [zB] at g44
   have e1:R=.ok (l,u.tail):=by rw [← hR3,manyP,hj];rfl
   simp (disch:=first|omega|assumption) only [g84,g44,Ne.symm h84,h84,go_sem,↓reduceIte]
   refine fin _ _ [.agg [.int .i64 6,.int .i64 0,.str [],.sl o 5 (cVs l),.sl .nil 6 []]] (Val.mk 6 0 [] l []) u.tail (by simp (disch:=first|omega|assumption) only [ir96,resvs,resv,go_sem,↓reduceIte]) (by rw [hx,e1];rfl) (K4.toKI.box hb4) ?_
   simp [tupOf,AV.strip,AV.strip1,cV,cVs,cMs,cVs_strip]
  | false =>
   have ha4:=haf hj
   have K4:=K3.call ha4
   obtain ⟨p4,hp4,hr4⟩:=K4.here
   have g84:H4 b8=some (.cells [.int .i64 6,.int .i64 0,.str [],.sl o 5 (cVs l),.sl .nil 6 []]):=by rw [ha4.other (Ne.symm n8),g8]
   have g44:H4 b4=some (.cells zB):=by rw [ha4.other (Ne.symm n4),g4]
   rw [manyP,hj] at hR3
   simp only [Bool.false_eq_true,if_false] at hR3
   simp (disch:=first|omega|assumption) only [g84,go_sem,↓reduceIte]
   refine goK_both (ih n rfl _ r L p4 u hp4 hl hr4) (fun v H5 ⟨x,t5,e5,hv5,ha5⟩=>?_) fun v H5 ⟨n5,e5,hv5⟩=>pan v H5 n5 hv5 (by rw [hx,← hR3,e5];rfl)
   subst hv5
   rw [e5,pb_ok] at hR3
   have hlt:=(valP_fit fixed n).lt (by decide) _ _ _ e5
   have K5:=K4.call ha5
   have g85:H5 b8=some (.cells [.int .i64 6,.int .i64 0,.str [],.sl o 5 (cVs l),.sl .nil 6 []]):=by rw [ha5.other (Ne.symm n8),g84]
   have g45:H5 b4=some (.cells zB):=by rw [ha5.other (Ne.symm n4),g44]
   simp (disch:=first|omega|assumption) only [cV_len,cV_take,cV_splice,cM_len,cM_take,cM_splice,cM_mk,g85,go_sem,↓reduceIte]
   refine goP_ownS (by rw [hcl];exact K5.own) (by simp only [hcl,List.length_cons,List.length_nil];simp only [LimP] at hll;omega) (by simp only [hcl,List.length_cons,List.length_nil,maxLen];simp only [LimP] at hll;omega) fun o6 H6 hs6=>?_
   have K6:=K5.app (by simpa [hcl] using hs6)
   have g86:=K5.stay hs6 g85
   have g46:=K5.stay hs6 g45
   simp (disch:=first|omega|assumption) only [cV_len,cV_take,cV_splice,cM_len,cM_take,cM_splice,cM_mk,g86,go_sem,↓reduceIte]
   refine goJ (hJ (o6,l++[x],t5) _ (by simp only;omega) ⟨by simpa using K6.box hb8H g86,by rw [upd_same];simp [cVs_map,cV_strip],by rw [upd_ne (Ne.symm h84)];exact g46,⟨m,by simp only;omega,hR3⟩,by simp only [List.length_append,List.length_cons,List.length_nil];omega⟩) (by simp (disch:=first|omega|assumption) only [go_sem,↓reduceIte])
 | false =>
  have ha1:=haf hi
  have K1:=KA.call ha1
  have g41:H1 b4=some (.cells zB):=by rw [ha1.other n4s,g4]
  obtain ⟨p1,hp1,hr1⟩:=K1.here
  have hi0:¬ (isP [91] t=true):=by rw [hi];decide
  clear hat haf
  simp (disch:=first|omega|assumption) only [go_sem,↓reduceIte]
  refine goK_both (openPC (dp:=16-k) hp1 hll (by omega) hr1 [123]) (fun v H2 ⟨hv,hat,haf⟩=>?_) fun v H2 ⟨hi,h16,hv⟩=>pan v H2 4 hv (bad2 hi0 hi (by omega))
  subst hv
  cases hi:isP [123] t with
  | true =>
   obtain ⟨hd16,ha2⟩:=hat hi
   obtain ⟨n,rfl⟩:∃ n,k=n+1:=⟨k-1,by omega⟩
   rw [show 16-(n+1)+1=16-n by omega] at ha2
   have K1:=K1.call ha2
   have g41:H2 b4=some (.cells zB):=by rw [ha2.other n4s,g41]
   clear hat haf
   have hi2:isP [123] t=true:=hi
   simp (disch:=first|omega|assumption) only [go_sem,↓reduceIte]
   refine goA_intro fun b8 hb8=>?_
   have hb8':=hb8
   have hb8H:H b8=none:=K1.none hb8
   have n8:=K1.ne hb8H
   have h84:b8≠b4:=fun e=>by subst e;rw [g41] at hb8;cases hb8
   have K2:KO H r L t.tail (16-n) (H2.upd b8 (.cells [.int .i64 7,.int .i64 0,.str [],.sl .nil 5 [],.sl .nil 6 []])) .nil 0 6:=⟨K1.box hb8H,rfl,nofun⟩
   obtain ⟨R,hR⟩:∃ R,manyP [125] (memberP (valP fixed n)) (t.tail.length+1) [] t.tail=R:=⟨_,rfl⟩
   have hx:valP fixed (n+1) t=pb R fun l t=>.ok (Val.mk 7 0 [] [] l,t):=by rw [← hR,valP_eq,valB.eq_def,if_neg hk2,if_neg hk34,if_neg hk5,if_neg hi0,if_pos hi2];rfl
   simp (disch:=first|omega|assumption) only [List.map_nil,go_sem,↓reduceIte]
   refine goL_st (fun x:Own × List Mem × TS=>[]) (fun x H'=>KO H r L x.2.2 (16-n) H' x.1 x.2.1.length 6∧H' b8=some (.cells [.int .i64 7,.int .i64 0,.str [],.sl .nil 5 [],.sl x.1 6 (cMs x.2.1)])∧H' b4=some (.cells zB)∧(∃ m,x.2.2.length<m∧manyP [125] (memberP (valP fixed n)) m x.2.1 x.2.2=R)∧x.2.1.length+x.2.2.length≤L.length) (fun x=>x.2.2.length) (.nil,[],t.tail) (by simp (disch:=first|omega|assumption) only [go_sem,↓reduceIte]) ⟨K2,upd_same ..,by rw [upd_ne (Ne.symm h84)];exact g41,⟨_,Nat.lt_succ_self _,hR⟩,by have:=K1.here;obtain ⟨q,hq,_⟩:=this;rw [← hq];simp⟩ ?_
   rintro ⟨o,l,u⟩ H3 J ⟨K3,g8,g4,⟨m,hm,hR3⟩,hlen⟩ hJ
   simp only at K3 g8 g4 hm hR3 hlen
   obtain ⟨m,rfl⟩:∃ j,m=j+1:=⟨m-1,by omega⟩
   obtain ⟨p3,hp3,hr3⟩:=K3.here
   have hcl:=cMs_len l
   simp (disch:=first|omega|assumption) only [go_sem,↓reduceIte]
   refine goK_ret (closePC hp3 hll (by omega) hr3 [125]) fun v H4 ⟨hv4,hat,haf⟩=>?_
   subst hv4
   cases hj:isP [125] u with
   | true =>
    have ha4:=hat hj
    have K4:=K3.call ha4
    rw [show 16-n-1=16-(n+1) by omega] at K4
    have g84:H4 b8=some (.cells [.int .i64 7,.int .i64 0,.str [],.sl .nil 5 [],.sl o 6 (cMs l)]):=by rw [ha4.other (Ne.symm n8),g8]
    have g44:H4 b4=some (.cells zB):=by rw [ha4.other (Ne.symm n4),g4]
    simp only [zB] at g44
    have e1:R=.ok (l,u.tail):=by rw [← hR3,manyP,hj];rfl
    simp (disch:=first|omega|assumption) only [g84,g44,Ne.symm h84,h84,go_sem,↓reduceIte]
    refine fin _ _ [.agg [.int .i64 7,.int .i64 0,.str [],.sl .nil 5 [],.sl o 6 (cMs l)]] (Val.mk 7 0 [] [] l) u.tail (by simp (disch:=first|omega|assumption) only [ir96,resvs,resv,go_sem,↓reduceIte]) (by rw [hx,e1];rfl) (K4.toKI.box hb4) ?_
    simp [tupOf,AV.strip,AV.strip1,cV,cVs,cMs,cMs_strip]
   | false =>
    have ha4:=haf hj
    have K4:=K3.call ha4
    obtain ⟨p4,hp4,hr4⟩:=K4.here
    have g84:H4 b8=some (.cells [.int .i64 7,.int .i64 0,.str [],.sl .nil 5 [],.sl o 6 (cMs l)]):=by rw [ha4.other (Ne.symm n8),g8]
    have g44:H4 b4=some (.cells zB):=by rw [ha4.other (Ne.symm n4),g4]
    rw [manyP,hj] at hR3
    simp only [Bool.false_eq_true,if_false] at hR3
    simp (disch:=first|omega|assumption) only [g84,go_sem,↓reduceIte]
    refine goK_both (memberPC (ih n rfl) hp4 hl hr4) (fun v H5 ⟨x,t5,e5,hv5,ha5⟩=>?_) fun v H5 ⟨n5,e5,hv5⟩=>pan v H5 n5 hv5 (by rw [hx,← hR3,e5];rfl)
    subst hv5
    rw [e5,pb_ok] at hR3
    have hlt:=(memberP_fit (valP_fit fixed n)).lt (by decide) _ _ _ e5
    have K5:=K4.call ha5
    have g85:H5 b8=some (.cells [.int .i64 7,.int .i64 0,.str [],.sl .nil 5 [],.sl o 6 (cMs l)]):=by rw [ha5.other (Ne.symm n8),g84]
    have g45:H5 b4=some (.cells zB):=by rw [ha5.other (Ne.symm n4),g44]
    simp (disch:=first|omega|assumption) only [cV_len,cV_take,cV_splice,cM_len,cM_take,cM_splice,cM_mk,g85,go_sem,↓reduceIte]
    refine goP_ownS (by rw [hcl];exact K5.own) (by simp only [hcl,List.length_cons,List.length_nil];simp only [LimP] at hll;omega) (by simp only [hcl,List.length_cons,List.length_nil,maxLen];simp only [LimP] at hll;omega) fun o6 H6 hs6=>?_
    have K6:=K5.app (by simpa [hcl] using hs6)
    have g86:=K5.stay hs6 g85
    have g46:=K5.stay hs6 g45
    simp (disch:=first|omega|assumption) only [cV_len,cV_take,cV_splice,cM_len,cM_take,cM_splice,cM_mk,g86,go_sem,↓reduceIte]
    refine goJ (hJ (o6,l++[x],t5) _ (by simp only;omega) ⟨by simpa using K6.box hb8H g86,by rw [upd_same];simp [cMs_map,cM_strip],by rw [upd_ne (Ne.symm h84)];exact g46,⟨m,by simp only;omega,hR3⟩,by simp only [List.length_append,List.length_cons,List.length_nil];omega⟩) (by simp (disch:=first|omega|assumption) only [go_sem,↓reduceIte])
  | false =>
   have ha2:=haf hi
   have K2:=K1.call ha2
   have g42:H2 b4=some (.cells zB):=by rw [ha2.other n4s,g41]
   obtain ⟨p2,hp2,hr2⟩:=K2.here
   have hi1:¬ (isP [123] t=true):=by rw [hi];decide
   cases hfx:fixed with
   | true =>
    subst hfx
    simp (disch:=first|omega|assumption) only [go_sem,↓reduceIte]
    exact goK_both (failP _ r 2) (fun _ _ h=>h.elim) fun v H3 h=>pan v H3 2 h (by rw [valP_eq,valB.eq_def,if_neg hk2,if_neg hk34,if_neg hk5,if_neg hi0,if_neg hi1];rfl)
   | false =>
    subst hfx
    have hx:valP false k t=pb (mustP [36] t) fun _ t=>pb (nameP t) fun s t=>.ok (.mk 8 0 s [] [],t):=by rw [valP_eq,valB.eq_def,if_neg hk2,if_neg hk34,if_neg hk5,if_neg hi0,if_neg hi1];rfl
    simp (disch:=first|omega|assumption) only [go_sem,↓reduceIte]
    refine goK_both (mustPC (dp:=16-k) hp2 hll hr2 [36]) (fun v H3 ⟨_,t3,e3,hv3,ha3⟩=>?_) fun v H3 ⟨n,e3,hv3⟩=>pan v H3 n hv3 (by rw [hx,e3];rfl)
    subst hv3
    have K3:=K2.call ha3
    obtain ⟨p3,hp3,hr3⟩:=K3.here
    have g43:H3 b4=some (.cells zB):=by rw [ha3.other n4s,g42]
    simp (disch:=first|omega|assumption) only [go_sem,↓reduceIte]
    refine goK_both (namePC (dp:=16-k) hp3 hll hr3) (fun v H4 ⟨s,t4,e4,hv4,ha4⟩=>?_) fun v H4 ⟨n,e4,hv4⟩=>pan v H4 n hv4 (by rw [hx,e3,pb_ok,e4];rfl)
    subst hv4
    have K4:=K3.call ha4
    have g44:H4 b4=some (.cells zB):=by rw [ha4.other n4s,g43]
    simp only [zB] at g44
    simp (disch:=first|omega|assumption) only [g44,go_sem,↓reduceIte]
    exact fin _ _ [.agg [.int .i64 8,.int .i64 0,.str s,.sl .nil 5 [],.sl .nil 6 []]] (.mk 8 0 s [] []) t4 (by simp (disch:=first|omega|assumption) only [ir96,resvs,resv,go_sem,↓reduceIte]) (by rw [hx,e3,pb_ok,e4];rfl) (K4.box hb4) rfl
theorem valuePall (fixed:Bool):∀ k,k≤16→ValPC fixed k
 | 0,h=>valuePC fixed 0 h fun n e=>by cases e
 | k+1,h=>valuePC fixed (k+1) h fun n e=>by cases e;exact valuePall fixed k (by omega)
end Go.Proofs.YticbbfbpeimkbaaGreatDoor
namespace Go.Proofs.YticbbfbpeimkbaaGreatDoor
open Go.Ab
theorem suf_len {p t L:TS} (h:p++t=L):t.length≤L.length:=by rw [← h];simp
theorem cD_map (l:List DirD):cDs l=l.map cD:=rfl
theorem argsPC {fixed:Bool} {k:Nat} (hk:k≤16) {H:Heap} {r:Nat} {L p t:TS} (hs:p++t=L) (hl:wT L≤LimP) (hr:H r=some (prc L p (16-k))) :
  ACalls Tryz.prog 300 [.ptr r 0,.bool fixed] H (RpE H r L (16-k) (argsP fixed k t) (fun l=>.sl .no 6 (cMs l))):=by
 refine retStrip (ACalls.goO (R:=fun v H'=>RetQ H r L (16-k) (argsP fixed k t) (fun l=>.sl .no 6 (cMs l)) v.strip H') (RP:=fun v H'=>PanQ (argsP fixed k t) v H') ir300 ck300 (Nat.le_refl _) fun KP Q hQ hP=>?_)
 have hll:L.length≤LimP:=Nat.le_trans (len_w L) hl
 have hll2:=hll
 simp only [LimP] at hll2
 have pan:∀ (v:AV) (H1:Heap) (n:Int),v=stopP n→(argsP fixed k t)=.error n→KP v H1:=fun v H1 n h1 h2=>hP v H1 H1 (Low.refl _) ⟨n,h2,h1⟩
 have fin:=KI.done hQ
 have K0:=KI.start hs hr
 have hv:=valuePall fixed k hk
 simp (disch:=first|omega|assumption) only [ir300,go_sem,↓reduceIte]
 refine goK_ret (mayPC (dp:=16-k) hs hll hr [40]) fun v H1 ⟨hv1,ha1⟩=>?_
 subst hv1
 cases hi:isP [40] t with
 | false =>
  rw [mayT,hi] at ha1
  simp (disch:=first|omega|assumption) only [go_sem,↓reduceIte]
  exact fin _ _ [.sl .nil 6 []] [] t (by simp (disch:=first|omega|assumption) only [ir300,resvs,resv,go_sem,↓reduceIte]) (by unfold argsP;rw [hi];rfl) (K0.call (by simpa using ha1)) (by simp [tupOf,AV.strip,AV.strip1,cMs])
 | true =>
  rw [mayT,hi,if_pos rfl] at ha1
  have K1:=K0.call ha1
  obtain ⟨p1,hp1,hr1⟩:=K1.here
  have hx:argsP fixed k t=pb (memberP (valP fixed k) t.tail) fun x t=>manyP [41] (memberP (valP fixed k)) (t.length+1) [x] t:=by
   unfold argsP;rw [hi]
   rfl
  simp (disch:=first|omega|assumption) only [go_sem,↓reduceIte]
  refine goK_both (memberPC hv hp1 hl hr1) (fun v H2 ⟨x1,t2,e2,hv2,ha2⟩=>?_) fun v H2 ⟨n,e2,hv2⟩=>pan v H2 n hv2 (by rw [hx,e2];rfl)
  subst hv2
  have K2:=K1.call ha2
  have hlt1:=(memberP_fit (valP_fit fixed k)).lt (by decide) _ _ _ e2
  have hsl:=suf_len hp1
  rw [e2,pb_ok] at hx
  obtain ⟨R,hR⟩:∃ R,manyP [41] (memberP (valP fixed k)) (t2.length+1) [x1] t2=R:=⟨_,rfl⟩
  rw [hR] at hx
  simp (disch:=first|omega|assumption) only [cV_len,cV_take,cV_splice,cM_len,cM_take,cM_splice,cM_mk,go_sem,↓reduceIte]
  refine goL_st (fun x:Own × List Mem × TS=>[(5,.sl x.1 6 (cMs x.2.1))]) (fun x H'=>KO H r L x.2.2 (16-k) H' x.1 x.2.1.length 6∧(∃ m,x.2.2.length<m∧manyP [41] (memberP (valP fixed k)) m x.2.1 x.2.2=R)∧x.2.1.length+x.2.2.length≤L.length) (fun x=>x.2.2.length) (.full,[x1],t2) (by simp (disch:=first|omega|assumption) only [cV_len,cV_take,cV_splice,cM_len,cM_take,cM_splice,cM_mk,cMs,cM_strip,go_sem,↓reduceIte]) ⟨⟨K2,Owned.full _ _ _,nofun⟩,⟨_,Nat.lt_succ_self _,hR⟩,by simp only [List.length_singleton];omega⟩ ?_
  rintro ⟨o,l,u⟩ H3 J ⟨K3,⟨m,hm,hR3⟩,hlen⟩ hJ
  simp only at K3 hm hR3 hlen
  obtain ⟨m,rfl⟩:∃ j,m=j+1:=⟨m-1,by omega⟩
  obtain ⟨p3,hp3,hr3⟩:=K3.here
  have hcl:=cMs_len l
  simp (disch:=first|omega|assumption) only [go_sem,↓reduceIte]
  refine goK_ret (mayPC (dp:=16-k) hp3 hll hr3 [41]) fun v H4 ⟨hv4,ha4⟩=>?_
  subst hv4
  cases hj:isP [41] u with
  | true =>
   rw [mayT,hj,if_pos rfl] at ha4
   have e1:R=.ok (l,u.tail):=by rw [← hR3,manyP,hj];rfl
   simp (disch:=first|omega|assumption) only [go_sem,↓reduceIte]
   refine fin _ _ [.sl o 6 (cMs l)] l u.tail (by simp (disch:=first|omega|assumption) only [ir300,resvs,resv,go_sem,↓reduceIte]) (by rw [hx,e1]) (K3.toKI.call ha4) ?_
   simp [tupOf,AV.strip,AV.strip1,cMs_strip]
  | false =>
   rw [mayT,hj] at ha4
   have K4:=K3.call (by simpa using ha4)
   obtain ⟨p4,hp4,hr4⟩:=K4.here
   rw [manyP,hj] at hR3
   simp only [Bool.false_eq_true,if_false] at hR3
   simp (disch:=first|omega|assumption) only [go_sem,↓reduceIte]
   refine goK_both (memberPC hv hp4 hl hr4) (fun v H5 ⟨x,t5,e5,hv5,ha5⟩=>?_) fun v H5 ⟨n5,e5,hv5⟩=>pan v H5 n5 hv5 (by rw [hx,← hR3,e5];rfl)
   subst hv5
   rw [e5,pb_ok] at hR3
   have hlt:=(memberP_fit (valP_fit fixed k)).lt (by decide) _ _ _ e5
   have K5:=K4.call ha5
   simp (disch:=first|omega|assumption) only [cV_len,cV_take,cV_splice,cM_len,cM_take,cM_splice,cM_mk,go_sem,↓reduceIte]
   refine goP_ownS (by rw [hcl];exact K5.own) (by simp only [hcl,List.length_cons,List.length_nil];omega) (by simp only [hcl,List.length_cons,List.length_nil,maxLen];omega) fun o6 H6 hs6=>?_
   have K6:=K5.app (by simpa [hcl] using hs6)
   simp (disch:=first|omega|assumption) only [cV_len,cV_take,cV_splice,cM_len,cM_take,cM_splice,cM_mk,go_sem,↓reduceIte]
   refine goJ (hJ (o6,l++[x],t5) _ (by simp only;omega) ⟨by simpa using K6,⟨m,by simp only;omega,hR3⟩,by simp only [List.length_append,List.length_cons,List.length_nil];omega⟩) (by simp (disch:=first|omega|assumption) only [cMs_map,List.map_append,List.map_cons,List.map_nil,cM_strip,go_sem,↓reduceIte])
theorem dirsPC {fixed:Bool} {k:Nat} (hk:k≤16) {H:Heap} {r:Nat} {L p t:TS} (hs:p++t=L) (hl:wT L≤LimP) (hr:H r=some (prc L p (16-k))) :
  ACalls Tryz.prog 250 [.ptr r 0,.bool fixed] H (RpE H r L (16-k) (dirsP fixed k t) (fun l=>.sl .no 2 (cDs l))):=by
 refine retStrip (ACalls.goO (R:=fun v H'=>RetQ H r L (16-k) (dirsP fixed k t) (fun l=>.sl .no 2 (cDs l)) v.strip H') (RP:=fun v H'=>PanQ (dirsP fixed k t) v H') ir250 ck250 (Nat.le_refl _) fun KP Q hQ hP=>?_)
 have hll:L.length≤LimP:=Nat.le_trans (len_w L) hl
 have hll2:=hll
 simp only [LimP] at hll2
 have pan:∀ (v:AV) (H1:Heap) (n:Int),v=stopP n→(dirsP fixed k t)=.error n→KP v H1:=fun v H1 n h1 h2=>hP v H1 H1 (Low.refl _) ⟨n,h2,h1⟩
 have fin:=KI.done hQ
 have K0:=KI.start hs hr
 obtain ⟨R,hR⟩:∃ R,whileP [64] (dirP fixed k) (t.length+1) [] t=R:=⟨_,rfl⟩
 have hx:dirsP fixed k t=R:=hR
 have hsl:=suf_len hs
 simp (disch:=first|omega|assumption) only [ir250,go_sem,↓reduceIte]
 refine goL_st (fun x:Own × List DirD × TS=>[(5,.sl x.1 2 (cDs x.2.1))]) (fun x H'=>KO H r L x.2.2 (16-k) H' x.1 x.2.1.length 2∧(∃ m,x.2.2.length<m∧whileP [64] (dirP fixed k) m x.2.1 x.2.2=R)∧x.2.1.length+x.2.2.length≤L.length) (fun x=>x.2.2.length) (.nil,[],t) (by simp (disch:=first|omega|assumption) only [cD_map,List.map_nil,go_sem,↓reduceIte]) ⟨⟨K0,rfl,nofun⟩,⟨_,Nat.lt_succ_self _,hR⟩,by simp only [List.length_nil];omega⟩ ?_
 rintro ⟨o,l,u⟩ H3 J ⟨K3,⟨m,hm,hR3⟩,hlen⟩ hJ
 simp only at K3 hm hR3 hlen
 obtain ⟨m,rfl⟩:∃ j,m=j+1:=⟨m-1,by omega⟩
 obtain ⟨p3,hp3,hr3⟩:=K3.here
 have hcl:=cDs_len l
 simp (disch:=first|omega|assumption) only [go_sem,↓reduceIte]
 refine goK_ret (mayPC (dp:=16-k) hp3 hll hr3 [64]) fun v H4 ⟨hv4,ha4⟩=>?_
 subst hv4
 cases hj:isP [64] u with
 | false =>
  rw [mayT,hj] at ha4
  have e1:R=.ok (l,u):=by rw [← hR3,whileP,hj];rfl
  simp (disch:=first|omega|assumption) only [go_sem,↓reduceIte]
  refine fin _ _ [.sl o 2 (cDs l)] l u (by simp (disch:=first|omega|assumption) only [ir250,resvs,resv,go_sem,↓reduceIte]) (by rw [hx,e1]) (K3.toKI.call (by simpa using ha4)) ?_
  simp [tupOf,AV.strip,AV.strip1,cD_map,cD_strip]
 | true =>
  rw [mayT,hj,if_pos rfl] at ha4
  have hlt0:=tail_lt hj
  have K4:=K3.call ha4
  obtain ⟨p4,hp4,hr4⟩:=K4.here
  rw [whileP,hj,if_pos rfl] at hR3
  simp (disch:=first|omega|assumption) only [go_sem,↓reduceIte]
  refine goK_both (namePC (dp:=16-k) hp4 hll hr4) (fun v H5 ⟨nm,t5,e5,hv5,ha5⟩=>?_) fun v H5 ⟨n5,e5,hv5⟩=>pan v H5 n5 hv5 (by rw [hx,← hR3,dirP,e5];rfl)
  subst hv5
  have K5:=K4.call ha5
  obtain ⟨p5,hp5,hr5⟩:=K5.here
  simp (disch:=first|omega|assumption) only [go_sem,↓reduceIte]
  refine goK_both (argsPC hk hp5 hl hr5) (fun v H6 ⟨a,t6,e6,hv6,ha6⟩=>?_) fun v H6 ⟨n6,e6,hv6⟩=>pan v H6 n6 hv6 (by rw [hx,← hR3,dirP,e5,pb_ok,e6];rfl)
  subst hv6
  have K6:=K5.call ha6
  have e7:dirP fixed k u.tail=.ok (⟨nm,a⟩,t6):=by rw [dirP,e5,pb_ok,e6];rfl
  rw [e7,pb_ok] at hR3
  have hlt:=(dirP_fit fixed k).lt (by decide) _ _ _ e7
  simp (disch:=first|omega|assumption) only [cV_len,cV_take,cV_splice,cM_len,cM_take,cM_splice,cM_mk,go_sem,↓reduceIte]
  refine goP_ownS (by rw [hcl];exact K6.own) (by simp only [hcl,List.length_cons,List.length_nil];omega) (by simp only [hcl,List.length_cons,List.length_nil,maxLen];omega) fun o7 H7 hs7=>?_
  have K7:=K6.app (by simpa [hcl] using hs7)
  simp (disch:=first|omega|assumption) only [cV_len,cV_take,cV_splice,cM_len,cM_take,cM_splice,cM_mk,go_sem,↓reduceIte]
  refine goJ (hJ (o7,l++[⟨nm,a⟩],t6) _ (by simp only;omega) ⟨by simpa using K7,⟨m,by simp only;omega,hR3⟩,by simp only [List.length_append,List.length_cons,List.length_nil];omega⟩) (by simp (disch:=first|omega|assumption) only [cD_map,cD,List.map_append,List.map_cons,List.map_nil,go_sem,↓reduceIte])
def SelsPC (k:Nat):Prop:=∀ (H:Heap) (r:Nat) (L p t:TS),p++t=L→wT L≤LimP→H r=some (prc L p (16-k)) →
 ACalls Tryz.prog 162 [.ptr r 0] H (RpE H r L (16-k) (selsP k t) fun l=>.sl .no 7 (cSs l))
abbrev zS:List AV:=[.int .i64 0,.str [],.str [],.sl .nil 6 [],.sl .nil 2 [],.str [],.sl .nil 7 []]
theorem w_k2 {m:List UInt8} {t:TS} (h:isW m t=true):(hdT t).k=2:=by
 simp only [isW,Bool.and_eq_true,decide_eq_true_eq] at h;exact h.1
theorem spreadPC {k:Nat} (hk:k≤16) (hv:SelsPC k) {H:Heap} {r:Nat} {L p t:TS} (hs:p++t=L) (hl:wT L≤LimP) (hr:H r=some (prc L p (16-k))) :
  ACalls Tryz.prog 299 [.ptr r 0] H (RpE H r L (16-k) (spreadP (selsP k) k t) (fun x=>.agg (cS x))):=by
 refine retStrip (ACalls.goO (R:=fun v H'=>RetQ H r L (16-k) (spreadP (selsP k) k t) (fun x=>.agg (cS x)) v.strip H') (RP:=fun v H'=>PanQ (spreadP (selsP k) k t) v H') ir299 ck299 (Nat.le_refl _) fun KP Q hQ hP=>?_)
 have hll:L.length≤LimP:=Nat.le_trans (len_w L) hl
 have hll2:=hll
 simp only [LimP] at hll2
 have pan:∀ (v:AV) (H1:Heap) (n:Int),v=stopP n→(spreadP (selsP k) k t)=.error n→KP v H1:=fun v H1 n h1 h2=>hP v H1 H1 (Low.refl _) ⟨n,h2,h1⟩
 have fin:=KI.done hQ
 have K0:=KI.start hs hr
 simp (disch:=first|omega|assumption) only [ir299,go_sem,↓reduceIte]
 refine goA_intro fun b2 hb2=>?_
 have n2:=K0.ne hb2
 have n2s:=Ne.symm n2
 have K1:=K0.box (x:=.cells zS) hb2
 simp (disch:=first|omega|assumption) only [go_sem,↓reduceIte]
 refine goK_ret (nextP (dp:=16-k) hs (by rw [upd_ne n2];exact hr)) fun v H1 ⟨hv1,hH⟩=>?_
 subst hv1;subst hH
 obtain ⟨p1,hp1,hr1⟩:=K1.here
 simp only [zS] at K1 hr1
 by_cases hsp:(hdT t).k=2∧isW [111,110] t=false
 ·obtain ⟨hk2,hw⟩:=hsp
  have hk2':((hdT t).k=2)=True:=eq_true hk2
  have hx:spreadP (selsP k) k t=pb (nameP t) fun s t=>pb (dirsP false k t) fun d t=>.ok (.mk 1 [] s [] d [] [],t):=by
   unfold spreadP;rw [if_pos ⟨hk2,hw⟩]
  simp (disch:=first|omega|assumption) only [tokA,hk2',go_sem,↓reduceIte]
  refine goK_ret (isWC (dp:=16-k) hp1 hr1 [111,110]) fun v H2 ⟨hv2,hH⟩=>?_
  subst hv2;subst hH
  rw [hw]
  simp (disch:=first|omega|assumption) only [go_sem,↓reduceIte]
  refine goK_both (namePC (dp:=16-k) hp1 hll hr1) (fun v H3 ⟨s,t3,e3,hv3,ha3⟩=>?_) fun v H3 ⟨n,e3,hv3⟩=>pan v H3 n hv3 (by rw [hx,e3];rfl)
  subst hv3
  rw [e3,pb_ok] at hx
  have K3:=K1.call ha3
  obtain ⟨p3,hp3,hr3⟩:=K3.here
  have g3:H3 b2=some (.cells zS):=by rw [ha3.other n2s,upd_same]
  simp (disch:=first|omega|assumption) only [go_sem,↓reduceIte]
  refine goK_both (dirsPC hk hp3 hl hr3) (fun v H4 ⟨d,t4,e4,hv4,ha4⟩=>?_) fun v H4 ⟨n,e4,hv4⟩=>pan v H4 n hv4 (by rw [hx,e4];rfl)
  subst hv4
  rw [e4,pb_ok] at hx
  have K4:=K3.call ha4
  have g4:H4 b2=some (.cells zS):=by rw [ha4.other n2s,g3]
  simp only [zS] at g4
  simp (disch:=first|omega|assumption) only [g4,go_sem,↓reduceIte]
  exact fin _ _ [.agg [.int .i64 1,.str [],.str s,.sl .nil 6 [],.sl .no 2 (cDs d),.str [],.sl .nil 7 []]] _ _ (by simp (disch:=first|omega|assumption) only [ir299,resvs,resv,go_sem,↓reduceIte]) hx (K4.box hb2) (by simp [tupOf,AV.strip,AV.strip1,cS,cMs,cSs])
 have hx:spreadP (selsP k) k t=pb (if isW [111,110] t then nameP t.tail else .ok ([],t)) fun o t=>pb (dirsP false k t) fun d t=>pb (selsP k t) fun l t=>.ok (.mk 2 [] [] [] d o l,t):=by
  unfold spreadP;rw [if_neg hsp]
 cases hw:isW [111,110] t with
 | true =>
  have hk2:=w_k2 hw
  have hk2':((hdT t).k=2)=True:=eq_true hk2
  rw [hw,if_pos rfl] at hx
  simp (disch:=first|omega|assumption) only [tokA,hk2',go_sem,↓reduceIte]
  refine goK_ret (isWC (dp:=16-k) hp1 hr1 [111,110]) fun v H2 ⟨hv2,hH⟩=>?_
  subst hv2;subst hH
  rw [hw]
  simp (disch:=first|omega|assumption) only [go_sem,↓reduceIte]
  refine goA_intro fun b3 hb3=>?_
  have h32:b3≠b2:=fun e=>by subst e;rw [upd_same] at hb3;cases hb3
  have hb3H:H b3=none:=by rw [upd_ne h32] at hb3;exact hb3
  have n3:=K0.ne hb3H
  have n3s:=Ne.symm n3
  have K2:=K1.box (x:=.cells [.int .i64 2,.str [],.str [],.sl .nil 6 [],.sl .nil 2 [],.str [],.sl .nil 7 []]) hb3H
  obtain ⟨p2,hp2,hr2⟩:=K2.here
  simp (disch:=first|omega|assumption) only [go_sem,↓reduceIte]
  refine goK_ret (mayWC (dp:=16-k) hp2 hll hr2 [111,110]) fun v H5 ⟨hv5,ha5⟩=>?_
  subst hv5
  have g53:H5 b3=some (.cells [.int .i64 2,.str [],.str [],.sl .nil 6 [],.sl .nil 2 [],.str [],.sl .nil 7 []]):=by rw [ha5.other n3s,upd_same]
  have g52:H5 b2=some (.cells zS):=by rw [ha5.other n2s,upd_ne (Ne.symm h32),upd_same]
  unfold mayWordP at ha5
  rw [hw] at ha5
  simp only [if_true,Bool.false_eq_true,if_false] at ha5
  rw [hw]
  have K5:=K2.call ha5
  obtain ⟨p5,hp5,hr5⟩:=K5.here
  simp (disch:=first|omega|assumption) only [go_sem,↓reduceIte]
  refine goK_both (namePC (dp:=16-k) hp5 hll hr5) (fun v H3 ⟨o,t3,e3,hv3,ha3⟩=>?_) fun v H3 ⟨n,e3,hv3⟩=>pan v H3 n hv3 (by rw [hx,e3];rfl)
  subst hv3
  rw [e3,pb_ok] at hx
  have K6:=K5.call ha3
  have g33:H3 b3=some (.cells [.int .i64 2,.str [],.str [],.sl .nil 6 [],.sl .nil 2 [],.str [],.sl .nil 7 []]):=by rw [ha3.other n3s,g53]
  have g32:H3 b2=some (.cells zS):=by rw [ha3.other n2s,g52]
  simp (disch:=first|omega|assumption) only [g33,go_sem,↓reduceIte]
  have K7:=K6.box (x:=.cells [.int .i64 2,.str [],.str [],.sl .nil 6 [],.sl .nil 2 [],.str o,.sl .nil 7 []]) hb3H
  have hHe:H3.upd b3 (.cells [.int .i64 2,.str [],.str [],.sl .nil 6 [],.sl .nil 2 [],.str o,.sl .nil 7 []])=H3.upd b3 (.cells [.int .i64 2,.str [],.str [],.sl .nil 6 [],.sl .nil 2 [],.str o,.sl .nil 7 []]):=rfl
  obtain ⟨p7,hp7,hr7⟩:=K7.here
  refine goK_both (dirsPC hk hp7 hl hr7) (fun v H8 ⟨d,t8,e8,hv8,ha8⟩=>?_) fun v H8 ⟨n,e8,hv8⟩=>pan v H8 n hv8 (by rw [hx,e8];rfl)
  subst hv8
  rw [e8,pb_ok] at hx
  have K8:=K7.call ha8
  have g83:H8 b3=some (.cells [.int .i64 2,.str [],.str [],.sl .nil 6 [],.sl .nil 2 [],.str o,.sl .nil 7 []]):=by rw [ha8.other n3s];(exact upd_same ..)
  have g82:H8 b2=some (.cells zS):=by rw [ha8.other n2s];(rw [upd_ne (Ne.symm h32)];exact g32)
  simp (disch:=first|omega|assumption) only [g83,go_sem,↓reduceIte]
  have K9:=K8.box (x:=.cells [.int .i64 2,.str [],.str [],.sl .nil 6 [],.sl .no 2 (cDs d),.str o,.sl .nil 7 []]) hb3H
  obtain ⟨p9,hp9,hr9⟩:=K9.here
  refine goK_both (hv _ r L p9 t8 hp9 hl hr9) (fun v H9 ⟨l,t9,e9,hv9,ha9⟩=>?_) fun v H9 ⟨n,e9,hv9⟩=>pan v H9 n hv9 (by rw [hx,e9];rfl)
  subst hv9
  rw [e9,pb_ok] at hx
  have KA:=K9.call ha9
  have g93:H9 b3=some (.cells [.int .i64 2,.str [],.str [],.sl .nil 6 [],.sl .no 2 (cDs d),.str o,.sl .nil 7 []]):=by rw [ha9.other n3s,upd_same]
  have g92:H9 b2=some (.cells zS):=by rw [ha9.other n2s,upd_ne (Ne.symm h32),g82]
  simp only [zS] at g92
  simp (disch:=first|omega|assumption) only [g93,g92,h32,Ne.symm h32,go_sem,↓reduceIte]
  exact fin _ _ [.agg [.int .i64 2,.str [],.str [],.sl .nil 6 [],.sl .no 2 (cDs d),.str o,.sl .no 7 (cSs l)]] _ _ (by simp (disch:=first|omega|assumption) only [ir299,resvs,resv,go_sem,↓reduceIte]) hx ((KA.box hb3H).box hb2) (by simp [tupOf,AV.strip,AV.strip1,cS,cMs,cSs])
 | false =>
  have hk2:¬ ((hdT t).k=2):=fun h=>hsp ⟨h,hw⟩
  rw [hw] at hx
  simp only [Bool.false_eq_true,if_false,pb_ok] at hx
  simp (disch:=first|omega|assumption) only [tokA,hk2,go_sem,↓reduceIte]
  refine goA_intro fun b3 hb3=>?_
  have h32:b3≠b2:=fun e=>by subst e;rw [upd_same] at hb3;cases hb3
  have hb3H:H b3=none:=by rw [upd_ne h32] at hb3;exact hb3
  have n3:=K0.ne hb3H
  have n3s:=Ne.symm n3
  have K2:=K1.box (x:=.cells [.int .i64 2,.str [],.str [],.sl .nil 6 [],.sl .nil 2 [],.str [],.sl .nil 7 []]) hb3H
  obtain ⟨p2,hp2,hr2⟩:=K2.here
  simp (disch:=first|omega|assumption) only [go_sem,↓reduceIte]
  refine goK_ret (mayWC (dp:=16-k) hp2 hll hr2 [111,110]) fun v H5 ⟨hv5,ha5⟩=>?_
  subst hv5
  have g53:H5 b3=some (.cells [.int .i64 2,.str [],.str [],.sl .nil 6 [],.sl .nil 2 [],.str [],.sl .nil 7 []]):=by rw [ha5.other n3s,upd_same]
  have g52:H5 b2=some (.cells zS):=by rw [ha5.other n2s,upd_ne (Ne.symm h32),upd_same]
  unfold mayWordP at ha5
  rw [hw] at ha5
  simp only [if_true,Bool.false_eq_true,if_false] at ha5
  rw [hw]
  have K5:=K2.call ha5
  obtain ⟨p5,hp5,hr5⟩:=K5.here
  simp (disch:=first|omega|assumption) only [go_sem,↓reduceIte]
  have K7:=K5.box (x:=.cells [.int .i64 2,.str [],.str [],.sl .nil 6 [],.sl .nil 2 [],.str [],.sl .nil 7 []]) hb3H
  have hHe:H5.upd b3 (.cells [.int .i64 2,.str [],.str [],.sl .nil 6 [],.sl .nil 2 [],.str [],.sl .nil 7 []])=H5.upd b3 (.cells [.int .i64 2,.str [],.str [],.sl .nil 6 [],.sl .nil 2 [],.str [],.sl .nil 7 []]):=rfl
  obtain ⟨p7,hp7,hr7⟩:=K5.here
  refine goK_both (dirsPC hk hp7 hl hr7) (fun v H8 ⟨d,t8,e8,hv8,ha8⟩=>?_) fun v H8 ⟨n,e8,hv8⟩=>pan v H8 n hv8 (by rw [hx,e8];rfl)
  subst hv8
  rw [e8,pb_ok] at hx
  have K8:=K5.call ha8
  have g83:H8 b3=some (.cells [.int .i64 2,.str [],.str [],.sl .nil 6 [],.sl .nil 2 [],.str [],.sl .nil 7 []]):=by rw [ha8.other n3s];(exact g53)
  have g82:H8 b2=some (.cells zS):=by rw [ha8.other n2s];(exact g52)
  simp (disch:=first|omega|assumption) only [g83,go_sem,↓reduceIte]
  have K9:=K8.box (x:=.cells [.int .i64 2,.str [],.str [],.sl .nil 6 [],.sl .no 2 (cDs d),.str [],.sl .nil 7 []]) hb3H
  obtain ⟨p9,hp9,hr9⟩:=K9.here
  refine goK_both (hv _ r L p9 t8 hp9 hl hr9) (fun v H9 ⟨l,t9,e9,hv9,ha9⟩=>?_) fun v H9 ⟨n,e9,hv9⟩=>pan v H9 n hv9 (by rw [hx,e9];rfl)
  subst hv9
  rw [e9,pb_ok] at hx
  have KA:=K9.call ha9
  have g93:H9 b3=some (.cells [.int .i64 2,.str [],.str [],.sl .nil 6 [],.sl .no 2 (cDs d),.str [],.sl .nil 7 []]):=by rw [ha9.other n3s,upd_same]
  have g92:H9 b2=some (.cells zS):=by rw [ha9.other n2s,upd_ne (Ne.symm h32),g82]
  simp only [zS] at g92
  simp (disch:=first|omega|assumption) only [g93,g92,h32,Ne.symm h32,go_sem,↓reduceIte]
  exact fin _ _ [.agg [.int .i64 2,.str [],.str [],.sl .nil 6 [],.sl .no 2 (cDs d),.str [],.sl .no 7 (cSs l)]] _ _ (by simp (disch:=first|omega|assumption) only [ir299,resvs,resv,go_sem,↓reduceIte]) hx ((KA.box hb3H).box hb2) (by simp [tupOf,AV.strip,AV.strip1,cS,cMs,cSs])
theorem selPC {k:Nat} (hk:k≤16) (hv:SelsPC k) {H:Heap} {r:Nat} {L p t:TS} (hs:p++t=L) (hl:wT L≤LimP) (hr:H r=some (prc L p (16-k))) :
  ACalls Tryz.prog 247 [.ptr r 0] H (RpE H r L (16-k) (selP (selsP k) k t) (fun x=>.agg (cS x))):=by
 refine retStrip (ACalls.goO (R:=fun v H'=>RetQ H r L (16-k) (selP (selsP k) k t) (fun x=>.agg (cS x)) v.strip H') (RP:=fun v H'=>PanQ (selP (selsP k) k t) v H') ir247 ck247 (Nat.le_refl _) fun KP Q hQ hP=>?_)
 have hll:L.length≤LimP:=Nat.le_trans (len_w L) hl
 have hll2:=hll
 simp only [LimP] at hll2
 have pan:∀ (v:AV) (H1:Heap) (n:Int),v=stopP n→(selP (selsP k) k t)=.error n→KP v H1:=fun v H1 n h1 h2=>hP v H1 H1 (Low.refl _) ⟨n,h2,h1⟩
 have fin:=KI.done hQ
 have K0:=KI.start hs hr
 simp (disch:=first|omega|assumption) only [ir247,go_sem,↓reduceIte]
 refine goA_intro fun b2 hb2=>?_
 have n2:=K0.ne hb2
 have n2s:=Ne.symm n2
 have K1:=K0.box (x:=.cells zS) hb2
 obtain ⟨p1,hp1,hr1⟩:=K1.here
 simp only [zS] at K1 hr1
 simp (disch:=first|omega|assumption) only [go_sem,↓reduceIte]
 refine goK_ret (mayPC (dp:=16-k) hp1 hll hr1 [46,46,46]) fun v H2 ⟨hv2,ha2⟩=>?_
 subst hv2
 have g22:H2 b2=some (.cells zS):=by rw [ha2.other n2s,upd_same]
 have K2:=K1.call ha2
 unfold mayT at K2
 obtain ⟨p2,hp2,hr2⟩:=K2.here
 cases hi:isP [46,46,46] t with
 | true =>
  rw [hi] at K2 hp2
  simp only [if_true] at K2 hp2
  have hx:selP (selsP k) k t=spreadP (selsP k) k t.tail:=by unfold selP;rw [hi];rfl
  simp (disch:=first|omega|assumption) only [go_sem,↓reduceIte]
  refine goK_both (spreadPC hk hv hp2 hl hr2) (fun v H3 ⟨x,t3,e3,hv3,ha3⟩=>?_) fun v H3 ⟨n,e3,hv3⟩=>pan v H3 n hv3 (by rw [hx,e3])
  subst hv3
  have K3:=K2.call ha3
  have g3:H3 b2=some (.cells zS):=by rw [ha3.other n2s,g22]
  simp only [zS] at g3
  simp (disch:=first|omega|assumption) only [g3,cS_len,cS_take,cS_splice,go_sem,↓reduceIte]
  exact fin _ _ [.agg (cS x)] _ _ (by simp (disch:=first|omega|assumption) only [ir247,resvs,resv,cS_len,cS_take,cS_splice,go_sem,↓reduceIte]) (by rw [hx,e3]) (K3.box hb2) (by simp [tupOf,AV.strip,cS_strip])
 | false =>
  rw [hi] at K2 hp2
  simp only [Bool.false_eq_true,if_false] at K2 hp2
  have hx:selP (selsP k) k t=pb (nameP t) fun s t=>pb (if isP [58] t then pb (nameP t.tail) fun s2 t=>.ok ((s,s2),t) else .ok (([],s),t)) fun an t =>
   pb (argsP false k t) fun a t=>pb (dirsP false k t) fun d t=>pb (if isP [123] t then selsP k t else .ok ([],t)) fun l t=>.ok (.mk 0 an.1 an.2 a d [] l,t):=by unfold selP;rw [hi];rfl
  simp (disch:=first|omega|assumption) only [go_sem,↓reduceIte]
  refine goK_both (namePC (dp:=16-k) hp2 hll hr2) (fun v H3 ⟨s,t3,e3,hv3,ha3⟩=>?_) fun v H3 ⟨n,e3,hv3⟩=>pan v H3 n hv3 (by rw [hx,e3];rfl)
  subst hv3
  rw [e3,pb_ok] at hx
  have K3:=K2.call ha3
  have g32:H3 b2=some (.cells zS):=by rw [ha3.other n2s,g22]
  simp (disch:=first|omega|assumption) only [go_sem,↓reduceIte]
  refine goA_intro fun b3 hb3=>?_
  have h32:b3≠b2:=fun e=>by subst e;rw [g32] at hb3;cases hb3
  have hb3H:H b3=none:=K3.none hb3
  have n3:=K0.ne hb3H
  have n3s:=Ne.symm n3
  have K4:=K3.box (x:=.cells [.int .i64 0,.str [],.str s,.sl .nil 6 [],.sl .nil 2 [],.str [],.sl .nil 7 []]) hb3H
  obtain ⟨p4,hp4,hr4⟩:=K4.here
  simp (disch:=first|omega|assumption) only [go_sem,↓reduceIte]
  refine goK_ret (mayPC (dp:=16-k) hp4 hll hr4 [58]) fun v H5 ⟨hv5,ha5⟩=>?_
  subst hv5
  have g53:H5 b3=some (.cells [.int .i64 0,.str [],.str s,.sl .nil 6 [],.sl .nil 2 [],.str [],.sl .nil 7 []]):=by rw [ha5.other n3s,upd_same]
  have g52:H5 b2=some (.cells zS):=by rw [ha5.other n2s,upd_ne (Ne.symm h32),g32]
  have K5:=K4.call ha5
  unfold mayT at K5
  obtain ⟨p5,hp5,hr5⟩:=K5.here
  cases hc:isP [58] t3 with
  | true =>
   rw [hc] at hx K5 hp5
   simp only [if_true] at hx K5 hp5
   simp (disch:=first|omega|assumption) only [g53,go_sem,↓reduceIte]
   refine goK_both (namePC (dp:=16-k) hp5 hll hr5) (fun v H6 ⟨s2,t6,e6,hv6,ha6⟩=>?_) fun v H6 ⟨n,e6,hv6⟩=>pan v H6 n hv6 (by rw [hx,e6];rfl)
   subst hv6
   rw [e6,pb_ok,pb_ok] at hx
   have K6:=K5.call ha6
   have g63:H6 b3=some (.cells [.int .i64 0,.str [],.str s,.sl .nil 6 [],.sl .nil 2 [],.str [],.sl .nil 7 []]):=by rw [ha6.other n3s,g53]
   have g62:H6 b2=some (.cells zS):=by rw [ha6.other n2s,g52]
   simp (disch:=first|omega|assumption) only [g63,go_sem,↓reduceIte]
   have K7:=K6.box (x:=.cells [.int .i64 0,.str s,.str s2,.sl .nil 6 [],.sl .nil 2 [],.str [],.sl .nil 7 []]) hb3H
   obtain ⟨p7,hp7,hr7⟩:=K7.here
   refine goK_both (argsPC hk hp7 hl hr7) (fun v H8 ⟨a,t8,e8,hv8,ha8⟩=>?_) fun v H8 ⟨n,e8,hv8⟩=>pan v H8 n hv8 (by rw [hx,e8];rfl)
   subst hv8
   rw [e8,pb_ok] at hx
   have K8:=K7.call ha8
   have g83:H8 b3=some (.cells [.int .i64 0,.str s,.str s2,.sl .nil 6 [],.sl .nil 2 [],.str [],.sl .nil 7 []]):=by rw [ha8.other n3s];(exact upd_same ..)
   have g82:H8 b2=some (.cells zS):=by rw [ha8.other n2s];(rw [upd_ne (Ne.symm h32)];exact g62)
   simp (disch:=first|omega|assumption) only [g83,go_sem,↓reduceIte]
   have K9:=K8.box (x:=.cells [.int .i64 0,.str s,.str s2,.sl .no 6 (cMs a),.sl .nil 2 [],.str [],.sl .nil 7 []]) hb3H
   obtain ⟨p9,hp9,hr9⟩:=K9.here
   refine goK_both (dirsPC hk hp9 hl hr9) (fun v HA ⟨d,tA,eA,hvA,haA⟩=>?_) fun v HA ⟨n,eA,hvA⟩=>pan v HA n hvA (by rw [hx,eA];rfl)
   subst hvA
   rw [eA,pb_ok] at hx
   have KA:=K9.call haA
   have gA3:HA b3=some (.cells [.int .i64 0,.str s,.str s2,.sl .no 6 (cMs a),.sl .nil 2 [],.str [],.sl .nil 7 []]):=by rw [haA.other n3s,upd_same]
   have gA2:HA b2=some (.cells zS):=by rw [haA.other n2s,upd_ne (Ne.symm h32),g82]
   simp (disch:=first|omega|assumption) only [gA3,go_sem,↓reduceIte]
   have KB:=KA.box (x:=.cells [.int .i64 0,.str s,.str s2,.sl .no 6 (cMs a),.sl .no 2 (cDs d),.str [],.sl .nil 7 []]) hb3H
   obtain ⟨pB,hpB,hrB⟩:=KB.here
   refine goK_ret (isPC (dp:=16-k) hpB hrB [123]) fun v HC ⟨hvC,hHC⟩=>?_
   subst hvC;subst hHC
   have gC2:(HA.upd b3 (.cells [.int .i64 0,.str s,.str s2,.sl .no 6 (cMs a),.sl .no 2 (cDs d),.str [],.sl .nil 7 []])) b2=some (.cells zS):=by rw [upd_ne (Ne.symm h32),gA2]
   cases hb:isP [123] tA with
   | true =>
    rw [hb] at hx
    simp only [if_true] at hx
    simp (disch:=first|omega|assumption) only [go_sem,↓reduceIte]
    refine goK_both (hv _ r L pB tA hpB hl hrB) (fun v HD ⟨l,tD,eD,hvD,haD⟩=>?_) fun v HD ⟨n,eD,hvD⟩=>pan v HD n hvD (by rw [hx,eD];rfl)
    subst hvD
    rw [eD,pb_ok] at hx
    have KD:=KB.call haD
    have gD3:HD b3=some (.cells [.int .i64 0,.str s,.str s2,.sl .no 6 (cMs a),.sl .no 2 (cDs d),.str [],.sl .nil 7 []]):=by rw [haD.other n3s,upd_same]
    have gD2:HD b2=some (.cells zS):=by rw [haD.other n2s,gC2]
    simp only [zS] at gD2
    simp (disch:=first|omega|assumption) only [gD3,gD2,h32,Ne.symm h32,go_sem,↓reduceIte]
    exact fin _ _ [.agg [.int .i64 0,.str s,.str s2,.sl .no 6 (cMs a),.sl .no 2 (cDs d),.str [],.sl .no 7 (cSs l)]] _ _ (by simp (disch:=first|omega|assumption) only [ir247,resvs,resv,go_sem,↓reduceIte]) hx ((KD.box hb3H).box hb2) (by simp [tupOf,AV.strip,AV.strip1,cS,cMs,cSs])
   | false =>
    rw [hb] at hx
    simp only [Bool.false_eq_true,if_false,pb_ok] at hx
    simp only [zS] at gA2
    simp (disch:=first|omega|assumption) only [gA2,h32,Ne.symm h32,go_sem,↓reduceIte]
    exact fin _ _ [.agg [.int .i64 0,.str s,.str s2,.sl .no 6 (cMs a),.sl .no 2 (cDs d),.str [],.sl .nil 7 []]] _ _ (by simp (disch:=first|omega|assumption) only [ir247,resvs,resv,go_sem,↓reduceIte]) hx (KB.box hb2) (by simp [tupOf,AV.strip,AV.strip1,cS,cMs,cSs])
  | false =>
   rw [hc] at hx K5 hp5
   simp only [Bool.false_eq_true,if_false,pb_ok] at hx K5 hp5
   simp (disch:=first|omega|assumption) only [go_sem,↓reduceIte]
   refine goK_both (argsPC hk hp5 hl hr5) (fun v H8 ⟨a,t8,e8,hv8,ha8⟩=>?_) fun v H8 ⟨n,e8,hv8⟩=>pan v H8 n hv8 (by rw [hx,e8];rfl)
   subst hv8
   rw [e8,pb_ok] at hx
   have K8:=K5.call ha8
   have g83:H8 b3=some (.cells [.int .i64 0,.str [],.str s,.sl .nil 6 [],.sl .nil 2 [],.str [],.sl .nil 7 []]):=by rw [ha8.other n3s];(exact g53)
   have g82:H8 b2=some (.cells zS):=by rw [ha8.other n2s];(exact g52)
   simp (disch:=first|omega|assumption) only [g83,go_sem,↓reduceIte]
   have K9:=K8.box (x:=.cells [.int .i64 0,.str [],.str s,.sl .no 6 (cMs a),.sl .nil 2 [],.str [],.sl .nil 7 []]) hb3H
   obtain ⟨p9,hp9,hr9⟩:=K9.here
   refine goK_both (dirsPC hk hp9 hl hr9) (fun v HA ⟨d,tA,eA,hvA,haA⟩=>?_) fun v HA ⟨n,eA,hvA⟩=>pan v HA n hvA (by rw [hx,eA];rfl)
   subst hvA
   rw [eA,pb_ok] at hx
   have KA:=K9.call haA
   have gA3:HA b3=some (.cells [.int .i64 0,.str [],.str s,.sl .no 6 (cMs a),.sl .nil 2 [],.str [],.sl .nil 7 []]):=by rw [haA.other n3s,upd_same]
   have gA2:HA b2=some (.cells zS):=by rw [haA.other n2s,upd_ne (Ne.symm h32),g82]
   simp (disch:=first|omega|assumption) only [gA3,go_sem,↓reduceIte]
   have KB:=KA.box (x:=.cells [.int .i64 0,.str [],.str s,.sl .no 6 (cMs a),.sl .no 2 (cDs d),.str [],.sl .nil 7 []]) hb3H
   obtain ⟨pB,hpB,hrB⟩:=KB.here
   refine goK_ret (isPC (dp:=16-k) hpB hrB [123]) fun v HC ⟨hvC,hHC⟩=>?_
   subst hvC;subst hHC
   have gC2:(HA.upd b3 (.cells [.int .i64 0,.str [],.str s,.sl .no 6 (cMs a),.sl .no 2 (cDs d),.str [],.sl .nil 7 []])) b2=some (.cells zS):=by rw [upd_ne (Ne.symm h32),gA2]
   cases hb:isP [123] tA with
   | true =>
    rw [hb] at hx
    simp only [if_true] at hx
    simp (disch:=first|omega|assumption) only [go_sem,↓reduceIte]
    refine goK_both (hv _ r L pB tA hpB hl hrB) (fun v HD ⟨l,tD,eD,hvD,haD⟩=>?_) fun v HD ⟨n,eD,hvD⟩=>pan v HD n hvD (by rw [hx,eD];rfl)
    subst hvD
    rw [eD,pb_ok] at hx
    have KD:=KB.call haD
    have gD3:HD b3=some (.cells [.int .i64 0,.str [],.str s,.sl .no 6 (cMs a),.sl .no 2 (cDs d),.str [],.sl .nil 7 []]):=by rw [haD.other n3s,upd_same]
    have gD2:HD b2=some (.cells zS):=by rw [haD.other n2s,gC2]
    simp only [zS] at gD2
    simp (disch:=first|omega|assumption) only [gD3,gD2,h32,Ne.symm h32,go_sem,↓reduceIte]
    exact fin _ _ [.agg [.int .i64 0,.str [],.str s,.sl .no 6 (cMs a),.sl .no 2 (cDs d),.str [],.sl .no 7 (cSs l)]] _ _ (by simp (disch:=first|omega|assumption) only [ir247,resvs,resv,go_sem,↓reduceIte]) hx ((KD.box hb3H).box hb2) (by simp [tupOf,AV.strip,AV.strip1,cS,cMs,cSs])
   | false =>
    rw [hb] at hx
    simp only [Bool.false_eq_true,if_false,pb_ok] at hx
    simp only [zS] at gA2
    simp (disch:=first|omega|assumption) only [gA2,h32,Ne.symm h32,go_sem,↓reduceIte]
    exact fin _ _ [.agg [.int .i64 0,.str [],.str s,.sl .no 6 (cMs a),.sl .no 2 (cDs d),.str [],.sl .nil 7 []]] _ _ (by simp (disch:=first|omega|assumption) only [ir247,resvs,resv,go_sem,↓reduceIte]) hx (KB.box hb2) (by simp [tupOf,AV.strip,AV.strip1,cS,cMs,cSs])
theorem selsPC0:SelsPC 0:=by
 intro H r L p t hs hl hr
 refine ACalls.goO (R:=fun v H'=>RetQ H r L (16-0) (selsP 0 t) (fun l=>.sl .no 7 (cSs l)) v H') (RP:=fun v H'=>PanQ (selsP 0 t) v H') ir162 ck162 (Nat.le_refl _) fun KP Q hQ hP=>?_
 have hll:L.length≤LimP:=Nat.le_trans (len_w L) hl
 have pan:∀ (v:AV) (H1:Heap) (n:Int),v=stopP n→selsP 0 t=.error n→KP v H1:=fun v H1 n h1 h2=>hP v H1 H1 (Low.refl _) ⟨n,h2,h1⟩
 simp (disch:=first|omega|assumption) only [ir162,go_sem,↓reduceIte]
 refine goK_both (openPC (dp:=16-0) hs hll (by omega) hr [123]) (fun v H1 ⟨hv,hat,haf⟩=>?_) fun v H1 ⟨hi,h16,hv⟩=>pan v H1 4 hv (by rw [selsP,if_pos hi])
 subst hv
 cases hi:isP [123] t with
 | true=>exact absurd (hat hi).1 (by decide)
 | false =>
  simp (disch:=first|omega|assumption) only [go_sem,↓reduceIte]
  exact goK_both (failP _ r 2) (fun _ _ h=>h.elim) fun v H3 h=>pan v H3 2 h (by rw [selsP,hi];rfl)
theorem selsPCs {k:Nat} (hk:k<16) (hv:SelsPC k):SelsPC (k+1):=by
 intro H r L p t hs hl hr
 refine retStrip (ACalls.goO (R:=fun v H'=>RetQ H r L (16-(k+1)) (selsP (k+1) t) (fun l=>.sl .no 7 (cSs l)) v.strip H') (RP:=fun v H'=>PanQ (selsP (k+1) t) v H') ir162 ck162 (Nat.le_refl _) fun KP Q hQ hP=>?_)
 have hll:L.length≤LimP:=Nat.le_trans (len_w L) hl
 have hll2:=hll
 simp only [LimP] at hll2
 have pan:∀ (v:AV) (H1:Heap) (n:Int),v=stopP n→(selsP (k+1) t)=.error n→KP v H1:=fun v H1 n h1 h2=>hP v H1 H1 (Low.refl _) ⟨n,h2,h1⟩
 have fin:=KI.done hQ
 have K0:=KI.start hs hr
 simp (disch:=first|omega|assumption) only [ir162,go_sem,↓reduceIte]
 refine goK_both (openPC (dp:=16-(k+1)) hs hll (by omega) hr [123]) (fun v H1 ⟨hv1,hat,haf⟩=>?_) fun v H1 ⟨hi,h16,hv1⟩=>by exfalso;omega
 subst hv1
 cases hi:isP [123] t with
 | false =>
  simp (disch:=first|omega|assumption) only [go_sem,↓reduceIte]
  exact goK_both (failP _ r 2) (fun _ _ h=>h.elim) fun v H3 h=>pan v H3 2 h (by rw [selsP,hi];rfl)
 | true =>
  have ha1:=(hat hi).2
  rw [show 16-(k+1)+1=16-k by omega] at ha1
  have K1:=K0.call ha1
  obtain ⟨p1,hp1,hr1⟩:=K1.here
  have hx:selsP (k+1) t=pb (selP (selsP k) k t.tail) fun x t=>manyP [125] (selP (selsP k) k) (t.length+1) [x] t:=by
   rw [selsP,hi];rfl
  clear hat haf
  simp (disch:=first|omega|assumption) only [go_sem,↓reduceIte]
  refine goK_both (selPC (by omega) hv hp1 hl hr1) (fun v H2 ⟨x1,t2,e2,hv2,ha2⟩=>?_) fun v H2 ⟨n,e2,hv2⟩=>pan v H2 n hv2 (by rw [hx,e2];rfl)
  subst hv2
  have K2:=K1.call ha2
  have hlt1:=(selP_fit (selsP_fit k)).lt (by decide) _ _ _ e2
  have hsl:=suf_len hp1
  rw [e2,pb_ok] at hx
  obtain ⟨R,hR⟩:∃ R,manyP [125] (selP (selsP k) k) (t2.length+1) [x1] t2=R:=⟨_,rfl⟩
  rw [hR] at hx
  simp (disch:=first|omega|assumption) only [cS_len,cS_take,cS_splice,go_sem,↓reduceIte]
  refine goL_st (fun x:Own × List SelD × TS=>[(3,.sl x.1 7 (cSs x.2.1))]) (fun x H'=>KO H r L x.2.2 (16-k) H' x.1 x.2.1.length 7∧(∃ m,x.2.2.length<m∧manyP [125] (selP (selsP k) k) m x.2.1 x.2.2=R)∧x.2.1.length+x.2.2.length≤L.length) (fun x=>x.2.2.length) (.full,[x1],t2) (by simp (disch:=first|omega|assumption) only [cSs,cS_strip,go_sem,↓reduceIte]) ⟨⟨K2,Owned.full _ _ _,nofun⟩,⟨_,Nat.lt_succ_self _,hR⟩,by simp only [List.length_singleton];omega⟩ ?_
  rintro ⟨o,l,u⟩ H3 J ⟨K3,⟨m,hm,hR3⟩,hlen⟩ hJ
  simp only at K3 hm hR3 hlen
  obtain ⟨m,rfl⟩:∃ j,m=j+1:=⟨m-1,by omega⟩
  obtain ⟨p3,hp3,hr3⟩:=K3.here
  have hcl:=cSs_len l
  simp (disch:=first|omega|assumption) only [go_sem,↓reduceIte]
  refine goK_ret (closePC (dp:=16-k) hp3 hll (by omega) hr3 [125]) fun v H4 ⟨hv4,hat,haf⟩=>?_
  subst hv4
  cases hj:isP [125] u with
  | true =>
   have ha4:=hat hj
   rw [show 16-k-1=16-(k+1) by omega] at ha4
   have e1:R=.ok (l,u.tail):=by rw [← hR3,manyP,hj];rfl
   simp (disch:=first|omega|assumption) only [go_sem,↓reduceIte]
   refine fin _ _ [.sl o 7 (cSs l)] l u.tail (by simp (disch:=first|omega|assumption) only [ir162,resvs,resv,go_sem,↓reduceIte]) (by rw [hx,e1]) (K3.toKI.call ha4) ?_
   simp [tupOf,AV.strip,AV.strip1,cSs_map,cS_strip]
  | false =>
   have K4:=K3.call (haf hj)
   obtain ⟨p4,hp4,hr4⟩:=K4.here
   rw [manyP,hj] at hR3
   simp only [Bool.false_eq_true,if_false] at hR3
   simp (disch:=first|omega|assumption) only [go_sem,↓reduceIte]
   refine goK_both (selPC (by omega) hv hp4 hl hr4) (fun v H5 ⟨x,t5,e5,hv5,ha5⟩=>?_) fun v H5 ⟨n5,e5,hv5⟩=>pan v H5 n5 hv5 (by rw [hx,← hR3,e5];rfl)
   subst hv5
   rw [e5,pb_ok] at hR3
   have hlt:=(selP_fit (selsP_fit k)).lt (by decide) _ _ _ e5
   have K5:=K4.call ha5
   simp (disch:=first|omega|assumption) only [cS_len,cS_take,cS_splice,go_sem,↓reduceIte]
   refine goP_ownS (by rw [hcl];exact K5.own) (by simp only [hcl,List.length_cons,List.length_nil];omega) (by simp only [hcl,List.length_cons,List.length_nil,maxLen];omega) fun o6 H6 hs6=>?_
   have K6:=K5.app (by simpa [hcl] using hs6)
   simp (disch:=first|omega|assumption) only [cS_len,cS_take,cS_splice,go_sem,↓reduceIte]
   refine goJ (hJ (o6,l++[x],t5) _ (by simp only;omega) ⟨by simpa using K6,⟨m,by simp only;omega,hR3⟩,by simp only [List.length_append,List.length_cons,List.length_nil];omega⟩) (by simp (disch:=first|omega|assumption) only [cSs_map,List.map_append,List.map_cons,List.map_nil,cS_strip,go_sem,↓reduceIte])
theorem selsPall:∀ k,k≤16→SelsPC k
 | 0,_=>selsPC0
 | k+1,h=>selsPCs (by omega) (selsPall k (by omega))
end Go.Proofs.YticbbfbpeimkbaaGreatDoor
namespace Go.Proofs.YticbbfbpeimkbaaGreatDoor
open Go.Ab
end Go.Proofs.YticbbfbpeimkbaaGreatDoor
namespace Go.Proofs.YticbbfbpeimkbaaGreatDoor
open Go.Lib
theorem u8_48 {d:Nat} (h:d<10):(UInt8.ofNat (48+d)).toNat=48+d:=by
 rw [UInt8.toNat_ofNat'];omega
theorem parse_dec (u:Nat) (hu:u<18446744073709551616) (r:List UInt8):parseUint10 0 (decDigits u++r)=parseUint10 u r:=by
 induction u using Nat.strongRecOn generalizing r with
 | _ u ih =>
  rw [decDigits]
  split
  ·rename_i h
   simp only [List.cons_append,List.nil_append,parseUint10,u8_48 h]
   rw [if_pos (by omega),if_neg (by omega),if_neg (by omega)]
   congr 1
   omega
  ·rename_i h
   have hd:u % 10<10:=Nat.mod_lt _ (by omega)
   rw [List.append_assoc,ih (u / 10) (by omega) (by omega)]
   simp only [List.cons_append,List.nil_append,parseUint10,u8_48 hd]
   rw [if_pos (by omega),if_neg (by omega),if_neg (by omega)]
   congr 1
   omega
theorem decDigits_ne (u:Nat):decDigits u≠[]:=by
 rw [decDigits];split<;>simp
theorem decDigits_mem (u:Nat):∀ c ∈ decDigits u,48≤c.toNat∧c.toNat≤57:=by
 induction u using Nat.strongRecOn with
 | _ u ih =>
  intro c hc
  rw [decDigits] at hc
  split at hc
  ·rename_i h
   rw [List.mem_singleton] at hc
   subst hc
   rw [u8_48 h];omega
  ·rename_i h
   rcases List.mem_append.1 hc with e|e
   ·exact ih (u / 10) (by omega) c e
   ·rw [List.mem_singleton] at e
    subst e
    rw [u8_48 (Nat.mod_lt _ (by omega))];omega
theorem parse_mag (u:Nat) (hu:u<18446744073709551616):parseMag (decDigits u)=.ok u:=by
 unfold parseMag
 rw [if_neg (decDigits_ne u)]
 have:=parse_dec u hu []
 rw [List.append_nil] at this
 rw [this];rfl
theorem parse_itoa (n:Int) (h1:-9223372036854775808≤n) (h2:n≤9223372036854775807):parseIntB 64 (itoa n)=.ok n:=by
 rw [parseIntB_64]
 unfold itoa
 split
 ·rename_i h
  rw [atoiAll_minus,parse_mag _ (by omega)]
  simp only [signed]
  rw [if_neg (by omega)]
  congr 1
  omega
 ·rename_i h
  cases hd:decDigits n.toNat with
  | nil=>exact absurd hd (decDigits_ne _)
  | cons c r =>
   have hc:=decDigits_mem n.toNat c (by rw [hd];simp)
   rw [atoiAll_plain c r (by omega) (by omega),← hd,parse_mag _ (by omega)]
   simp only [signless]
   rw [if_neg (by omega)]
   congr 1
   omega
end Go.Proofs.YticbbfbpeimkbaaGreatDoor
namespace Go.Proofs.YticbbfbpeimkbaaGreatDoor
open Go.Ab
abbrev pl (v:Val):Prop:=allV nameM v=true
inductive Shape:Val→Prop
 | null:Shape (.mk 0 0 [] [] [])
 | bool (n:Int) (h:n=0∨n=1):Shape (.mk 1 n [] [] [])
 | int (n:Int):Shape (.mk 2 n [] [] [])
 | num (s:List UInt8) (h:numB s=true):Shape (.mk 3 0 s [] [])
 | text (s:List UInt8):Shape (.mk 4 0 s [] [])
 | word (s:List UInt8) (h:resB s=false):Shape (.mk 5 0 s [] [])
 | var (s:List UInt8):Shape (.mk 8 0 s [] [])
 | list (l:List Val) (h:allVs nameM l=true):Shape (.mk 6 0 [] l [])
 | obj (m:List Mem) (h:allMs nameM m=true):Shape (.mk 7 0 [] [] m)
theorem bareM_iff {n:Int} {s:List UInt8} {l:List Val} {m:List Mem}:bareM n s l m=true↔n=0∧s=[]∧l=[]∧m=[]:=by
 simp [bareM]
theorem shape:∀ v,pl v→Shape v
 | .mk k n s l m,h=>by
  simp only [pl,allV] at h
  split at h
  ·rename_i k6
   subst k6
   simp only [Bool.and_eq_true,bareM_iff] at h
   obtain ⟨h1,rfl,rfl,_,rfl⟩:=h
   exact .list l h1
  ·split at h
   ·rename_i k7
    subst k7
    simp only [Bool.and_eq_true,bareM_iff] at h
    obtain ⟨h1,rfl,rfl,rfl,_⟩:=h
    exact .obj m h1
   ·simp only [singleM,Bool.and_eq_true,bareM_iff] at h
    obtain ⟨⟨_,_,rfl,rfl⟩,h⟩:=h
    split at h
    ·rename_i k0
     subst k0
     simp only [Bool.and_eq_true,decide_eq_true_eq] at h
     obtain ⟨rfl,rfl⟩:=h
     exact .null
    split at h
    ·rename_i k0
     subst k0
     simp only [Bool.and_eq_true,Bool.or_eq_true,decide_eq_true_eq] at h
     obtain ⟨h,rfl⟩:=h
     exact .bool n h
    split at h
    ·rename_i k0
     subst k0
     simp only [decide_eq_true_eq] at h
     subst h
     exact .int n
    split at h
    ·rename_i k0
     subst k0
     simp only [Bool.and_eq_true,decide_eq_true_eq] at h
     obtain ⟨rfl,h⟩:=h
     exact .num s h
    split at h
    ·rename_i k0
     subst k0
     simp only [Bool.and_eq_true,decide_eq_true_eq] at h
     obtain ⟨rfl,h⟩:=h
     exact .text s
    split at h
    ·rename_i k0
     subst k0
     simp only [Bool.and_eq_true,decide_eq_true_eq,Bool.not_eq_true'] at h
     obtain ⟨rfl,_,h⟩:=h
     exact .word s h
    split at h
    ·rename_i k0
     subst k0
     simp only [Bool.and_eq_true,decide_eq_true_eq] at h
     obtain ⟨rfl,_⟩:=h
     exact .var s
    ·cases h
end Go.Proofs.YticbbfbpeimkbaaGreatDoor
