import Derived.Test.YtaielcdfcgpbiaaGreatDoorM1
import Derived.Test.YtaielcdfcgpbiaaGreatDoorM2
set_option maxRecDepth 100000
set_option linter.all false
namespace Go.Ab
mutual
def avEq:AV→AV→Bool
 | .any,.any=>true
 | .bool a,.bool b=>a==b
 | .int k a,.int k' b=>decide (k=k')&&decide (a=b)
 | .str a,.str b=>a==b
 | .agg a,.agg b=>avEqs a b
 | .tup a,.tup b=>avEqs a b
 | .view a,.view b=>avEqs a b
 | .sl o s a,.sl o' s' b=>decide (o=o')&&(decide (s=s')&&avEqss a b)
 | .nilp,.nilp=>true
 | .nilm,.nilm=>true
 | .ptr a b,.ptr c d=>decide (a=c)&&decide (b=d)
 | .mp a,.mp b=>decide (a=b)
 | _,_=>false
def avEqs:List AV→List AV→Bool
 | [],[]=>true
 | a::l,b::m=>avEq a b&&avEqs l m
 | _,_=>false
def avEqss:List (List AV)→List (List AV)→Bool
 | [],[]=>true
 | a::l,b::m=>avEqs a b&&avEqss l m
 | _,_=>false
end
mutual
theorem avEq_eq:∀ a b:AV,avEq a b=true→a=b
 | .any,b,h=>by cases b<;>simp[avEq] at h<;>rfl
 | .bool a,b,h=>by cases b<;>simp[avEq] at h;subst h;rfl
 | .ubool a,b,h=>by cases b<;>simp[avEq] at h
 | .int k a,b,h=>by cases b<;>simp[avEq] at h;obtain⟨rfl,rfl⟩:=h;rfl
 | .str a,b,h=>by cases b<;>simp[avEq] at h;subst h;rfl
 | .agg a,b,h=>by cases b<;>simp[avEq] at h;rw[avEqs_eq _ _ h]
 | .tup a,b,h=>by cases b<;>simp[avEq] at h;rw[avEqs_eq _ _ h]
 | .view a,b,h=>by cases b<;>simp[avEq] at h;rw[avEqs_eq _ _ h]
 | .sl o s a,b,h=>by cases b<;>simp[avEq] at h;obtain⟨rfl,rfl,h⟩:=h;rw[avEqss_eq _ _ h]
 | .slx s a c,b,h=>by cases b<;>simp[avEq] at h
 | .nilp,b,h=>by cases b<;>simp[avEq] at h<;>rfl
 | .nilm,b,h=>by cases b<;>simp[avEq] at h<;>rfl
 | .ptr a c,b,h=>by cases b<;>simp[avEq] at h;obtain⟨rfl,rfl⟩:=h;rfl
 | .mp a,b,h=>by cases b<;>simp[avEq] at h;subst h;rfl
 | .ms _ _ _ _,b,h=>by cases b<;>simp[avEq] at h
 | .clo _ _ _,b,h=>by cases b<;>simp[avEq] at h
 | .oth _,b,h=>by cases b<;>simp[avEq] at h
 | .ifc _ _,b,h=>by cases b<;>simp[avEq] at h
theorem avEqs_eq:∀ a b:List AV,avEqs a b=true→a=b
 | [],[],_=>rfl
 | [],_::_,h=>by simp[avEqs] at h
 | _::_,[],h=>by simp[avEqs] at h
 | a::l,b::m,h=>by
  simp only[avEqs,Al0] at h
  rw[avEq_eq a b h.1,avEqs_eq l m h.2]
theorem avEqss_eq:∀ a b:List (List AV),avEqss a b=true→a=b
 | [],[],_=>rfl
 | [],_::_,h=>by simp[avEqss] at h
 | _::_,[],h=>by simp[avEqss] at h
 | a::l,b::m,h=>by
  simp only[avEqss,Al0] at h
  rw[avEqs_eq a b h.1,avEqss_eq l m h.2]
end
abbrev AH:=List (Nat×AObj)
def AH.get:AH→Heap
 | [],_=>none
 | (b,o)::r,c=>if c=b then some o else AH.get r c
def AH.put:AH→Nat→AObj→AH
 | [],b,o=>[(b,o)]
 | (c,x)::r,b,o=>if b=c then (b,o)::r else (c,x)::AH.put r b o
def AH.del:AH→Nat→AH
 | [],_=>[]
 | (c,x)::r,b=>if b=c then AH.del r b else (c,x)::AH.del r b
theorem AH.get_cons (h:AH) (b:Nat) (o:AObj):AH.get ((b,o)::h)=Heap.upd h.get b o:=rfl
theorem AH.get_put (b:Nat) (o:AObj):∀ h:AH,(h.put b o).get=Heap.upd h.get b o
 | []=>rfl
 | (c,x)::r=>by
  simp only[AH.put]
  split
  ·rename_i e;subst e
   funext d;simp only[AH.get,Heap.upd];split<;>rfl
  ·rename_i hn
   funext d
   simp only[AH.get,Heap.upd,AH.get_put b o r]
   by_cases h1:d=c
   ·subst h1;rw[if_pos rfl,if_neg (Ne.symm hn),if_pos rfl]
   ·rw[if_neg h1,if_neg h1]
theorem AH.get_del (b:Nat):∀ h:AH,(h.del b).get=Heap.del h.get b
 | []=>by funext d;simp[AH.del,AH.get,Heap.del]
 | (c,x)::r=>by
  simp only[AH.del]
  split
  ·rename_i e;subst e
   rw[AH.get_del b r]
   funext d;simp only[AH.get,Heap.del];split<;>rfl
  ·rename_i hn
   funext d
   simp only[AH.get,Heap.del,AH.get_del b r]
   by_cases h1:d=c
   ·subst h1;rw[if_pos rfl,if_neg (Ne.symm hn),if_pos rfl]
   ·rw[if_neg h1,if_neg h1]
abbrev EL:=List (Nat×AV)
def EL.put:EL→Nat→AV→EL
 | [],d,c=>[(d,c)]
 | (n,x)::r,d,c=>if d=n then (d,c)::r else (n,x)::EL.put r d c
def EL.set (l:EL) (d:Option Nat) (c:AV):EL :=
 match d with
 | some d=>EL.put l d c
 | none=>l
theorem EL.put_eq (d:Nat) (c:AV):∀ l:EL,envOf (EL.put l d c)=(envOf l).set (some d) c
 | []=>by funext n;simp only[EL.put,envOf,Env.set]
 | (n,x)::r=>by
  simp only[EL.put]
  split
  ·rename_i e;subst e
   funext k;simp only[envOf,Env.set];split<;>rfl
  ·rename_i hn
   funext k
   have:=congrFun (EL.put_eq d c r) k
   simp only[envOf,Env.set] at this ⊢
   rw[this]
   by_cases h1:k=n
   ·subst h1;rw[if_pos rfl,if_neg (Ne.symm hn),if_pos rfl]
   ·rw[if_neg h1,if_neg h1]
theorem EL.set_eq (d:Option Nat) (c:AV) (l:EL):envOf (EL.set l d c)=(envOf l).set d c:=by
 cases d with
 | none=>rfl
 | some d=>exact EL.put_eq d c l
def EL.keep (l:EL) (k:List Nat):EL:=k.map fun n=>(n,envOf l n)
theorem EL.keep_eq (l:EL) (k:List Nat):envOf (EL.keep l k)=(envOf l).keep k:=rfl
abbrev ER:=Option (AEnd×Nat×AH)
abbrev ECall:=FuncId→List AV→Nat→AH→ER
def rt (r:Option (AV×Nat×AH)):ER:=match r with
 | some (v,nx,h)=>some (.ret v,nx,h)
 | none=>none
def evRe (ρ:Env) (H:Heap):List Chk→Bool
 | []=>true
 | (d,g,o)::r=>(match gv g ρ with
  | some true=>match rev ρ H o with
   | some v=>avEq v (ρ d)
   | none=>false
  | _=>true)&&evRe ρ H r
def evNew (o:Own) (sz:Nat) (xs:List (List AV)) (nx:Nat) (h:AH):List (List AV)→Option (AV×Nat×AH)
 | []=>some (.sl o sz xs,nx,h)
 | y::r=>some (.sl (.tip nx 0) sz (xs++(y::r).map (·.map AV.strip1)),nx+1,(nx,.tip (xs.length+(y::r).length) sz)::h)
def evApp (sz bytes:Nat) (x y:AV) (nx:Nat) (h:AH):Option (AV×Nat×AH) :=
 match x,y with
 | .sl o s1 xs,.sl _ s2 ys =>
  if s1=sz∧s2=sz∧(xs.length+ys.length)*bytes≤140737488355328∧xs.length+ys.length≤maxLen then
   match o with
   | .no=>none
   | .nil|.full=>evNew o sz xs nx h ys
   | .tip b d=>match h.get b with
    | some (.tip n s)=>if n=d+xs.length∧s=sz then some (.sl (.tip nx 0) sz (xs++ys.map (·.map AV.strip1)),nx+1,(nx,.tip (xs.length+ys.length) sz)::h.del b) else none
    | _=>none
  else none
 | _,_=>none
def evEff (ρ:Env) (nx:Nat) (h:AH):AOp→Option (AV×Nat×AH)
 | .st n x y=>match x.ev ρ with
  | .ptr b off=>match h.get b with
   | some (.cells cs)=>if (y.ev ρ).cells.length=n∧off+n≤cs.length∧(y.ev ρ).boxable=true then some (.tup [],nx,h.put b (.cells (splice cs off (y.ev ρ).cells))) else none
   | _=>none
  | _=>none
 | .mup kt m k v=>match m.ev ρ with
  | .mp b=>match h.get b with
   | some (.map kt' es)=>if kt'=kt∧kt.fits (k.ev ρ)=true then some (.tup [],nx,h.put b (.map kt (mset es (k.ev ρ) (v.ev ρ)))) else none
   | _=>none
  | _=>none
 | .app sz bytes x y=>evApp sz bytes (x.ev ρ) (y.ev ρ) nx h
 | .apps x y=>match y.ev ρ with
  | .str s=>evApp 1 1 (x.ev ρ) (.sl .no 1 (bytesOf s)) nx h
  | _=>none
 | _=>none
def evOp (P:Program) (call:ECall) (ρ:Env) (nx:Nat) (h:AH) (o:AOp):ER :=
 match o.cls with
 | .pure=>match pev ρ o with
  | some v=>some (.ret v,nx,h)
  | none=>none
 | .read=>match rev ρ h.get o with
  | some v=>some (.ret v,nx,h)
  | none=>none
 | .alloc=>match oev ρ o with
  | some x=>some (.ret (optr ρ nx o),nx+1,(nx,x)::h)
  | none=>none
 | .eff=>match o with
  | .call f args=>call f (args.map (Opd.ev ρ)) nx h
  | .callv g args=>match g.ev ρ with
   | .clo f first caps=>if Program.callable P f=true then call f (first++args.map (Opd.ev ρ)++caps) nx h else none
   | _=>none
  | .pan x=>match x.ev ρ with
   | .ifc t y=>some (.pan (.ifc t y),nx,h)
   | _=>none
  | o=>rt (evEff ρ nx h o)
inductive XI where
 | ok (l:EL)
 | pan (v:AV)
def evItems (P:Program) (call:ECall):List (AItem×List Chk)→EL→Nat→AH→Option (XI×Nat×AH)
 | [],l,nx,h=>some (.ok l,nx,h)
 | it::r,l,nx,h=>match gv it.1.guard (envOf l) with
  | some true=>match evOp P call (envOf l) nx h it.1.op with
   | some (.ret v,nx',h')=>if evRe (envOf (EL.set l it.1.dst v)) h'.get it.2=true then evItems P call r (EL.set l it.1.dst v) nx' h' else none
   | some (.pan v,nx',h')=>some (.pan v,nx',h')
   | none=>none
  | some false=>evItems P call r (EL.set l it.1.dst (.tup [])) nx h
  | none=>none
inductive EX where
 | n (x:AExit) (l:EL)
 | p (v:AV)
abbrev CR:=Option (EX×Nat×AH)
def evC (P:Program) (call:ECall):Nat→AC→EL→Nat→AH→CR
 | 0,_,_,_,_=>none
 | m+1,c,l,nx,h=>match c with
  | .skip=>some (.n .normal l,nx,h)
  | .reg _ items=>match evItems P call (annot items) l nx h with
   | some (.ok l,nx,h)=>some (.n .normal l,nx,h)
   | some (.pan v,nx,h)=>some (.p v,nx,h)
   | none=>none
  | .seq a b=>match evC P call m a l nx h with
   | some (.n .normal l,nx,h)=>evC P call m b l nx h
   | r=>r
  | .join keep a b=>match evC P call m a l nx h with
   | some (.n .normal l,nx,h)=>evC P call m b (EL.keep l keep) nx h
   | r=>r
  | .cond c t e=>match c.ev (envOf l) with
   | .bool true=>evC P call m t l nx h
   | .bool false=>evC P call m e l nx h
   | _=>none
  | .block id b=>match evC P call m b l nx h with
   | some (.n (.exit i) l,nx,h)=>if i=id then some (.n .normal l,nx,h) else some (.n (.exit i) l,nx,h)
   | r=>r
  | .loop keep b=>match evC P call m b (EL.keep l keep) nx h with
   | some (.n .normal l,nx,h)=>evC P call m (.loop keep b) l nx h
   | r=>r
  | .scope b=>evC P call m b l nx h
  | .exit id=>some (.n (.exit id) l,nx,h)
  | .ret=>some (.n .ret l,nx,h)
  | .rfun _ _ _ _=>none
inductive EFn where
 | fn (af:AFn) (whole:Bool)
 | sp (s:ASp) (df:FuncId) (d:ADfn) (whole:Bool)
def evEnd (res:List ARes) (r:CR):ER:=match r with
 | some (.n (.exit _) _,_,_)=>none
 | some (.n _ l,nx,h)=>match resvs (envOf l) h.get res with
  | some vs=>some (.ret (tupOf vs),nx,h)
  | none=>none
 | some (.p v,nx,h)=>some (.pan v,nx,h)
 | none=>none
def evThen (res:List ARes) (r:CR) (k:EL→Nat→AH→ER):ER:=match r with
 | some (.n .normal l,nx,h)=>k l nx h
 | r=>evEnd res r
def evDef (P:Program) (call:ECall) (fuel:Nat) (s:ASp) (d:ADfn) (caps:List AV) (rv:Option AV) (l1:EL) (nx:Nat) (h:AH):ER :=
 if d.np<caps.length then none else
 match evItems P call (annot d.items) (EL.set (mkArgs 0 caps) (some d.d) (rv.getD (.oth .nilIface))) nx h with
 | some (.ok l,nx,h)=>match evC P call fuel d.body l nx h with
  | some (.n (.exit _) _,_,_)=>none
  | some (.n _ _,nx,h)=>match resvs ((envOf l1).keep (List.range s.lo)) h.get s.res with
   | some vs=>some (.ret (tupOf vs),nx,h)
   | none=>none
  | _=>none
 | _=>none
def evSp (P:Program) (call:ECall) (fuel:Nat) (s:ASp) (df:FuncId) (d:ADfn) (args:List AV) (nx:Nat) (h:AH):ER :=
 evThen s.res (evC P call fuel s.pre (mkArgs 0 args) nx h) fun l nx h =>
 evThen s.res (match s.mid with
  | none=>some (.n .normal l,nx,h)
  | some m=>evC P call fuel m l nx h) fun l nx h =>
 evThen s.res (evC P call fuel s.blk l nx h) fun l nx h =>
 match evItems P call (annot s.items) l nx h with
 | some (.ok l1,nx,h)=>match envOf l1 s.g with
  | .clo f [] caps=>if f=df∧Program.callable P f=true then match evC P call fuel s.body l1 nx h with
   | some (.n (.exit _) _,_,_)=>none
   | some (.n _ _,nx,h)=>evDef P call fuel s d caps none l1 nx h
   | some (.p v,nx,h)=>evDef P call fuel s d caps (some v) l1 nx h
   | none=>none
   else none
  | _=>none
 | some (.pan v,nx,h)=>some (.pan v,nx,h)
 | none=>none
def AEnd.strip:AEnd→AEnd
 | .ret v=>.ret v.strip
 | .pan v=>.pan v
def AEnd.free:AEnd→Bool
 | .ret v=>v.free
 | .pan v=>v.free
def evPure (nx:Nat) (h:AH) (r:ER):ER:=match r with
 | some (e,_,_)=>if e.strip.free=true then some (e.strip,nx,h) else none
 | none=>none
def evFn (P:Program) (call:ECall) (fuel:Nat) (x:EFn) (args:List AV) (nx:Nat) (h:AH):ER :=
 match x with
 | .fn af true=>if af.np<args.length then none else evEnd af.res (evC P call fuel af.body (mkArgs 0 args) nx h)
 | .fn af false=>if af.np<args.length then none else if AV.frees (args.map AV.strip)=true then evPure nx h (evEnd af.res (evC P call fuel af.body (mkArgs 0 (args.map AV.strip)) 0 [])) else evEnd af.res (evC P call fuel af.body (mkArgs 0 args) nx h)
 | .sp s df d true=>if s.np<args.length then none else evSp P call fuel s df d args nx h
 | .sp s df d false=>if s.np<args.length then none else if AV.frees (args.map AV.strip)=true then evPure nx h (evSp P call fuel s df d (args.map AV.strip) 0 []) else evSp P call fuel s df d args nx h
def evF (P:Program) (T:FuncId→Option EFn) (O:FuncId→List AV→Option AV) (fuel:Nat):Nat→ECall
 | 0,_,_,_,_=>none
 | n+1,f,args,nx,h=>match O f (args.map AV.strip) with
  | some r=>some (.ret r,nx,h)
  | none=>match T f with
   | none=>none
   | some x=>evFn P (evF P T O fuel n) fuel x args nx h
inductive RObj (σ:Ren) (e:Nat):AObj→AObj→Prop
 | cells {cs ds:List AV} (h:RL σ cs ds):RObj σ e (.cells cs) (.cells ds)
 | tip (n sz:Nat):RObj σ e (.tip n sz) (.tip (e+n) sz)
 | map {kt:KT} {es fs:List (AV×AV)} (h:F2 (fun x y=>RV σ x.1 y.1∧RV σ x.2 y.2) es fs):RObj σ e (.map kt es) (.map kt fs)
structure RS (σ:Ren) (nx:Nat) (H H':Heap):Prop where
 obj:∀ b o,H b=some o→∃ c e o',σ b=some (c,e)∧H' c=some o'∧RObj σ e o o'
 inj:∀ b b' c e e',(H b).isSome=true→(H b').isSome=true→σ b=some (c,e)→σ b'=some (c,e')→b=b'
 dom:∀ b,nx≤b→σ b=none
section
variable {σ τ:Ren} {nx:Nat} {H H':Heap} {ρ ρ':Env}
theorem RObj.mono (m:σ.le τ) {e:Nat} {x y:AObj} (h:RObj σ e x y):RObj τ e x y:=by
 cases h with
 | cells h=>exact .cells (RL.mono m h)
 | tip n sz=>exact .tip n sz
 | map h=>exact .map (F2.mono h fun _ _ h=>⟨h.1.mono m,h.2.mono m⟩)
theorem Ren.le_refl (σ:Ren):σ.le σ:=fun _ _ h=>h
theorem Ren.le_trans {σ τ υ:Ren} (h:σ.le τ) (h':τ.le υ):σ.le υ:=fun b x hb=>h' b x (h b x hb)
def Ren.put (σ:Ren) (b c e:Nat):Ren:=fun x=>if x=b then some (c,e) else σ x
theorem Ren.le_put {b c e:Nat} (h:σ b=none):σ.le (σ.put b c e):=fun x y hx=>by
 unfold Ren.put
 split
 ·rename_i e;subst e;rw[h] at hx;cases hx
 ·exact hx
theorem RS.fresh (h:RS σ nx H H'):H nx=none:=by
 cases hb:H nx with
 | none=>rfl
 | some o=>obtain⟨c,e,o',h1,_⟩:=h.obj nx o hb;rw[h.dom nx (Al4 _)] at h1;cases h1
theorem RS.upd (h:RS σ nx H H') {b c e:Nat} {o x y:AObj} (hb:H b=some o) (hs:σ b=some (c,e)) (hx:RObj σ e x y):RS σ nx (H.upd b x) (H'.upd c y):=by
 refine⟨fun d o2 hd=>?_,fun d d' c' e1 e2 h1 h2=>h.inj d d' c' e1 e2 ?_ ?_,h.dom⟩
 ·unfold Heap.upd at hd
  split at hd
  ·rename_i e1;subst e1
   simp only[Al1] at hd;subst hd
   exact⟨c,e,y,hs,by simp[Heap.upd],hx⟩
  ·rename_i hn
   obtain⟨c2,e2,o',h1,h2,h3⟩:=h.obj d o2 hd
   refine⟨c2,e2,o',h1,?_,h3⟩
   unfold Heap.upd
   rw[if_neg]
   ·exact h2
   ·intro e3;subst e3
    exact hn (h.inj d b c2 e2 e (by simp[hd]) (by simp[hb]) h1 hs)
 ·unfold Heap.upd at h1
  split at h1
  ·rename_i e;subst e;simp[hb]
  ·exact h1
 ·unfold Heap.upd at h2
  split at h2
  ·rename_i e;subst e;simp[hb]
  ·exact h2
theorem RS.new (h:RS σ nx H H') {c e:Nat} {x y:AObj} (hc:H' c=none) (hx:RObj (σ.put nx c e) e x y):RS (σ.put nx c e) (nx+1) (H.upd nx x) (H'.upd c y):=by
 have hle:σ.le (σ.put nx c e):=Ren.le_put (h.dom nx (Al4 _))
 have live:∀ d o2,H d=some o2→∃ c2 e2 o',σ d=some (c2,e2)∧H' c2=some o'∧RObj σ e2 o2 o'∧c2≠c∧d≠nx:=fun d o2 hd=>by
  obtain⟨c2,e2,o',h1,h2,h3⟩:=h.obj d o2 hd
  refine⟨c2,e2,o',h1,h2,h3,fun e3=>?_,fun e3=>?_⟩
  ·subst e3;rw[hc] at h2;cases h2
  ·subst e3;rw[h.fresh] at hd;cases hd
 have up:∀ d,((H.upd nx x) d).isSome=true→d=nx∨(d≠nx∧∃ o,H d=some o):=fun d hd=>by
  by_cases e1:d=nx
  ·exact .inl e1
  ·right
   refine⟨e1,ZF.1 ?_⟩
   simpa[Heap.upd,e1] using hd
 refine⟨fun d o2 hd=>?_,fun d d' c' e1 e2 h1 h2 g1 g2=>?_,fun b hb=>?_⟩
 ·unfold Heap.upd at hd
  split at hd
  ·rename_i e1;subst e1
   simp only[Al1] at hd;subst hd
   exact⟨c,e,y,by simp[Ren.put],by simp[Heap.upd],hx⟩
  ·obtain⟨c2,e2,o',h1,h2,h3,h4,h5⟩:=live d o2 hd
   exact⟨c2,e2,o',hle _ _ h1,by simp[Heap.upd,h4,h2],h3.mono hle⟩
 ·rcases up d h1 with rfl|⟨n1,o1,k1⟩
  ·rcases up d' h2 with rfl|⟨n2,o2,k2⟩
   ·rfl
   ·obtain⟨c2,e3,o',p1,_,_,p4,_⟩:=live d' o2 k2
    have:=hle _ _ p1
    rw[this] at g2
    simp only[Ren.put,if_true,Al1,Al8] at g1 g2
    exact absurd (g2.1.trans g1.1.symm) p4
  ·obtain⟨c2,e3,o',p1,_,_,p4,_⟩:=live d o1 k1
   have q1:=hle _ _ p1
   rw[q1] at g1
   rcases up d' h2 with rfl|⟨n2,o2,k2⟩
   ·simp only[Ren.put,if_true,Al1,Al8] at g1 g2
    exact absurd (g1.1.trans g2.1.symm) p4
   ·obtain⟨c3,e4,o3,r1,_,_,r4,_⟩:=live d' o2 k2
    have q2:=hle _ _ r1
    rw[q2] at g2
    simp only[Al1,Al8] at g1 g2
    obtain⟨rfl,rfl⟩:=g1
    obtain⟨rfl,rfl⟩:=g2
    exact h.inj d d' _ _ _ (by simp[k1]) (by simp[k2]) p1 r1
 ·simp only[Ren.put]
  rw[if_neg (by omega)]
  exact h.dom b (by omega)
theorem RS.del (h:RS σ nx H H') {b c e:Nat} {o:AObj} (hb:H b=some o) (hs:σ b=some (c,e)):RS σ nx (H.del b) (H'.del c):=by
 have dn:∀ d o2,(H.del b) d=some o2→d≠b∧H d=some o2:=fun d o2 hd=>by
  unfold Heap.del at hd
  split at hd
  ·cases hd
  ·rename_i hn;exact⟨hn,hd⟩
 refine⟨fun d o2 hd=>?_,fun d d' c' e1 e2 h1 h2 g1 g2=>?_,h.dom⟩
 ·obtain⟨n1,k1⟩:=dn d o2 hd
  obtain⟨c2,e2,o',h1,h2,h3⟩:=h.obj d o2 k1
  refine⟨c2,e2,o',h1,?_,h3⟩
  unfold Heap.del
  rw[if_neg]
  ·exact h2
  ·intro e3;subst e3
   exact n1 (h.inj d b c2 e2 e (by simp[k1]) (by simp[hb]) h1 hs)
 ·obtain⟨o1,k1⟩:=ZF.1 h1
  obtain⟨o2,k2⟩:=ZF.1 h2
  exact h.inj d d' c' e1 e2 (by simp[(dn _ _ k1).2]) (by simp[(dn _ _ k2).2]) g1 g2
theorem mget_rel {es fs:List (AV×AV)} (h:F2 (fun x y=>RV σ x.1 y.1∧RV σ x.2 y.2) es fs) {k k':AV} (hk:RV σ k k') :
  (mget es k=none∧mget fs k'=none)∨∃ v w,mget es k=some v∧mget fs k'=some w∧RV σ v w:=by
 induction h with
 | nil=>exact .inl ⟨rfl,rfl⟩
 | @cons a b l m h0 _ ih =>
  obtain⟨a1,a2⟩:=a
  obtain⟨b1,b2⟩:=b
  simp only[mget,keq_rel hk h0.1]
  cases k'.keq b1 with
  | true=>right;exact⟨a2,b2,by simp,by simp,h0.2⟩
  | false=>simpa using ih
theorem mset_rel {es fs:List (AV×AV)} (h:F2 (fun x y=>RV σ x.1 y.1∧RV σ x.2 y.2) es fs) {k k' v v':AV} (hk:RV σ k k') (hv:RV σ v v') :
  F2 (fun x y=>RV σ x.1 y.1∧RV σ x.2 y.2) (mset es k v) (mset fs k' v'):=by
 induction h with
 | nil=>exact .cons ⟨hk,hv⟩ .nil
 | @cons a b l m h0 h1 ih =>
  obtain⟨a1,a2⟩:=a
  obtain⟨b1,b2⟩:=b
  simp only[mset,keq_rel hk h0.1]
  cases k'.keq b1 with
  | true=>exact .cons ⟨hk,hv⟩ h1
  | false=>exact .cons h0 ih
theorem lkres_rel {z z':AV} (hz:RV σ z z') (ok:Bool) {a b:Option AV} (h:(a=none∧b=none)∨∃ v w,a=some v∧b=some w∧RV σ v w):RV σ (lkres z ok a) (lkres z' ok b):=by
 rcases h with ⟨rfl,rfl⟩|⟨v,w,rfl,rfl,hv⟩
 ·cases ok
  ·exact hz
  ·exact .tupL (.cons hz (.cons (.bool _) .nil))
 ·cases ok
  ·exact hv
  ·exact .tupL (.cons hv (.cons (.bool _) .nil))
theorem rev_rel (h:RE σ ρ ρ') (hs:RS σ nx H H') {o:AOp} (ho:o.okc=true) {v:AV} (hv:rev ρ H o=some v):∃ v',rev ρ' H' o=some v'∧RV σ v v':=by
 cases o with
 | ld n ag x =>
  have hx:=h.ev (x:=x) ho
  simp only[rev] at hv ⊢
  split at hv
  ·rename_i cs e
   rw[e] at hx;obtain⟨ds,e2,h2⟩:=hx.view_inv;rw[e2]
   simp only
   rw[← h2.len]
   split at hv
   ·rename_i hc
    rw[if_pos hc]
    simp only[Al1] at hv ⊢;subst hv;exact⟨_,rfl,.mk (F2.take h2 n)⟩
   ·cases hv
  ·rename_i b off e
   rw[e] at hx;obtain⟨c,d,e2,h2⟩:=hx.ptr_inv;rw[e2]
   simp only
   split at hv
   ·rename_i cs e3
    obtain⟨c2,d2,o',h3,h4,h5⟩:=hs.obj _ _ e3
    rw[h2] at h3;cases h3
    cases h5 with
    | cells h5 =>
     rw[h4]
     simp only
     rw[← h5.len]
     split at hv
     ·rename_i hc
      rw[if_pos hc]
      simp only[Al1] at hv ⊢;subst hv;exact⟨_,rfl,.mk (F2.take (F2.drop h5 off) n)⟩
     ·cases hv
   ·cases hv
  ·cases hv
 | lkp kt z ok m k =>
  simp only[AOp.okc,Al0] at ho
  have hm:=h.ev ho.1.2
  have hk:=h.ev ho.2
  have hz:=z.free_rv (σ:=σ) ho.1.1
  simp only[rev] at hv ⊢
  rw[← fits_rel (kt:=kt) hk]
  split at hv
  ·rename_i hf
   rw[if_pos hf]
   split at hv
   ·rename_i e
    rw[e] at hm;rw[hm.nilm_inv]
    simp only[Al1] at hv ⊢;subst hv;exact⟨_,rfl,lkres_rel hz ok (.inl ⟨rfl,rfl⟩)⟩
   ·rename_i b e
    rw[e] at hm;obtain⟨c,d,e2,h2⟩:=hm.mp_inv;rw[e2]
    simp only
    split at hv
    ·rename_i kt' es e3
     obtain⟨c2,d2,o',h3,h4,h5⟩:=hs.obj _ _ e3
     rw[h2] at h3;cases h3
     cases h5 with
     | map h5 =>
      rw[h4]
      simp only
      split at hv
      ·rename_i hc
       rw[if_pos hc]
       simp only[Al1] at hv ⊢;subst hv;exact⟨_,rfl,lkres_rel hz ok (mget_rel h5 hk)⟩
      ·cases hv
    ·cases hv
   ·cases hv
  ·cases hv
 | lenm x =>
  have hx:=h.ev (x:=x) ho
  simp only[rev] at hv ⊢
  split at hv
  ·rename_i e
   rw[e] at hx;rw[hx.nilm_inv]
   simp only[Al1] at hv ⊢;subst hv;exact⟨_,rfl,.int _ _⟩
  ·rename_i b e
   rw[e] at hx;obtain⟨c,d,e2,h2⟩:=hx.mp_inv;rw[e2]
   simp only
   split at hv
   ·rename_i kt' es e3
    obtain⟨c2,d2,o',h3,h4,h5⟩:=hs.obj _ _ e3
    rw[h2] at h3;cases h3
    cases h5 with
    | map h5 =>
     rw[h4]
     simp only[Al1] at hv ⊢;subst hv;rw[h5.len];exact⟨_,rfl,.int _ _⟩
   ·cases hv
  ·cases hv
 | _=>simp[rev] at hv
theorem gv_rel (h:RE σ ρ ρ') (g:Option (Nat×Bool)):gv g ρ=gv g ρ':=by
 cases g with
 | none=>rfl
 | some x =>
  obtain⟨s,b⟩:=x
  have hs:=h s
  simp only[gv]
  generalize ρ s=a at hs
  generalize ρ' s=c at hs
  cases hs with
  | tup hl hh =>
   have:=(F2.of_get (R:=fun _ _=>True) hl (fun _ _ _ _ _=>trivial))
   cases this<;>rfl
  | _=>rfl
theorem recheck_rel (h:RE σ ρ ρ') (hs:RS σ nx H H'):∀ {R:List Chk},(R.all fun x=>x.2.2.okc)=true→evRe ρ H R=true→recheck ρ' H' R
 | [],_,_=>trivial
 | (d,g,o)::r,ho,hr=>by
  simp only[List.all_cons,Al0] at ho
  simp only[evRe,Al0] at hr
  refine⟨fun hg=>?_,recheck_rel h hs ho.2 hr.2⟩
  rw[← gv_rel h] at hg
  rw[hg] at hr
  simp only at hr
  cases hv:rev ρ H o with
  | none=>rw[hv] at hr;simp at hr
  | some v =>
   rw[hv] at hr
   obtain⟨v',h1,h2⟩:=rev_rel h hs ho.1 hv
   rw[h1]
   have:=avEq_eq _ _ hr.1
   subst this
   rw[h2.det (h d)]
theorem madeA_rel {z z':List AV} (h:RL σ z z'):∀ n,RL σ (madeA z n) (madeA z' n)
 | 0=>.nil
 | n+1=>F2.app h (madeA_rel h n)
theorem oev_rel (h:RE σ ρ ρ') {o:AOp} (ho:o.okc=true) {x:AObj} (hx:oev ρ o=some x):∃ y,oev ρ' o=some y∧RObj σ 0 x y:=by
 cases o with
 | alloc z =>
  simp only[oev,Al1] at hx ⊢
  subst hx;exact⟨_,rfl,.cells (AV.frees_rl z ho)⟩
 | box x =>
  have hr:=h.ev (x:=x) ho
  simp only[oev] at hx ⊢
  rw[← hr.boxable]
  split at hx
  ·rename_i hc
   rw[if_pos hc]
   simp only[Al1] at hx ⊢
   subst hx;exact⟨_,rfl,.cells hr.cells⟩
  ·cases hx
 | mkm kt =>
  simp only[oev,Al1] at hx ⊢
  subst hx;exact⟨_,rfl,.map .nil⟩
 | blsm sz n z qs =>
  simp only[AOp.okc,Al0] at ho
  simp only[oev] at hx ⊢
  split at hx
  ·rename_i hc
   rw[if_pos hc]
   cases hf:fillS ρ sz (List.replicate n z) qs with
   | none=>simp[hf] at hx
   | some r =>
    obtain⟨r',h1,h2⟩:=fillS_rel h ho.2 (F2.rep (AV.frees_rl z ho.1) n) hf
    rw[hf] at hx;rw[h1]
    simp only[yb,Al1] at hx ⊢
    subst hx;exact⟨_,rfl,.cells (F2.flat h2)⟩
  ·cases hx
 | mks sz bytes n =>
  have hr:=h.ev (x:=n) ho
  simp only[oev] at hx ⊢
  split at hx
  ·rename_i k c e
   rw[e] at hr;rw[hr.int_inv]
   simp only
   split at hx
   ·rename_i hc
    rw[if_pos hc]
    simp only[Al1] at hx ⊢
    subst hx;exact⟨_,rfl,.tip 0 sz⟩
   ·cases hx
  ·cases hx
 | mksn z bytes n =>
  simp only[AOp.okc,Al0] at ho
  have hr:=h.ev (x:=n) ho.2
  simp only[oev] at hx ⊢
  split at hx
  ·rename_i k c e
   rw[e] at hr;rw[hr.int_inv]
   simp only
   split at hx
   ·rename_i hc
    rw[if_pos hc]
    simp only[Al1] at hx ⊢
    subst hx;exact⟨_,rfl,.cells (madeA_rel (AV.frees_rl z ho.1) _)⟩
   ·cases hx
  ·cases hx
 | _=>simp[oev] at hx
theorem optr_rel (h:RE σ ρ ρ') {o:AOp} (ho:o.okc=true) {x:AObj} (hx:oev ρ o=some x) {b c:Nat} {τ:Ren} (hb:τ b=some (c,0)):RV τ (optr ρ b o) (optr ρ' c o):=by
 cases o with
 | alloc z=>exact .ptr hb
 | box x=>exact .ptr hb
 | mkm kt=>exact .mp hb
 | blsm sz n z qs=>exact .ms hb
 | mks sz bytes n=>exact .slL (.tip hb) .nil
 | mksn z bytes n =>
  simp only[AOp.okc,Al0] at ho
  have hr:=h.ev (x:=n) ho.2
  simp only[oev] at hx
  simp only[optr]
  split at hx
  ·rename_i k c2 e
   rw[e] at hr;rw[hr.int_inv]
   exact .ms hb
  ·cases hx
 | _=>simp[oev] at hx
end
inductive REnd (σ:Ren):AEnd→AEnd→Prop
 | ret {v w:AV} (h:RV σ v w):REnd σ (.ret v) (.ret w)
 | pan {v w:AV} (h:RV σ v w):REnd σ (.pan v) (.pan w)
def ECallOk (P:Program) (call:ECall):Prop:=∀ f args nx h e nx' h',call f args nx h=some (e,nx',h')→∀(σ:Ren) args' H,RL σ args args'→RS σ nx h.get H →
 ACalls P f args' H fun e' H'=>∃ σ',σ.le σ'∧REnd σ' e e'∧RS σ' nx' h'.get H'
def Meets (σ:Ren) (nx:Nat) (h:AH) (K KP:AV→Heap→Prop):AEnd→Prop
 | .ret v=>∀ σ' v' H',σ.le σ'→RV σ' v v'→RS σ' nx h.get H'→K v' H'
 | .pan v=>∀ σ' v' H',σ.le σ'→RV σ' v v'→RS σ' nx h.get H'→KP v' H'
section
variable {P:Program} {KP:AV→Heap→Prop} {call:ECall}
theorem ECallOk.use (hc:ECallOk P call) {f:FuncId} {args:List AV} {nx nx':Nat} {h h':AH} {e:AEnd} (he:call f args nx h=some (e,nx',h')) {σ:Ren} {args':List AV} {H:Heap} (ha:RL σ args args') (hs:RS σ nx h.get H)
  {K:AV→Heap→Prop} (hk:Meets σ nx' h' K KP e):ACalls P f args' H (endK K KP) :=
 (hc f args nx h e nx' h' he σ args' H ha hs).mono fun e' H' ⟨σ',h1,h2,h3⟩=>by
  cases h2 with
  | ret h2=>exact hk σ' _ H' h1 h2 h3
  | pan h2=>exact hk σ' _ H' h1 h2 h3
theorem app_rel {sz bytes:Nat} {x y x' y' v:AV} {nx nx':Nat} {h h':AH} (he:evApp sz bytes x y nx h=some (v,nx',h')) {σ:Ren} {H:Heap} (hx:RV σ x x') (hy:RV σ y y') (hs:RS σ nx h.get H)
  {K:AV→Heap→Prop} (hk:∀ σ' v' H',σ.le σ'→RV σ' v v'→RS σ' nx' h'.get H'→K v' H'):appK sz bytes x' y' H K:=by
 unfold evApp at he
 split at he
 case h_2=>cases he
 rename_i o s1 xs o2 s2 ys
 obtain⟨p,xs',rfl,hp,hxs⟩:=hx.sl_inv
 obtain⟨p2,ys',rfl,_,hys⟩:=hy.sl_inv
 split at he
 case isFalse=>cases he
 rename_i hc
 obtain⟨rfl,rfl,hc1,hc2⟩:=hc
 have hlx:=hxs.len
 have hly:=hys.len
 refine⟨rfl,rfl,by rw[← hlx,← hly];exact hc1,by rw[← hlx,← hly];exact hc2,?_⟩
 have fresh:∀(o:Own) (p:Own),RO σ o p→evNew o s2 xs nx h ys=some (v,nx',h') →
   (ys'=[]→K (.sl p s2 xs') H)∧(ys'≠[]→∀ b,H b=none→K (.sl (.tip b 0) s2 (xs'++ys'.map (·.map AV.strip1))) (H.upd b (.tip (xs'.length+ys'.length) s2))):=by
  intro o p hp he
  refine⟨fun h0=>?_,fun h0 b hb=>?_⟩
  ·have:ys=[]:=hys.isnil.2 h0
   subst this
   simp only[evNew,Al1,Al8] at he
   obtain⟨rfl,rfl,rfl⟩:=he
   exact hk σ _ H (Ren.le_refl _) (.slL hp hxs) hs
  ·have:ys≠[]:=fun e=>h0 (hys.isnil.1 e)
   cases ys with
   | nil=>exact absurd rfl this
   | cons y r =>
    simp only[evNew,Al1,Al8] at he
    obtain⟨rfl,rfl,rfl⟩:=he
    have hle:σ.le (σ.put nx b 0):=Ren.le_put (hs.dom nx (Al4 _))
    refine hk (σ.put nx b 0) _ _ hle (.slL ?_ (F2.app (F2.mono hxs fun _ _ h=>RL.mono hle h) (RLL.strip1 (F2.mono hys fun _ _ h=>RL.mono hle h)))) ?_
    ·have:=@RO.tip (σ.put nx b 0) nx 0 b 0 (by simp[Ren.put])
     simpa using this
    ·rw[AH.get_cons]
     rw[← hlx,← hly]
     have:=hs.new (x:=.tip (xs.length+(y::r).length) s2) (y:=.tip (0+(xs.length+(y::r).length)) s2) hb (.tip _ _)
     simpa using this
 cases hp with
 | no=>cases he
 | nil=>exact fresh .nil .nil .nil he
 | full=>exact fresh .full .full .full he
 | @tip b d c e hb =>
  simp only at he
  cases hg:h.get b with
  | none=>rw[hg] at he;cases he
  | some ob =>
   rw[hg] at he
   cases ob with
   | cells cs=>cases he
   | map kt es=>cases he
   | tip n s =>
    simp only at he
    split at he
    case isFalse=>cases he
    rename_i hc3
    obtain⟨rfl,rfl⟩:=hc3
    simp only[Al1,Al8] at he
    obtain⟨rfl,rfl,rfl⟩:=he
    obtain⟨c2,e2,o',h3,h4,h5⟩:=hs.obj b _ hg
    rw[hb] at h3;cases h3
    cases h5 with
    | tip n sz =>
     refine⟨by rw[h4,← hlx,Nat.add_assoc],fun b' d' hb'=>?_⟩
     have hs2:=hs.del hg hb
     have hle:σ.le (σ.put nx b' d'):=Ren.le_put (hs.dom nx (Al4 _))
     refine hk (σ.put nx b' d') _ _ hle (.slL ?_ (F2.app (F2.mono hxs fun _ _ h=>RL.mono hle h) (RLL.strip1 (F2.mono hys fun _ _ h=>RL.mono hle h)))) ?_
     ·have:=@RO.tip (σ.put nx b' d') nx 0 b' d' (by simp[Ren.put])
      simpa using this
     ·rw[AH.get_cons,AH.get_del]
      rw[← hlx,← hly]
      exact hs2.new (x:=.tip (xs.length+ys.length) _) (y:=.tip (d'+(xs.length+ys.length)) _) hb' (.tip _ _)
theorem rt_some {r:Option (AV×Nat×AH)} {e:AEnd} {nx:Nat} {h:AH} (he:rt r=some (e,nx,h)):∃ v,r=some (v,nx,h)∧e=.ret v:=by
 unfold rt at he
 split at he
 ·simp only[Al1,Al8] at he
  obtain⟨rfl,rfl,rfl⟩:=he
  exact⟨_,rfl,rfl⟩
 ·cases he
theorem op_sound (hc:ECallOk P call) {σ:Ren} {ρ ρ':Env} {nx nx':Nat} {h h':AH} {o:AOp} (ho:o.okc=true) {e:AEnd} (he:evOp P call ρ nx h o=some (e,nx',h')) {H:Heap} (hE:RE σ ρ ρ') (hs:RS σ nx h.get H)
  {K:AV→Heap→Prop} (hk:Meets σ nx' h' K KP e):aop P KP o ρ' H K:=by
 unfold evOp at he
 unfold aop
 cases hcl:o.cls with
 | pure =>
  rw[hcl] at he
  simp only at he ⊢
  cases hp:pev ρ o with
  | none=>rw[hp] at he;cases he
  | some u =>
   rw[hp] at he
   simp only[Al1,Al8] at he
   obtain⟨rfl,rfl,rfl⟩:=he
   obtain⟨v',h1,h2⟩:=pev_rel hE ho hp
   rw[h1]
   exact hk σ v' H (Ren.le_refl _) h2 hs
 | read =>
  rw[hcl] at he
  simp only at he ⊢
  cases hp:rev ρ h.get o with
  | none=>rw[hp] at he;cases he
  | some u =>
   rw[hp] at he
   simp only[Al1,Al8] at he
   obtain⟨rfl,rfl,rfl⟩:=he
   obtain⟨v',h1,h2⟩:=rev_rel hE hs ho hp
   rw[h1]
   exact hk σ v' H (Ren.le_refl _) h2 hs
 | alloc =>
  rw[hcl] at he
  simp only at he ⊢
  cases hp:oev ρ o with
  | none=>rw[hp] at he;cases he
  | some x =>
   rw[hp] at he
   simp only[Al1,Al8] at he
   obtain⟨rfl,rfl,rfl⟩:=he
   obtain⟨y,h1,h2⟩:=oev_rel hE ho hp
   rw[h1]
   intro b hb
   have hle:σ.le (σ.put nx b 0):=Ren.le_put (hs.dom nx (Al4 _))
   refine hk (σ.put nx b 0) _ _ hle (optr_rel hE ho hp (by simp[Ren.put])) ?_
   rw[AH.get_cons]
   exact hs.new hb (h2.mono hle)
 | eff =>
  rw[hcl] at he
  simp only at he ⊢
  cases o with
  | callv g args =>
   simp only[AOp.okc,Al0] at ho
   have hg:=hE.ev ho.1
   simp only[eff]
   simp only at he
   split at he
   ·rename_i f first caps e
    rw[e] at hg
    obtain⟨bs,ds,e2,h1,h2⟩:=hg.clo_inv
    rw[e2]
    simp only
    split at he
    ·rename_i hcal
     exact⟨hcal,hc.use he (F2.app (F2.app h1 (hE.evs ho.2)) h2) hs hk⟩
    ·cases he
   ·cases he
  | call f args =>
   exact hc.use he (hE.evs ho) hs hk
  | pan x =>
   have hx:=hE.ev (x:=x) ho
   simp only[eff]
   simp only at he
   split at he
   ·rename_i t y e
    rw[e] at hx
    obtain⟨z,e2,hz⟩:=hx.ifc_inv
    rw[e2]
    simp only[Al1,Al8] at he
    obtain⟨rfl,rfl,rfl⟩:=he
    exact hk σ _ H (Ren.le_refl _) (.ifc hz) hs
   ·cases he
  | st n x y =>
   simp only[AOp.okc,Al0] at ho
   have hx:=hE.ev ho.1
   have hy:=hE.ev ho.2
   obtain⟨v,he2,rfl⟩:=rt_some he
   replace he:=he2
   simp only[evEff] at he
   simp only[eff]
   split at he
   ·rename_i b off e
    rw[e] at hx
    obtain⟨c,d,e2,h2⟩:=hx.ptr_inv
    rw[e2]
    simp only
    split at he
    ·rename_i cs e3
     obtain⟨c2,d2,o',h3,h4,h5⟩:=hs.obj _ _ e3
     rw[h2] at h3;cases h3
     cases h5 with
     | @cells _ ds h5 =>
      rw[h4]
      simp only
      split at he
      ·rename_i hcond
       simp only[Al1,Al8] at he
       obtain⟨rfl,rfl,rfl⟩:=he
       rw[← hy.cells.len,← hy.boxable,← h5.len]
       refine⟨hcond.1,hcond.2.1,hcond.2.2,hk σ _ _ (Ren.le_refl _) (.tupL .nil) ?_⟩
       rw[AH.get_put]
       exact hs.upd e3 h2 (.cells (RL.splice h5 hy.cells off))
      ·cases he
    ·cases he
   ·cases he
  | mup kt m k v2 =>
   simp only[AOp.okc,Al0] at ho
   have hm:=hE.ev ho.1.1
   have hkk:=hE.ev ho.1.2
   have hvv:=hE.ev ho.2
   obtain⟨v,he2,rfl⟩:=rt_some he
   replace he:=he2
   simp only[evEff] at he
   simp only[eff]
   split at he
   ·rename_i b e
    rw[e] at hm
    obtain⟨c,d,e2,h2⟩:=hm.mp_inv
    rw[e2]
    simp only
    split at he
    ·rename_i kt' es e3
     obtain⟨c2,d2,o',h3,h4,h5⟩:=hs.obj _ _ e3
     rw[h2] at h3;cases h3
     cases h5 with
     | map h5 =>
      rw[h4]
      simp only
      split at he
      ·rename_i hcond
       obtain⟨rfl,hf⟩:=hcond
       simp only[Al1,Al8] at he
       obtain⟨rfl,rfl,rfl⟩:=he
       rw[← fits_rel hkk]
       refine⟨rfl,hf,hk σ _ _ (Ren.le_refl _) (.tupL .nil) ?_⟩
       rw[AH.get_put]
       exact hs.upd e3 h2 (.map (mset_rel h5 hkk hvv))
      ·cases he
    ·cases he
   ·cases he
  | app sz bytes x y =>
   simp only[AOp.okc,Al0] at ho
   obtain⟨v,he2,rfl⟩:=rt_some he
   replace he:=he2
   exact app_rel he (hE.ev ho.1) (hE.ev ho.2) hs hk
  | apps x y =>
   simp only[AOp.okc,Al0] at ho
   have hy:=hE.ev ho.2
   obtain⟨v,he2,rfl⟩:=rt_some he
   replace he:=he2
   simp only[evEff] at he
   simp only[eff]
   split at he
   ·rename_i s e
    rw[e] at hy
    rw[hy.str_inv]
    refine app_rel he (hE.ev ho.1) (.slL .no ?_) hs hk
    exact AV.freess_rl _ (by
     clear he e hy
     induction s with
     | nil=>rfl
     | cons c s ih=>simp only[bytesOf,List.map_cons,AV.freess,AV.frees,AV.free,Bool.and_true,Bool.true_and];exact ih)
   ·cases he
  | appm sz bytes z x y=>obtain⟨v,he2,rfl⟩:=rt_some he;simp[evEff] at he2
  | frz sz x=>obtain⟨v,he2,rfl⟩:=rt_some he;simp[evEff] at he2
  | slaf n sz x y=>obtain⟨v,he2,rfl⟩:=rt_some he;simp[evEff] at he2
  | _=>simp[AOp.cls] at hcl
end
def AItem.okc (x:AItem):Bool:=x.op.okc
def AC.okc:AC→Bool
 | .skip|.exit _|.ret=>true
 | .reg _ items=>items.all AItem.okc
 | .seq a b|.cond (.t _) a b|.join _ a b=>a.okc&&b.okc
 | .cond (.k c) a b=>c.free&&(a.okc&&b.okc)
 | .block _ b|.loop _ b|.scope b=>b.okc
 | .rfun _ _ _ _=>true
section
variable {P:Program} {KP:AV→Heap→Prop} {call:ECall}
def MeetsI (σ:Ren) (nx:Nat) (h:AH) (K:Env→Heap→Prop) (KP:AV→Heap→Prop):XI→Prop
 | .ok l=>∀ σ' ρ' H',σ.le σ'→RE σ' (envOf l) ρ'→RS σ' nx h.get H'→K ρ' H'
 | .pan v=>∀ σ' v' H',σ.le σ'→RV σ' v v'→RS σ' nx h.get H'→KP v' H'
theorem MeetsI.le {σ τ:Ren} (m:σ.le τ) {nx:Nat} {h:AH} {K:Env→Heap→Prop} {x:XI} (hk:MeetsI σ nx h K KP x):MeetsI τ nx h K KP x:=by
 cases x with
 | ok l=>exact fun σ' ρ' H' h1=>hk σ' ρ' H' (Ren.le_trans m h1)
 | pan v=>exact fun σ' v' H' h1=>hk σ' v' H' (Ren.le_trans m h1)
theorem items_ok (hc:ECallOk P call):∀ {its:List (AItem×List Chk)} {l:EL} {x:XI} {nx nx':Nat} {h h':AH},(its.all fun x=>x.1.okc&&x.2.all fun y=>y.2.2.okc)=true→evItems P call its l nx h=some (x,nx',h') →
  ∀ {σ:Ren} {ρ:Env} {H:Heap},RE σ (envOf l) ρ→RS σ nx h.get H→∀ {K:Env→Heap→Prop},MeetsI σ nx' h' K KP x→awpItems P KP its ρ H K
 | [],l,x,nx,nx',h,h',_,he,σ,ρ,H,hE,hs,K,hk=>by
  simp only[evItems,Al1,Al8] at he
  obtain⟨rfl,rfl,rfl⟩:=he
  exact hk σ ρ H (Ren.le_refl _) hE hs
 | it::r,l,x,nx,nx',h,h',ho,he,σ,ρ,H,hE,hs,K,hk=>by
  simp only[List.all_cons,Al0] at ho
  simp only[evItems] at he
  show istepR P KP it.1 it.2 ρ H _
  unfold istepR
  rw[← gv_rel hE]
  split at he
  ·rename_i eg
   rw[eg]
   simp only
   split at he
   ·rename_i v nx1 h1 eo
    split at he
    ·rename_i hre
     refine op_sound hc ho.1.1 eo hE hs fun σ' v' H' hle hv hs'=>?_
     have hE':RE σ' (envOf (EL.set l it.1.dst v)) (ρ.set it.1.dst v'):=by
      rw[EL.set_eq]
      exact RE.set (fun n=>(hE n).mono hle) hv
     exact⟨recheck_rel hE' hs' ho.1.2 hre,items_ok hc ho.2 he hE' hs' (hk.le hle)⟩
    ·cases he
   ·rename_i v nx1 h1 eo
    simp only[Al1,Al8] at he
    obtain⟨rfl,rfl,rfl⟩:=he
    exact op_sound hc ho.1.1 eo hE hs hk
   ·cases he
  ·rename_i eg
   rw[eg]
   simp only
   refine items_ok hc ho.2 he (ρ:=ρ.set it.1.dst (.tup [])) ?_ hs hk
   rw[EL.set_eq]
   exact RE.set hE (.tupL .nil)
  ·cases he
theorem annot_ok {items:List AItem} (h:items.all AItem.okc=true):((annot items).all fun x=>x.1.okc&&x.2.all fun y=>y.2.2.okc)=true:=by
 refine yx.2 fun x hx=>?_
 obtain⟨it,hit,rfl⟩:=List.mem_map.1 hx
 simp only[Al0]
 refine⟨yx.1 h it hit,yx.2 fun y hy=>?_⟩
 obtain⟨k,hk,hy⟩:=List.mem_flatMap.1 hy
 split at hy
 ·rename_i x hx
  have:=yx.1 h x (List.mem_of_getElem? hx)
  unfold entry at hy
  split at hy
  ·rw[List.mem_singleton] at hy;subst hy;exact this
  ·cases hy
 ·cases hy
def EndsAs (σ:Ren) (nx:Nat) (h:AH) (Q:AExit→Env→Heap→Prop) (KP:AV→Heap→Prop):EX→Prop
 | .n x l=>∀ σ' ρ' H',σ.le σ'→RE σ' (envOf l) ρ'→RS σ' nx h.get H'→Q x ρ' H'
 | .p v=>∀ σ' v' H',σ.le σ'→RV σ' v v'→RS σ' nx h.get H'→KP v' H'
theorem EndsAs.le {σ τ:Ren} (m:σ.le τ) {nx:Nat} {h:AH} {Q:AExit→Env→Heap→Prop} {x:EX} (hk:EndsAs σ nx h Q KP x):EndsAs τ nx h Q KP x:=by
 cases x with
 | n x l=>exact fun σ' ρ' H' h1=>hk σ' ρ' H' (Ren.le_trans m h1)
 | p v=>exact fun σ' v' H' h1=>hk σ' v' H' (Ren.le_trans m h1)
theorem EndsAs.thn {σ:Ren} {nx:Nat} {h:AH} {Q:AExit→Env→Heap→Prop} {K:Env→Heap→Prop} {x:EX} (hk:EndsAs σ nx h Q KP x) (hn:∀ l,x≠.n .normal l):EndsAs σ nx h (thenQ K Q) KP x:=by
 cases x with
 | p v=>exact hk
 | n x l =>
  cases x with
  | normal=>exact absurd rfl (hn l)
  | exit i=>exact hk
  | ret=>exact hk
theorem RE.keep {σ:Ren} {ρ ρ':Env} (h:RE σ ρ ρ') (k:List Nat):RE σ (ρ.keep k) (ρ'.keep k):=by
 intro n
 unfold Env.keep
 induction k with
 | nil=>exact .any
 | cons x k ih =>
  simp only[List.map_cons,envOf]
  split
  ·exact h x
  ·exact ih
theorem evC_sound (hc:ECallOk P call):∀(m:Nat) (c:AC) (l:EL) (nx:Nat) (h:AH) (x:EX) (nx':Nat) (h':AH),c.okc=true→evC P call m c l nx h=some (x,nx',h') →
  ∀(σ:Ren) (ρ:Env) (H:Heap),RE σ (envOf l) ρ→RS σ nx h.get H→∀ Q:AExit→Env→Heap→Prop,EndsAs σ nx' h' Q KP x→awp P KP c Q ρ H
 | 0,c,l,nx,h,x,nx',h',_,he=>by cases he
 | m+1,c,l,nx,h,x,nx',h',ho,he=>by
  intro σ ρ H hE hs Q hk
  unfold evC at he
  cases c with
  | skip =>
   simp only[Al1,Al8] at he
   obtain⟨rfl,rfl,rfl⟩:=he
   exact hk σ ρ H (Ren.le_refl _) hE hs
  | reg c items =>
   simp only at he
   split at he
   ·rename_i l1 nx1 h1 e
    simp only[Al1,Al8] at he
    obtain⟨rfl,rfl,rfl⟩:=he
    exact items_ok hc (annot_ok ho) e hE hs hk
   ·rename_i v nx1 h1 e
    simp only[Al1,Al8] at he
    obtain⟨rfl,rfl,rfl⟩:=he
    exact items_ok hc (annot_ok ho) e hE hs hk
   ·cases he
  | seq a b =>
   simp only[AC.okc,Al0] at ho
   simp only at he
   show awp P KP a (thenQ (awp P KP b Q) Q) ρ H
   split at he
   ·rename_i l1 nx1 h1 e
    refine evC_sound hc m a l nx h _ _ _ ho.1 e σ ρ H hE hs _ fun σ1 ρ1 H1 hle hE1 hs1=>?_
    exact evC_sound hc m b l1 nx1 h1 _ _ _ ho.2 he σ1 ρ1 H1 hE1 hs1 Q (hk.le hle)
   ·rename_i hne
    exact evC_sound hc m a l nx h _ _ _ ho.1 he σ ρ H hE hs _ (hk.thn fun l2 e=>by subst e;exact hne _ _ _ he)
  | join keep a b =>
   simp only[AC.okc,Al0] at ho
   simp only at he
   split at he
   ·rename_i l1 nx1 h1 e
    refine⟨fun ρ2 H2=>∃ σ1,σ.le σ1∧RE σ1 (envOf (EL.keep l1 keep)) ρ2∧RS σ1 nx1 h1.get H2,?_,fun ρ2 H2 ⟨σ1,hle,hE1,hs1⟩=>?_⟩
    ·refine evC_sound hc m a l nx h _ _ _ ho.1 e σ ρ H hE hs _ fun σ1 ρ1 H1 hle hE1 hs1=>?_
     exact⟨σ1,hle,by rw[EL.keep_eq];exact hE1.keep keep,hs1⟩
    ·exact evC_sound hc m b _ nx1 h1 _ _ _ ho.2 he σ1 ρ2 H2 hE1 hs1 Q (hk.le hle)
   ·rename_i hne
    refine⟨fun _ _=>False,?_,fun _ _ h=>h.elim⟩
    exact evC_sound hc m a l nx h _ _ _ ho.1 he σ ρ H hE hs _ (hk.thn fun l2 e=>by subst e;exact hne _ _ _ he)
  | cond c t e =>
   have hco:c.okc=true∧t.okc=true∧e.okc=true:=by
    cases c with
    | t n=>simp only[AC.okc,Al0] at ho;exact⟨rfl,ho⟩
    | k c=>simp only[AC.okc,Al0] at ho;exact ho
   have hr:=hE.ev hco.1
   show condK (c.ev ρ) (awp P KP t Q ρ H) (awp P KP e Q ρ H)
   simp only at he
   split at he
   ·rename_i ec
    rw[ec] at hr;rw[hr.bool_inv]
    exact evC_sound hc m t l nx h _ _ _ hco.2.1 he σ ρ H hE hs Q hk
   ·rename_i ec
    rw[ec] at hr;rw[hr.bool_inv]
    exact evC_sound hc m e l nx h _ _ _ hco.2.2 he σ ρ H hE hs Q hk
   ·cases he
  | block id b =>
   simp only at he
   show awp P KP b (inBlockQ id Q) ρ H
   split at he
   ·rename_i i l1 nx1 h1 e
    refine evC_sound hc m b l nx h _ _ _ ho e σ ρ H hE hs _ fun σ1 ρ1 H1 hle hE1 hs1=>?_
    unfold inBlockQ
    split at he
    ·rename_i hi
     simp only[Al1,Al8] at he
     obtain⟨rfl,rfl,rfl⟩:=he
     simp only[if_pos hi];exact hk σ1 ρ1 H1 hle hE1 hs1
    ·rename_i hi
     simp only[Al1,Al8] at he
     obtain⟨rfl,rfl,rfl⟩:=he
     simp only[if_neg hi];exact hk σ1 ρ1 H1 hle hE1 hs1
   ·rename_i hne
    refine evC_sound hc m b l nx h _ _ _ ho he σ ρ H hE hs _ ?_
    cases x with
    | p v=>exact hk
    | n x l2 =>
     cases x with
     | normal=>exact hk
     | exit i=>exact absurd he (hne _ _ _ _)
     | ret=>exact hk
  | loop keep b =>
   have hob:b.okc=true:=ho
   refine⟨fun n ρ2 H2=>∃ σ1 l1 nx1 h1,σ.le σ1∧RE σ1 (envOf (EL.keep l1 keep)) ρ2∧RS σ1 nx1 h1.get H2∧n≤m∧(match evC P call n b (EL.keep l1 keep) nx1 h1 with
     | some (.n .normal l,nx,h)=>evC P call n (.loop keep b) l nx h
     | r=>r)=some (x,nx',h'),⟨m,σ,l,nx,h,Ren.le_refl _,by rw[EL.keep_eq];exact hE.keep keep,hs,Al4 _,he⟩,?_⟩
   rintro n ρ2 H2 ⟨σ1,l1,nx1,h1,hle,hE1,hs1,hn,he1⟩
   have hlt:n<m+1:=Nat.lt_succ_of_le hn
   split at he1
   ·rename_i l2 nx2 h2 e
    refine evC_sound hc n b _ _ _ _ _ _ hob e σ1 ρ2 H2 hE1 hs1 _ fun σ2 ρ3 H3 hle2 hE2 hs2=>?_
    cases n with
    | zero=>cases he1
    | succ n =>
     exact⟨n,Nat.lt_succ_self n,σ2,l2,nx2,h2,Ren.le_trans hle hle2,by rw[EL.keep_eq];exact hE2.keep keep,hs2,Nat.le_of_succ_le hn,he1⟩
   ·rename_i hne
    exact evC_sound hc n b _ _ _ _ _ _ hob he1 σ1 ρ2 H2 hE1 hs1 _ ((hk.le hle).thn fun l2 e=>by subst e;exact hne _ _ _ he1)
  | scope b=>exact evC_sound hc m b l nx h _ _ _ ho he σ ρ H hE hs Q hk
  | exit id =>
   simp only[Al1,Al8] at he
   obtain⟨rfl,rfl,rfl⟩:=he
   exact hk σ ρ H (Ren.le_refl _) hE hs
  | ret =>
   simp only[Al1,Al8] at he
   obtain⟨rfl,rfl,rfl⟩:=he
   exact hk σ ρ H (Ren.le_refl _) hE hs
  | rfun g ps a b=>cases he
termination_by m=>m
end
theorem RepAll.strips {γ:Gh} {w:World} {cs:List AV} {vs:List Value} (h:RepAll γ w cs vs):RepAll γ w (cs.map AV.strip) vs :=
 ⟨by simp[h.1],fun i c v hc hv=>by
  rw[yg] at hc
  cases hx:cs[i]? with
  | none=>simp[hx] at hc
  | some x=>simp only[hx,yb,Al1] at hc;subst hc;exact(h.2 i x v hx hv).strip⟩
theorem ACalls.strips {P:Program} {f:FuncId} {args:List AV} {H:Heap} {Q:AEnd→Heap→Prop} (h:ACalls P f (args.map AV.strip) H Q):ACalls P f args H Q :=
 fun γ w vs ht hs hv=>h γ w vs ht hs hv.strips
theorem RL.strips {σ:Ren} {c d:List AV} (h:RL σ c d):RL σ (c.map AV.strip) (d.map AV.strip):=F2.map h fun _ _ h=>h.strip
theorem frees_same {σ:Ren} {c d:List AV} (h:RL σ c d) (hf:AV.frees c=true):d=c :=
 (F2.det (R:=RV σ) (S:=RV σ) (AV.frees_rl c hf) (fun _ _ _ h1 h2=>h1.det h2) h).symm
theorem mkArgs_rel {σ:Ren}:∀ {as bs:List AV} (k:Nat),RL σ as bs→RE σ (envOf (mkArgs k as)) (envOf (mkArgs k bs))
 | [],_,k,h=>by cases h;exact fun n=>.any
 | a::as,_,k,h=>by
  cases h with
  | cons h1 h2 =>
   intro n
   simp only[mkArgs,envOf]
   split
   ·exact h1
   ·exact mkArgs_rel (k+1) h2 n
theorem resvs_rel {σ:Ren} {ρ ρ':Env} {nx:Nat} {H H':Heap} (hE:RE σ ρ ρ') (hs:RS σ nx H H'):∀ {rs:List ARes} {vs:List AV},resvs ρ H rs=some vs→∃ ws,resvs ρ' H' rs=some ws∧RL σ vs ws
 | [],vs,h=>by simp only[resvs,Al1] at h;subst h;exact⟨[],rfl,.nil⟩
 | r::rs,vs,h=>by
  simp only[resvs] at h
  cases h1:resv ρ H r with
  | none=>simp[h1] at h
  | some v =>
   cases h2:resvs ρ H rs with
   | none=>simp[h1,h2] at h
   | some us =>
    simp only[h1,h2,Al1] at h
    subst h
    obtain⟨ws,g1,g2⟩:=resvs_rel hE hs h2
    have:∃ w,resv ρ' H' r=some w∧RV σ v w:=by
     cases r with
     | t n=>simp only[resv,Al1] at h1 ⊢;subst h1;exact⟨_,rfl,hE n⟩
     | c n sz ag=>exact rev_rel hE hs (o:=.ld sz ag (.t n)) rfl h1
    obtain⟨w,k1,k2⟩:=this
    exact⟨w::ws,by simp only[resvs,k1,g1],.cons k2 g2⟩
theorem tupOf_rel {σ:Ren} {vs ws:List AV} (h:RL σ vs ws):RV σ (tupOf vs) (tupOf ws):=by
 cases h with
 | nil=>exact .tupL .nil
 | cons h1 h2=>cases h2 with
  | nil=>exact h1
  | cons h3 h4=>exact .tupL (.cons h1 (.cons h3 h4))
theorem rs_emp (H:Heap):RS (fun _=>none) 0 (AH.get []) H:=⟨fun b o h=>by simp[AH.get] at h,fun b b' c e e' h=>by simp[AH.get] at h,fun _ _=>rfl⟩
theorem REnd.strip {σ:Ren} {e e':AEnd} (h:REnd σ e e'):REnd σ e.strip e'.strip:=by
 cases h with
 | ret h=>exact .ret h.strip
 | pan h=>exact .pan h
theorem REnd.same {σ:Ren} {e e':AEnd} (h:REnd σ e e') (hf:e.free=true):e'=e:=by
 cases h with
 | @ret v w h=>rw[h.det (v.free_rv hf)]
 | @pan v w h=>rw[h.det (v.free_rv hf)]
theorem REnd.free {σ:Ren} {e:AEnd} (hf:e.free=true):REnd σ e e:=by
 cases e with
 | ret v=>exact .ret (v.free_rv hf)
 | pan v=>exact .pan (v.free_rv hf)
theorem ACalls.stripE {P:Program} {f:FuncId} {args:List AV} {H:Heap} {Q:AEnd→Heap→Prop} (h:ACalls P f args H fun e H'=>Q e.strip H'):ACalls P f args H Q :=
 ACalls.strip (h.mono fun e H' hq=>by cases e<;>exact hq)
theorem ACalls.forget {P:Program} {f:FuncId} {args:List AV} {H:Heap} {Q:AEnd→Heap→Prop} (h:ACalls P f args H Q):ACalls P f args H fun e H'=>H'=Heap.emp∧∃ H2,Q e H2 :=
 fun γ w vs ht hs hv=>(h γ w vs ht hs hv).mono fun e w' ⟨γ',H',r,a,b,c,d,q⟩=>⟨γ',Heap.emp,r,a,fun b o hb=>by simp[Heap.emp] at hb,fun b hb=>by simp[Heap.emp] at hb,d,rfl,H',q⟩
structure ETab (P:Program) (T:FuncId→Option EFn) (O:FuncId→List AV→Option AV):Prop where
 fn:∀ f af b,T f=some (.fn af b)→chkFn P f af=true∧af.body.okc=true
 sp:∀ f s g d b,T f=some (.sp s g d b)→chkSp P f s=true∧chkDfn P g d=true∧s.pre.okc=true∧s.blk.okc=true∧s.items.all AItem.okc=true∧s.body.okc=true∧(∀ m,s.mid=some m→m.okc=true)∧d.items.all AItem.okc=true∧d.body.okc=true
 orc:∀ f as r,O f as=some r→AV.frees as=true∧r.free=true∧Pure P f as r
section
variable {P:Program} {call:ECall}
def QEnd (σ:Ren) (e:AEnd) (nx:Nat) (h:AH) (e':AEnd) (H':Heap):Prop:=∃ σ',σ.le σ'∧REnd σ' e e'∧RS σ' nx h.get H'
theorem evEnd_sound (hc:ECallOk P call) {fuel:Nat} {c:AC} {l:EL} {nx nx':Nat} {h h':AH} {res:List ARes} {e:AEnd} (ho:c.okc=true) (he:evEnd res (evC P call fuel c l nx h)=some (e,nx',h')) {σ:Ren} {ρ:Env} {H:Heap} (hE:RE σ (envOf l) ρ) (hs:RS σ nx h.get H)
  {Q:AEnd→Heap→Prop} (hq:∀ e' H',QEnd σ e nx' h' e' H'→Q e' H'):awp P (finP Q) c (finQ res Q) ρ H:=by
 unfold evEnd at he
 split at he
 ·cases he
 ·rename_i ex l1 nx1 h1 hne hev
  split at he
  ·rename_i vs hvs
   simp only[Al1,Al8] at he
   obtain⟨rfl,rfl,rfl⟩:=he
   refine evC_sound hc fuel _ _ _ _ _ _ _ ho hev σ ρ H hE hs _ fun σ' ρ' H' hle hE' hs'=>?_
   obtain⟨ws,h2,h3⟩:=resvs_rel hE' hs' hvs
   have:=hq _ H' ⟨σ',hle,.ret (tupOf_rel h3),hs'⟩
   cases ex with
   | exit i=>exact absurd rfl (hne i)
   | normal=>simp only[finQ,h2];exact⟨H',Low.refl _,this⟩
   | ret=>simp only[finQ,h2];exact⟨H',Low.refl _,this⟩
  ·cases he
 ·rename_i v nx1 h1 hev
  simp only[Al1,Al8] at he
  obtain⟨rfl,rfl,rfl⟩:=he
  refine evC_sound hc fuel _ _ _ _ _ _ _ ho hev σ ρ H hE hs _ fun σ' v' H' hle hv hs'=>?_
  exact⟨H',Low.refl _,hq _ H' ⟨σ',hle,.pan hv,hs'⟩⟩
 ·cases he
theorem evThen_sound {res:List ARes} {r:CR} {k:EL→Nat→AH→ER} {e:AEnd} {nx':Nat} {h':AH} (he:evThen res r k=some (e,nx',h')) {σ:Ren} {Q:AEnd→Heap→Prop} (hq:∀ e' H',QEnd σ e nx' h' e' H'→Q e' H')
  {K:Env→Heap→Prop} {W:(AExit→Env→Heap→Prop)→Prop} (hW:∀ x nx1 h1,r=some (x,nx1,h1)→∀ Q2,EndsAs σ nx1 h1 Q2 (finP Q) x→W Q2)
  (hk:∀ l nx1 h1,k l nx1 h1=some (e,nx',h')→∀ σ' ρ' H',σ.le σ'→RE σ' (envOf l) ρ'→RS σ' nx1 h1.get H'→K ρ' H'):W (retOnly (finQ res Q .ret) K):=by
 unfold evThen at he
 split at he
 ·rename_i l nx1 h1
  exact hW _ _ _ rfl _ fun σ' ρ' H' hle hE' hs'=>hk l nx1 h1 he σ' ρ' H' hle hE' hs'
 ·rename_i r2 hne
  unfold evEnd at he
  split at he
  ·cases he
  ·rename_i ex l1 nx1 h1 hnx
   split at he
   ·rename_i vs hvs
    simp only[Al1,Al8] at he
    obtain⟨rfl,rfl,rfl⟩:=he
    refine hW _ _ _ rfl _ fun σ' ρ' H' hle hE' hs'=>?_
    obtain⟨ws,h2,h3⟩:=resvs_rel hE' hs' hvs
    cases ex with
    | exit i=>exact absurd rfl (hnx i)
    | normal=>exact absurd rfl (hne _ _ _)
    | ret =>
     simp only[retOnly,finQ,h2]
     exact⟨H',Low.refl _,hq _ H' ⟨σ',hle,.ret (tupOf_rel h3),hs'⟩⟩
   ·cases he
  ·rename_i v nx1 h1
   simp only[Al1,Al8] at he
   obtain⟨rfl,rfl,rfl⟩:=he
   exact hW _ _ _ rfl _ fun σ' v' H' hle hv hs'=>⟨H',Low.refl _,hq _ H' ⟨σ',hle,.pan hv,hs'⟩⟩
  ·cases he
theorem evDef_sound (hc:ECallOk P call) {fuel:Nat} {s:ASp} {df:FuncId} {d:ADfn} (hd:chkDfn P df d=true) (ho1:d.items.all AItem.okc=true) (ho2:d.body.okc=true) {caps:List AV} {rv:Option AV} {l1:EL} {nx nx':Nat} {h h':AH} {e:AEnd}
  (he:evDef P call fuel s d caps rv l1 nx h=some (e,nx',h')) {σ:Ren} {ρ1:Env} {H:Heap} {caps':List AV} {rv':Option AV} (hE:RE σ (envOf l1) ρ1) (hcp:RL σ caps caps') (hrv:RV σ (rv.getD (.oth .nilIface)) (rv'.getD (.oth .nilIface))) (hs:RS σ nx h.get H)
  {Q:AEnd→Heap→Prop} (hq:∀ e' H',QEnd σ e nx' h' e' H'→Q e' H'):ACallsD P df caps' rv' H (finS s Q ρ1):=by
 unfold evDef at he
 split at he
 ·cases he
 rename_i hnp
 split at he
 case h_2=>cases he
 rename_i l2 nx2 h2 ei
 split at he
 ·cases he
 ·rename_i ex l3 nx3 h3 hne hev
  split at he
  ·rename_i vs hvs
   simp only[Al1,Al8] at he
   obtain⟨rfl,rfl,rfl⟩:=he
   refine ACallsD.of_fn d hd (by rw[← hcp.len];omega) ?_
   have hE0:RE σ (envOf (EL.set (mkArgs 0 caps) (some d.d) (rv.getD (.oth .nilIface)))) ((envOf (mkArgs 0 caps')).set (some d.d) (rv'.getD (.oth .nilIface))):=by
    rw[EL.set_eq];exact RE.set (mkArgs_rel 0 hcp) hrv
   refine items_ok hc (annot_ok ho1) ei hE0 hs fun σ2 ρ2 H2 hle2 hE2 hs2=>?_
   refine evC_sound hc fuel _ _ _ _ _ _ _ ho2 hev σ2 ρ2 H2 hE2 hs2 _ fun σ3 ρ3 H3 hle3 hE3 hs3=>?_
   have hle:σ.le σ3:=Ren.le_trans hle2 hle3
   obtain⟨ws,g2,g3⟩:=resvs_rel (RE.keep (fun n=>(hE n).mono hle) (List.range s.lo)) hs3 hvs
   have fin:finS s Q ρ1 H3:=⟨ws,g2,H3,Low.refl _,hq _ H3 ⟨σ3,hle,.ret (tupOf_rel g3),hs3⟩⟩
   cases ex with
   | exit i=>exact absurd rfl (hne i)
   | normal=>exact fin
   | ret=>exact fin
  ·cases he
 ·cases he
theorem evSp_sound (hc:ECallOk P call) {fuel:Nat} {f df:FuncId} {s:ASp} {d:ADfn} (hck:chkSp P f s=true) (hd:chkDfn P df d=true) (o1:s.pre.okc=true) (o2:s.blk.okc=true) (o3:s.items.all AItem.okc=true) (o4:s.body.okc=true) (o5:∀ m,s.mid=some m→m.okc=true) (o6:d.items.all AItem.okc=true) (o7:d.body.okc=true)
  {args args':List AV} {nx nx':Nat} {h h':AH} {e:AEnd} (hnp:args.length≤s.np) (he:evSp P call fuel s df d args nx h=some (e,nx',h')) {σ:Ren} {H:Heap} (ha:RL σ args args') (hs:RS σ nx h.get H)
  {Q:AEnd→Heap→Prop} (hq:∀ e' H',QEnd σ e nx' h' e' H'→Q e' H'):ACalls P f args' H Q:=by
 refine ACalls.of_sp s hck (by rw[← ha.len];exact hnp) ?_
 have ql:∀ {τ:Ren},σ.le τ→∀ e' H',QEnd τ e nx' h' e' H'→Q e' H':=fun m e' H' ⟨τ2,g1,g2,g3⟩=>hq e' H' ⟨τ2,Ren.le_trans m g1,g2,g3⟩
 unfold evSp at he
 refine evThen_sound (W:=fun Q2=>awp P (finP Q) s.pre Q2 (envOf (mkArgs 0 args')) H) he hq (fun x nx1 h1 e1 Q2 hk=>evC_sound hc fuel _ _ _ _ _ _ _ o1 e1 σ _ H (mkArgs_rel 0 ha) hs Q2 hk) fun l1 nx1 h1 he1 σ1 ρ1 H1 m1 E1 S1=>?_
 have blk:∀(l:EL) (nx2:Nat) (h2:AH),(evThen s.res (evC P call fuel s.blk l nx2 h2) fun l nx h =>
   match evItems P call (annot s.items) l nx h with
   | some (.ok l1,nx,h)=>match envOf l1 s.g with
    | .clo f [] caps=>if f=df∧Program.callable P f=true then match evC P call fuel s.body l1 nx h with
     | some (.n (.exit _) _,_,_)=>none
     | some (.n _ _,nx,h)=>evDef P call fuel s d caps none l1 nx h
     | some (.p v,nx,h)=>evDef P call fuel s d caps (some v) l1 nx h
     | none=>none
     else none
    | _=>none
   | some (.pan v,nx,h)=>some (.pan v,nx,h)
   | none=>none)=some (e,nx',h')→∀(σ2:Ren) ρ2 H2,σ.le σ2→RE σ2 (envOf l) ρ2→RS σ2 nx2 h2.get H2→awpB P Q s ρ2 H2:=by
  intro l nx2 h2 he2 σ2 ρ2 H2 m2 E2 S2
  refine evThen_sound (W:=fun Q2=>awp P (finP Q) s.blk Q2 ρ2 H2) he2 (ql m2) (fun x nx3 h3 e3 Q2 hk=>evC_sound hc fuel _ _ _ _ _ _ _ o2 e3 σ2 ρ2 H2 E2 S2 Q2 hk) fun l3 nx3 h3 he3 σ3 ρ3 H3 m3 E3 S3=>?_
  split at he3
  ·rename_i l4 nx4 h4 e4
   refine items_ok hc (annot_ok o3) e4 E3 S3 fun σ4 ρ4 H4 m4 E4 S4=>?_
   split at he3
   case h_2=>cases he3
   rename_i g caps eg
   split at he3
   case isFalse=>cases he3
   rename_i hg
   obtain⟨rfl,hcal⟩:=hg
   have hgv:=E4 s.g
   rw[eg] at hgv
   obtain⟨bs,cs,eg2,hb,hcs⟩:=hgv.clo_inv
   cases hb
   refine⟨g,cs,eg2,hcal,?_⟩
   have m:σ.le σ4:=Ren.le_trans m2 (Ren.le_trans m3 m4)
   split at he3
   ·cases he3
   ·rename_i ex l5 nx5 h5 hne e5
    refine evC_sound hc fuel _ _ _ _ _ _ _ o4 e5 σ4 ρ4 H4 E4 S4 _ fun σ5 ρ5 H5 m5 E5 S5=>?_
    have fin:=evDef_sound hc hd o6 o7 he3 (fun n=>(E4 n).mono m5) (RL.mono m5 hcs) (rv':=none) (.oth _) S5 (ql (Ren.le_trans m m5))
    cases ex with
    | exit i=>exact absurd rfl (hne i)
    | normal=>exact⟨H5,Low.refl _,fin⟩
    | ret=>exact⟨H5,Low.refl _,fin⟩
   ·rename_i v nx5 h5 e5
    refine evC_sound hc fuel _ _ _ _ _ _ _ o4 e5 σ4 ρ4 H4 E4 S4 _ fun σ5 v' H5 m5 hv S5=>?_
    exact⟨H5,Low.refl _,evDef_sound hc hd o6 o7 he3 (fun n=>(E4 n).mono m5) (RL.mono m5 hcs) (rv':=some v') hv S5 (ql (Ren.le_trans m m5))⟩
   ·cases he3
  ·rename_i v nx4 h4 e4
   simp only[Al1,Al8] at he3
   obtain⟨rfl,rfl,rfl⟩:=he3
   refine items_ok hc (annot_ok o3) e4 E3 S3 fun σ4 v' H4 m4 hv S4=>?_
   exact⟨H4,Low.refl _,hq _ H4 ⟨σ4,Ren.le_trans m2 (Ren.le_trans m3 m4),.pan hv,S4⟩⟩
  ·cases he3
 cases hm:s.mid with
 | none =>
  rw[hm] at he1
  exact blk l1 nx1 h1 he1 σ1 ρ1 H1 m1 E1 S1
 | some mc =>
  rw[hm] at he1
  refine evThen_sound (W:=fun Q2=>awp P (finP Q) mc Q2 ρ1 H1) he1 (ql m1) (fun x nx3 h3 e3 Q2 hk=>evC_sound hc fuel _ _ _ _ _ _ _ (o5 mc hm) e3 σ1 ρ1 H1 E1 S1 Q2 hk) fun l3 nx3 h3 he3 σ3 ρ3 H3 m3 E3 S3=>?_
  exact blk l3 nx3 h3 he3 σ3 ρ3 H3 (Ren.le_trans m1 m3) E3 S3
theorem pure_at {f:FuncId} {args args':List AV} {e:AEnd} {σ:Ren} {nx:Nat} {h:AH} {H:Heap} (hp:ACalls P f (args.map AV.strip) Heap.emp fun e' H'=>e'=e∧H'=Heap.emp) (hr:e.free=true) (hf:AV.frees (args.map AV.strip)=true) (ha:RL σ args args') (hs:RS σ nx h.get H) :
  ACalls P f args' H fun e' H'=>QEnd σ e nx h e' H':=by
 refine ACalls.strips ?_
 rw[frees_same (RL.strips ha) hf]
 have:=hp.frame (disj_emp H)
 rw[union_emp] at this
 refine this.mono fun e' H' ⟨A',⟨h1,h2⟩,_,h3⟩=>?_
 subst h1;subst h2;subst h3
 rw[union_emp]
 exact⟨σ,Ren.le_refl _,REnd.free hr,hs⟩
theorem evPure_some {nx nx':Nat} {h h':AH} {r:ER} {e:AEnd} (he:evPure nx h r=some (e,nx',h')):∃ e0 n0 g0,r=some (e0,n0,g0)∧e=e0.strip∧e.free=true∧nx'=nx∧h'=h:=by
 unfold evPure at he
 split at he
 ·rename_i e0 n0 g0
  split at he
  ·rename_i hf
   simp only[Al1,Al8] at he
   obtain⟨rfl,rfl,rfl⟩:=he
   exact⟨e0,n0,g0,rfl,rfl,hf,rfl,rfl⟩
  ·cases he
 ·cases he
theorem emp_end {f:FuncId} {as:List AV} {e:AEnd} {n0:Nat} {g0:AH} (hf:e.strip.free=true) (h:ACalls P f as Heap.emp fun e' H'=>QEnd (fun _=>none) e n0 g0 e' H'):ACalls P f as Heap.emp fun e' H'=>e'=e.strip∧H'=Heap.emp :=
 ACalls.stripE (h.forget.mono fun e' H' ⟨hH,H2,σ',h1,h2,h3⟩=>⟨h2.strip.same hf,hH⟩)
theorem evF_sound {T:FuncId→Option EFn} {O:FuncId→List AV→Option AV} (hT:ETab P T O) (fuel:Nat):∀ n,ECallOk P (evF P T O fuel n):=by
 intro n
 induction n with
 | zero=>intro f args nx h v nx' h' he;cases he
 | succ n ih =>
  intro f args nx h e nx' h' he σ args' H ha hs
  simp only[evF] at he
  split at he
  ·rename_i r ho
   simp only[Al1,Al8] at he
   obtain⟨rfl,rfl,rfl⟩:=he
   obtain⟨h1,h2,h3⟩:=hT.orc _ _ _ ho
   exact pure_at h3 h2 h1 ha hs
  ·split at he
   ·cases he
   ·rename_i x hx
    unfold evFn at he
    split at he
    ·rename_i af
     obtain⟨hck,hok⟩:=hT.fn f af true hx
     split at he
     ·cases he
     rename_i hnp
     refine ACalls.of_fn af hck (by rw[← ha.len];omega) ?_
     exact evEnd_sound ih hok he (mkArgs_rel 0 ha) hs fun e' H' hq=>hq
    ·rename_i af
     obtain⟨hck,hok⟩:=hT.fn f af false hx
     split at he
     ·cases he
     rename_i hnp
     split at he
     case isFalse =>
      refine ACalls.of_fn af hck (by rw[← ha.len];omega) ?_
      exact evEnd_sound ih hok he (mkArgs_rel 0 ha) hs fun e' H' hq=>hq
     rename_i hfr
     obtain⟨e0,n0,g0,hev,rfl,hfe,rfl,rfl⟩:=evPure_some he
     refine pure_at (emp_end (n0:=n0) (g0:=g0) hfe ?_) hfe hfr ha hs
     refine ACalls.of_fn af hck (by rw[List.length_map];omega) ?_
     exact evEnd_sound ih hok hev (mkArgs_rel 0 (AV.frees_rl _ hfr)) (rs_emp _) fun e' H' hq=>hq
    ·rename_i s df d
     obtain⟨c1,c2,o1,o2,o3,o4,o5,o6,o7⟩:=hT.sp f s df d true hx
     split at he
     ·cases he
     rename_i hnp
     exact evSp_sound ih c1 c2 o1 o2 o3 o4 o5 o6 o7 (by omega) he ha hs fun e' H' hq=>hq
    ·rename_i s df d
     obtain⟨c1,c2,o1,o2,o3,o4,o5,o6,o7⟩:=hT.sp f s df d false hx
     split at he
     ·cases he
     rename_i hnp
     split at he
     case isFalse=>exact evSp_sound ih c1 c2 o1 o2 o3 o4 o5 o6 o7 (by omega) he ha hs fun e' H' hq=>hq
     rename_i hfr
     obtain⟨e0,n0,g0,hev,rfl,hfe,rfl,rfl⟩:=evPure_some he
     refine pure_at (emp_end (n0:=n0) (g0:=g0) hfe ?_) hfe hfr ha hs
     exact evSp_sound ih c1 c2 o1 o2 o3 o4 o5 o6 o7 (by rw[List.length_map];omega) hev (AV.frees_rl _ hfr) (rs_emp _) fun e' H' hq=>hq
theorem Pure.of_ev {T:FuncId→Option EFn} {O:FuncId→List AV→Option AV} (hT:ETab P T O) (fuel n:Nat) {f:FuncId} {args:List AV} {r:AV} (hf:AV.frees args=true) (hr:r.free=true)
  (he:(match evF P T O fuel n f args 0 [] with|some (.ret v,_,_)=>avEq v.strip r|_=>false)=true):Pure P f args r:=by
 split at he
 ·rename_i v nx' h' e
  have e2:=avEq_eq _ _ he
  have:=emp_end (e:=.ret v) (by show v.strip.free=true;rw[e2];exact hr) (evF_sound hT fuel n f args 0 [] _ nx' h' e (fun _=>none) args Heap.emp (AV.frees_rl _ hf) (rs_emp _))
  exact this.mono fun e' H' ⟨h1,h2⟩=>⟨by rw[h1];show AEnd.ret v.strip=_;rw[e2],h2⟩
 ·cases he
end
noncomputable def ob {α β:Type} (o:Option α) (f:α→Option β):Option β:=Option.rec none f o
noncomputable def bc {α:Type} (t:Bool) (a b:α):α:=Bool.rec b a t
noncomputable def getQ (l:EL) (n:Nat):AV:=List.rec (motive:=fun _=>AV) .any (fun p _ ih=>Bool.rec ih p.2 (Nat.beq n p.1)) l
theorem getQ_eq (n:Nat):∀ l:EL,getQ l n=envOf l n
 | []=>rfl
 | (d,c)::r=>by
  show Bool.rec (getQ r n) c (Nat.beq n d)=if n=d then c else envOf r n
  cases hb:Nat.beq n d with
  | true=>rw[if_pos (Nat.eq_of_beq_eq_true hb)]
  | false=>rw[if_neg (Nat.ne_of_beq_eq_false hb),getQ_eq n r]
noncomputable def evQ (x:Opd) (l:EL):AV:=Opd.rec (motive:=fun _=>EL→AV) (fun n l=>getQ l n) (fun c _=>c) x l
theorem evQ_eq (x:Opd) (l:EL):evQ x l=x.ev (envOf l):=by
 cases x with
 | t n=>exact getQ_eq n l
 | k c=>rfl
noncomputable def AV.boolQ (v:AV):Option Bool:=AV.rec (motive_1:=fun _=>Option Bool) (motive_2:=fun _=>Unit) (motive_3:=fun _=>Unit) (any:=none) (bool:=fun b=>some b) (ubool:=fun _=>none) (int:=fun _ _=>none) (str:=fun _=>none) (agg:=fun _ _=>none) (tup:=fun _ _=>none) (sl:=fun _ _ _ _=>none) (slx:=fun _ _ _ _ _=>none) (nilp:=none) (ptr:=fun _ _=>none) (view:=fun _ _=>none) (ms:=fun _ _ _ _=>none) (nilm:=none) (mp:=fun _=>none) (clo:=fun _ _ _ _ _=>none) (oth:=fun _=>none) (ifc:=fun _ _ _=>none) () (fun _ _ _ _=>()) () (fun _ _ _ _=>()) v
noncomputable def AV.intQ (v:AV):Option (IntKind×Int):=AV.rec (motive_1:=fun _=>Option (IntKind×Int)) (motive_2:=fun _=>Unit) (motive_3:=fun _=>Unit) (any:=none) (bool:=fun _=>none) (ubool:=fun _=>none) (int:=fun k n=>some (k,n)) (str:=fun _=>none) (agg:=fun _ _=>none) (tup:=fun _ _=>none) (sl:=fun _ _ _ _=>none) (slx:=fun _ _ _ _ _=>none) (nilp:=none) (ptr:=fun _ _=>none) (view:=fun _ _=>none) (ms:=fun _ _ _ _=>none) (nilm:=none) (mp:=fun _=>none) (clo:=fun _ _ _ _ _=>none) (oth:=fun _=>none) (ifc:=fun _ _ _=>none) () (fun _ _ _ _=>()) () (fun _ _ _ _=>()) v
noncomputable def AV.tupQ (v:AV):Option (List AV):=AV.rec (motive_1:=fun _=>Option (List AV)) (motive_2:=fun _=>Unit) (motive_3:=fun _=>Unit) (any:=none) (bool:=fun _=>none) (ubool:=fun _=>none) (int:=fun _ _=>none) (str:=fun _=>none) (agg:=fun _ _=>none) (tup:=fun vs _=>some vs) (sl:=fun _ _ _ _=>none) (slx:=fun _ _ _ _ _=>none) (nilp:=none) (ptr:=fun _ _=>none) (view:=fun _ _=>none) (ms:=fun _ _ _ _=>none) (nilm:=none) (mp:=fun _=>none) (clo:=fun _ _ _ _ _=>none) (oth:=fun _=>none) (ifc:=fun _ _ _=>none) () (fun _ _ _ _=>()) () (fun _ _ _ _=>()) v
noncomputable def AV.lenQ (v:AV):Option Int:=AV.rec (motive_1:=fun _=>Option Int) (motive_2:=fun _=>Unit) (motive_3:=fun _=>Unit) (any:=none) (bool:=fun _=>none) (ubool:=fun _=>none) (int:=fun _ _=>none) (str:=fun _=>none) (agg:=fun _ _=>none) (tup:=fun _ _=>none) (sl:=fun _ _ xs _=>some (xs.length:Int)) (slx:=fun _ xs _ _ _=>some (xs.length:Int)) (nilp:=none) (ptr:=fun _ _=>none) (view:=fun _ _=>none) (ms:=fun _ _ n _=>some (n:Int)) (nilm:=none) (mp:=fun _=>none) (clo:=fun _ _ _ _ _=>none) (oth:=fun _=>none) (ifc:=fun _ _ _=>none) () (fun _ _ _ _=>()) () (fun _ _ _ _=>()) v
noncomputable def faQ (o:Nat) (v:AV):Option AV:=AV.rec (motive_1:=fun _=>Option AV) (motive_2:=fun _=>Unit) (motive_3:=fun _=>Unit) (any:=none) (bool:=fun _=>none) (ubool:=fun _=>none) (int:=fun _ _=>none) (str:=fun _=>none) (agg:=fun _ _=>none) (tup:=fun _ _=>none) (sl:=fun _ _ _ _=>none) (slx:=fun _ _ _ _ _=>none) (nilp:=none) (ptr:=fun b k=>some (.ptr b (k+o))) (view:=fun cs _=>some (.view (cs.drop o))) (ms:=fun _ _ _ _=>none) (nilm:=none) (mp:=fun _=>none) (clo:=fun _ _ _ _ _=>none) (oth:=fun _=>none) (ifc:=fun _ _ _=>none) () (fun _ _ _ _=>()) () (fun _ _ _ _=>()) v
noncomputable def ldQ (n:Nat) (ag:Bool) (h:AH) (v:AV):Option AV:=AV.rec (motive_1:=fun _=>Option AV) (motive_2:=fun _=>Unit) (motive_3:=fun _=>Unit) (any:=none) (bool:=fun _=>none) (ubool:=fun _=>none) (int:=fun _ _=>none) (str:=fun _=>none) (agg:=fun _ _=>none) (tup:=fun _ _=>none) (sl:=fun _ _ _ _=>none) (slx:=fun _ _ _ _ _=>none) (nilp:=none) (ptr:=fun b off=>match h.get b with
  | some (.cells cs)=>if off+n≤cs.length then some (mk ag ((cs.drop off).take n)) else none
  | _=>none) (view:=fun cs _=>if n≤cs.length then some (mk ag (cs.take n)) else none) (ms:=fun _ _ _ _=>none) (nilm:=none) (mp:=fun _=>none) (clo:=fun _ _ _ _ _=>none) (oth:=fun _=>none) (ifc:=fun _ _ _=>none) () (fun _ _ _ _=>()) () (fun _ _ _ _=>()) v
noncomputable def kEq (a b:IntKind):Bool:=Nat.beq a.ctorIdx b.ctorIdx
theorem kEq_eq (a b c d:IntKind):and (kEq a b) (kEq c d)=decide (a=b∧c=d):=by
 cases a<;>cases b<;>cases c<;>cases d<;>rfl
noncomputable def wrapQ (k:IntKind) (n:Int):Int:=match n with
 | .ofNat m=>Bool.rec (k.wrap n) n (Nat.ble m 127)
 | n=>k.wrap n
theorem wrapQ_eq (k:IntKind) (n:Int):wrapQ k n=k.wrap n:=by
 unfold wrapQ
 split
 ·rename_i m
  cases hb:Nat.ble m 127 with
  | false=>rfl
  | true =>
   have hm:m≤127:=Nat.le_of_ble_eq_true hb
   show ((m:Nat):Int)=k.wrap (m:Int)
   unfold IntKind.wrap
   have h0:(0:Int)≤(m:Int):=by omega
   have e:∀ b:Nat,8≤b→(m:Int) % 2 ^ b=m:=fun b hb=>by
    refine Int.emod_eq_of_lt h0 ?_
    have:(2:Int) ^ 8≤2 ^ b:=by exact_mod_cast Nat.pow_le_pow_right (by decide) hb
    omega
   have e2:∀ b:Nat,8≤b→¬ ((m:Int)≥2 ^ (b-1)):=fun b hb=>by
    have:(2:Int) ^ 7≤2 ^ (b-1):=by exact_mod_cast Nat.pow_le_pow_right (by decide) (by omega)
    omega
   have hk:8≤k.bits:=by cases k<;>decide
   simp only[e _ hk,e2 _ hk,decide_false,Bool.and_false,Al7,if_false]
 ·rfl
def ltQ (a b:Int):Bool:=match a,b with
 | .ofNat m,.ofNat n=>Nat.ble (m+1) n
 | a,b=>decide (a<b)
theorem ltQ_eq (a b:Int):ltQ a b=decide (a<b):=by
 unfold ltQ
 split
 ·rename_i m n
  rw[Bool.eq_iff_iff,Nat.ble_eq,zp]
  show m+1≤n↔((m:Nat):Int)<(n:Int)
  omega
 ·rfl
def eqQ (a b:Int):Bool:=match a,b with
 | .ofNat m,.ofNat n=>Nat.beq m n
 | a,b=>a==b
theorem eqQ_eq (a b:Int):eqQ a b=(a==b):=by
 unfold eqQ
 split
 ·rename_i m n
  rw[Bool.eq_iff_iff,Nat.beq_eq,beq_iff_eq]
  show m=n↔((m:Nat):Int)=(n:Int)
  omega
 ·rfl
noncomputable def ibinQ (op:BinOp) (k:IntKind) (a b:Int):Option AV :=
 BinOp.casesOn (motive:=fun _=>IntKind→Int→Int→Option AV) op
 (fun k a b=>some (.int k (wrapQ k (a+b)))) (fun k a b=>some (.int k (wrapQ k (a-b)))) (fun k a b=>ibin .mul k a b) (fun k a b=>ibin .quo k a b) (fun k a b=>ibin .rem k a b) (fun k a b=>ibin .and k a b) (fun k a b=>ibin .or k a b) (fun k a b=>ibin .xor k a b) (fun k a b=>ibin .shl k a b) (fun k a b=>ibin .shr k a b) (fun k a b=>ibin .andNot k a b) (fun _ a b=>some (.bool (eqQ a b))) (fun _ a b=>some (.bool (not (eqQ a b)))) (fun _ a b=>some (.bool (ltQ a b))) (fun k a b=>ibin .leq k a b) (fun _ a b=>some (.bool (ltQ b a))) (fun k a b=>ibin .geq k a b) k a b
theorem ibinQ_eq (op:BinOp) (k:IntKind) (a b:Int):ibinQ op k a b=ibin op k a b:=by
 cases op<;>first|rfl|(simp only[ibinQ,ibin,wrapQ_eq,ltQ_eq,eqQ_eq];done)|(simp only[ibinQ,ibin,eqQ_eq];rfl)
noncomputable def evOpQ (o:AOp):Program→ECall→EL→Nat→AH→ER :=
 AOp.rec (motive:=fun _=>Program→ECall→EL→Nat→AH→ER)
 (mv:=fun x _ _ l nx h=>some (.ret (evQ x l),nx,h))
 (pick:=fun c a b _ _ l nx h=>ob (AV.boolQ (evQ c l)) fun t=>some (.ret (bc t (evQ a l) (evQ b l)),nx,h))
 (nilchk:=fun x P call l nx h=>evOp P call (envOf l) nx h (.nilchk x))
 (bi:=fun op k x y _ _ l nx h=>ob (AV.intQ (evQ x l)) fun a=>ob (AV.intQ (evQ y l)) fun b=>bc (and (kEq a.1 k) (kEq b.1 k)) (ob (ibinQ op k a.2 b.2) fun v=>some (.ret v,nx,h)) none)
 (shf:=fun op x y P call l nx h=>evOp P call (envOf l) nx h (.shf op x y))
 (bs:=fun op x y P call l nx h=>evOp P call (envOf l) nx h (.bs op x y))
 (bb:=fun g x y P call l nx h=>evOp P call (envOf l) nx h (.bb g x y))
 (eqa:=fun g ks x y P call l nx h=>evOp P call (envOf l) nx h (.eqa g ks x y))
 (isnil:=fun nk x P call l nx h=>evOp P call (envOf l) nx h (.isnil nk x))
 (isnn:=fun nk x P call l nx h=>evOp P call (envOf l) nx h (.isnn nk x))
 (not:=fun x _ _ l nx h=>ob (AV.boolQ (evQ x l)) fun t=>some (.ret (.bool (not t)),nx,h))
 (ineg:=fun x P call l nx h=>evOp P call (envOf l) nx h (.ineg x))
 (cvi:=fun k x P call l nx h=>evOp P call (envOf l) nx h (.cvi k x))
 (cvid:=fun x P call l nx h=>evOp P call (envOf l) nx h (.cvid x))
 (cvb2s:=fun x P call l nx h=>evOp P call (envOf l) nx h (.cvb2s x))
 (bld:=fun z qs P call l nx h=>evOp P call (envOf l) nx h (.bld z qs))
 (bls:=fun s n z qs P call l nx h=>evOp P call (envOf l) nx h (.bls s n z qs))
 (mkfn:=fun f a b P call l nx h=>evOp P call (envOf l) nx h (.mkfn f a b))
 (ext:=fun x i _ _ l nx h=>ob (AV.tupQ (evQ x l)) fun vs=>ob (vs[i]?) fun v=>some (.ret v,nx,h))
 (mki:=fun t x P call l nx h=>evOp P call (envOf l) nx h (.mki t x))
 (fa:=fun o x _ _ l nx h=>ob (faQ o (evQ x l)) fun v=>some (.ret v,nx,h))
 (fld:=fun o n g x P call l nx h=>evOp P call (envOf l) nx h (.fld o n g x))
 (ia:=fun s x i P call l nx h=>evOp P call (envOf l) nx h (.ia s x i))
 (ixs:=fun x i P call l nx h=>evOp P call (envOf l) nx h (.ixs x i))
 (sls:=fun x a b P call l nx h=>evOp P call (envOf l) nx h (.sls x a b))
 (sll:=fun s x a b c P call l nx h=>evOp P call (envOf l) nx h (.sll s x a b c))
 (sllx:=fun s x a P call l nx h=>evOp P call (envOf l) nx h (.sllx s x a))
 (len:=fun x _ _ l nx h=>ob (AV.lenQ (evQ x l)) fun n=>some (.ret (.int .i64 n),nx,h))
 (lens:=fun x P call l nx h=>evOp P call (envOf l) nx h (.lens x))
 (mm:=fun g x ys P call l nx h=>evOp P call (envOf l) nx h (.mm g x ys))
 (boxv:=fun x P call l nx h=>evOp P call (envOf l) nx h (.boxv x))
 (ifnil:=fun g x P call l nx h=>evOp P call (envOf l) nx h (.ifnil g x))
 (tas:=fun t z x P call l nx h=>evOp P call (envOf l) nx h (.tas t z x))
 (ld:=fun n g x _ _ l nx h=>ob (ldQ n g h (evQ x l)) fun v=>some (.ret v,nx,h))
 (lkp:=fun kt z g m k P call l nx h=>evOp P call (envOf l) nx h (.lkp kt z g m k))
 (lenm:=fun x P call l nx h=>evOp P call (envOf l) nx h (.lenm x))
 (alloc:=fun z P call l nx h=>evOp P call (envOf l) nx h (.alloc z))
 (box:=fun x P call l nx h=>evOp P call (envOf l) nx h (.box x))
 (mkm:=fun kt P call l nx h=>evOp P call (envOf l) nx h (.mkm kt))
 (st:=fun n x y P call l nx h=>evOp P call (envOf l) nx h (.st n x y))
 (mup:=fun kt m k v P call l nx h=>evOp P call (envOf l) nx h (.mup kt m k v))
 (app:=fun s n x y P call l nx h=>evOp P call (envOf l) nx h (.app s n x y))
 (apps:=fun x y P call l nx h=>evOp P call (envOf l) nx h (.apps x y))
 (mks:=fun s n x P call l nx h=>evOp P call (envOf l) nx h (.mks s n x))
 (mksn:=fun z n x P call l nx h=>evOp P call (envOf l) nx h (.mksn z n x))
 (blsm:=fun s n z qs P call l nx h=>evOp P call (envOf l) nx h (.blsm s n z qs))
 (appm:=fun s n z x y P call l nx h=>evOp P call (envOf l) nx h (.appm s n z x y))
 (frz:=fun s x P call l nx h=>evOp P call (envOf l) nx h (.frz s x))
 (slar:=fun n x a P call l nx h=>evOp P call (envOf l) nx h (.slar n x a))
 (slaf:=fun n s x a P call l nx h=>evOp P call (envOf l) nx h (.slaf n s x a))
 (call:=fun f xs P call l nx h=>evOp P call (envOf l) nx h (.call f xs))
 (callv:=fun g xs P call l nx h=>evOp P call (envOf l) nx h (.callv g xs))
 (pan:=fun x P call l nx h=>evOp P call (envOf l) nx h (.pan x))
 o
theorem evOpQ_eq (o:AOp) (P:Program) (call:ECall) (l:EL) (nx:Nat) (h:AH):evOpQ o P call l nx h=evOp P call (envOf l) nx h o:=by
 cases o with
 | mv x=>show some (AEnd.ret (evQ x l),nx,h)=_;rw[evQ_eq];rfl
 | pick c a b =>
  show ob (AV.boolQ (evQ c l)) (fun t=>some (AEnd.ret (bc t (evQ a l) (evQ b l)),nx,h))=_
  simp only[evQ_eq,evOp,AOp.cls,pev]
  generalize c.ev (envOf l)=v
  cases v<;>first|rfl|(rename_i t;cases t<;>rfl)
 | bi op k x y =>
  show ob (AV.intQ (evQ x l)) (fun a=>ob (AV.intQ (evQ y l)) fun b=>bc (and (kEq a.1 k) (kEq b.1 k)) (ob (ibinQ op k a.2 b.2) fun v=>some (AEnd.ret v,nx,h)) none)=_
  simp only[evQ_eq,evOp,AOp.cls,pev,kEq_eq,ibinQ_eq]
  generalize x.ev (envOf l)=v
  generalize y.ev (envOf l)=w
  cases v<;>first|rfl|skip
  cases w<;>first|rfl|skip
  rename_i k1 a k2 b
  show bc (decide (k1=k∧k2=k)) (ob (ibin op k a b) fun v=>some (AEnd.ret v,nx,h)) none=_
  simp only
  by_cases hc:k1=k∧k2=k
  ·rw[decide_eq_true hc,if_pos hc]
   cases ibin op k a b<;>rfl
  ·rw[decide_eq_false hc,if_neg hc];rfl
 | not x =>
  show ob (AV.boolQ (evQ x l)) (fun t=>some (AEnd.ret (AV.bool (not t)),nx,h))=_
  simp only[evQ_eq,evOp,AOp.cls,pev]
  generalize x.ev (envOf l)=v
  cases v<;>rfl
 | ext x i =>
  show ob (AV.tupQ (evQ x l)) (fun vs=>ob (vs[i]?) fun v=>some (AEnd.ret v,nx,h))=_
  simp only[evQ_eq,evOp,AOp.cls,pev]
  generalize x.ev (envOf l)=v
  cases v<;>first|rfl|skip
  rename_i vs
  show (ob (vs[i]?) fun v=>some (AEnd.ret v,nx,h))=_
  simp only
  cases vs[i]?<;>rfl
 | fa o x =>
  show ob (faQ o (evQ x l)) (fun v=>some (AEnd.ret v,nx,h))=_
  simp only[evQ_eq,evOp,AOp.cls,pev]
  generalize x.ev (envOf l)=v
  cases v<;>rfl
 | len x =>
  show ob (AV.lenQ (evQ x l)) (fun n=>some (AEnd.ret (AV.int .i64 n),nx,h))=_
  simp only[evQ_eq,evOp,AOp.cls,pev]
  generalize x.ev (envOf l)=v
  cases v<;>rfl
 | ld n g x =>
  show ob (ldQ n g h (evQ x l)) (fun v=>some (AEnd.ret v,nx,h))=_
  simp only[evQ_eq,evOp,AOp.cls,rev]
  generalize x.ev (envOf l)=v
  cases v<;>first|rfl|skip
  ·rename_i b off
   show ob (match h.get b with
    | some (.cells cs)=>if off+n≤cs.length then some (mk g ((cs.drop off).take n)) else none
    | _=>none) (fun v=>some (AEnd.ret v,nx,h))=_
   simp only
   cases h.get b with
   | none=>rfl
   | some o =>
    cases o with
    | cells cs =>
     simp only
     by_cases hc:off+n≤cs.length
     ·rw[if_pos hc];rfl
     ·rw[if_neg hc];rfl
    | tip n s=>rfl
    | map kt es=>rfl
  ·rename_i cs
   show ob (if n≤cs.length then some (mk g (cs.take n)) else none) (fun v=>some (AEnd.ret v,nx,h))=_
   simp only
   by_cases hc:n≤cs.length
   ·rw[if_pos hc];rfl
   ·rw[if_neg hc];rfl
 | _=>rfl
noncomputable def putQ (l:EL) (d:Nat) (c:AV):EL:=List.rec (motive:=fun _=>EL) [(d,c)] (fun p r ih=>Bool.rec (p::ih) ((d,c)::r) (Nat.beq d p.1)) l
theorem putQ_eq (d:Nat) (c:AV):∀ l:EL,putQ l d c=EL.put l d c
 | []=>rfl
 | (n,x)::r=>by
  show Bool.rec ((n,x)::putQ r d c) ((d,c)::r) (Nat.beq d n)=if d=n then (d,c)::r else (n,x)::EL.put r d c
  cases hb:Nat.beq d n with
  | true=>rw[if_pos (Nat.eq_of_beq_eq_true hb)]
  | false=>rw[if_neg (Nat.ne_of_beq_eq_false hb),putQ_eq d c r]
noncomputable def setQ (l:EL) (d:Option Nat) (c:AV):EL:=Option.rec l (fun d=>putQ l d c) d
theorem setQ_eq (l:EL) (d:Option Nat) (c:AV):setQ l d c=EL.set l d c:=by
 cases d with
 | none=>rfl
 | some d=>exact putQ_eq d c l
noncomputable def gvQ (g:Option (Nat×Bool)) (l:EL):Option Bool:=Option.rec (some true) (fun _=>gv g (envOf l)) g
theorem gvQ_eq (g:Option (Nat×Bool)) (l:EL):gvQ g l=gv g (envOf l):=by cases g<;>rfl
noncomputable def reQ (R:List Chk) (l:EL) (h:AH):Bool:=List.rec (motive:=fun _=>Bool) true (fun _ _ _=>evRe (envOf l) h.get R) R
theorem reQ_eq (R:List Chk) (l:EL) (h:AH):reQ R l h=evRe (envOf l) h.get R:=by cases R<;>rfl
abbrev QR:=Option (XI×Nat×AH)
noncomputable def itQ (P:Program) (call:ECall) (its:List (AItem×List Chk)):EL→Nat→AH→QR :=
 List.rec (motive:=fun _=>EL→Nat→AH→QR) (fun l nx h=>some (.ok l,nx,h))
  (fun it _ ih l nx h=>ob (gvQ it.1.guard l) fun t=>bc t
   (ob (evOpQ it.1.op P call l nx h) fun r=>AEnd.rec (motive:=fun _=>QR) (fun v=>bc (reQ it.2 (setQ l it.1.dst v) r.2.2) (ih (setQ l it.1.dst v) r.2.1 r.2.2) none) (fun v=>some (.pan v,r.2)) r.1) (ih (setQ l it.1.dst (.tup [])) nx h)) its
theorem itQ_eq (P:Program) (call:ECall):∀(its:List (AItem×List Chk)) (l:EL) (nx:Nat) (h:AH),itQ P call its l nx h=evItems P call its l nx h
 | [],_,_,_=>rfl
 | it::r,l,nx,h=>by
  show (ob (gvQ it.1.guard l) fun t=>bc t
   (ob (evOpQ it.1.op P call l nx h) fun x=>AEnd.rec (motive:=fun _=>QR) (fun v=>bc (reQ it.2 (setQ l it.1.dst v) x.2.2) (itQ P call r (setQ l it.1.dst v) x.2.1 x.2.2) none) (fun v=>some (.pan v,x.2)) x.1) (itQ P call r (setQ l it.1.dst (.tup [])) nx h):QR)=_
  simp only[evItems,gvQ_eq,evOpQ_eq,setQ_eq,reQ_eq,itQ_eq P call r]
  cases gv it.1.guard (envOf l) with
  | none=>rfl
  | some t =>
   cases t with
   | false=>rfl
   | true =>
    cases evOp P call (envOf l) nx h it.1.op with
    | none=>rfl
    | some x =>
     obtain⟨e,nx',h'⟩:=x
     cases e with
     | pan v=>rfl
     | ret v =>
      show bc (evRe (envOf (EL.set l it.1.dst v)) (AH.get h') it.2) (evItems P call r (EL.set l it.1.dst v) nx' h') none=if evRe (envOf (EL.set l it.1.dst v)) (AH.get h') it.2=true then evItems P call r (EL.set l it.1.dst v) nx' h' else none
      cases evRe (envOf (EL.set l it.1.dst v)) (AH.get h') it.2<;>rfl
noncomputable def thQ (r:CR) (k:EL→Nat→AH→CR):CR :=
 Option.rec none (fun x=>EX.rec (motive:=fun _=>CR) (fun e l=>AExit.rec (motive:=fun _=>CR) (k l x.2.1 x.2.2) (fun i=>some (.n (.exit i) l,x.2)) (some (.n .ret l,x.2)) e) (fun v=>some (.p v,x.2)) x.1) r
noncomputable def blQ (id:Nat) (r:CR):CR :=
 Option.rec none (fun x=>EX.rec (motive:=fun _=>CR) (fun e l=>AExit.rec (motive:=fun _=>CR) (some (.n .normal l,x.2)) (fun i=>bc (Nat.beq i id) (some (.n .normal l,x.2)) (some (.n (.exit i) l,x.2))) (some (.n .ret l,x.2)) e) (fun v=>some (.p v,x.2)) x.1) r
theorem thQ_eq (r:CR) (k:EL→Nat→AH→CR):thQ r k=match r with
  | some (.n .normal l,nx,h)=>k l nx h
  | r=>r:=by
 cases r with
 | none=>rfl
 | some x =>
  obtain⟨e,nx,h⟩:=x
  cases e with
  | p v=>rfl
  | n e l=>cases e<;>rfl
theorem blQ_eq (id:Nat) (r:CR):blQ id r=match r with
  | some (.n (.exit i) l,nx,h)=>if i=id then some (.n .normal l,nx,h) else some (.n (.exit i) l,nx,h)
  | r=>r:=by
 cases r with
 | none=>rfl
 | some x =>
  obtain⟨e,nx,h⟩:=x
  cases e with
  | p v=>rfl
  | n e l =>
   cases e with
   | normal=>rfl
   | ret=>rfl
   | exit i =>
    show bc (Nat.beq i id) (some (EX.n .normal l,nx,h)) (some (EX.n (.exit i) l,nx,h))=if i=id then _ else _
    cases hb:Nat.beq i id with
    | true=>rw[if_pos (Nat.eq_of_beq_eq_true hb)];rfl
    | false=>rw[if_neg (Nat.ne_of_beq_eq_false hb)];rfl
abbrev CF:=AC→EL→Nat→AH→CR
noncomputable def keepQ (l:EL) (k:List Nat):EL:=List.rec (motive:=fun _=>EL) [] (fun n _ ih=>(n,getQ l n)::ih) k
theorem keepQ_eq (l:EL):∀ k:List Nat,keepQ l k=EL.keep l k
 | []=>rfl
 | n::k=>by
  show (n,getQ l n)::keepQ l k=(n,envOf l n)::EL.keep l k
  rw[getQ_eq,keepQ_eq l k]
noncomputable def xiQ (r:QR):CR:=ob r fun x=>XI.rec (motive:=fun _=>CR) (fun l=>some (.n .normal l,x.2)) (fun v=>some (.p v,x.2)) x.1
noncomputable def stepQ (P:Program) (call:ECall) (ih:CF) (c:AC):EL→Nat→AH→CR :=
 AC.rec (motive:=fun _=>Program→ECall→CF→EL→Nat→AH→CR)
 (skip:=fun _ _ _ l nx h=>some (.n .normal l,nx,h))
 (reg:=fun _ items P call _ l nx h=>xiQ (itQ P call (annot items) l nx h))
 (seq:=fun a b _ _ _ _ ih l nx h=>thQ (ih a l nx h) (ih b))
 (join:=fun k a b _ _ _ _ ih l nx h=>thQ (ih a l nx h) fun l nx h=>ih b (keepQ l k) nx h)
 (cond:=fun c t e _ _ _ _ ih l nx h=>ob (AV.boolQ (evQ c l)) fun x=>bc x (ih t l nx h) (ih e l nx h))
 (block:=fun id b _ _ _ ih l nx h=>blQ id (ih b l nx h))
 (loop:=fun k b _ _ _ ih l nx h=>thQ (ih b (keepQ l k) nx h) (ih (.loop k b)))
 (scope:=fun b _ _ _ ih l nx h=>ih b l nx h)
 (exit:=fun id _ _ _ l nx h=>some (.n (.exit id) l,nx,h))
 (ret:=fun _ _ _ l nx h=>some (.n .ret l,nx,h))
 (rfun:=fun _ _ _ _ _ _ _ _ _ _ _ _=>none) c P call ih
noncomputable def cQ (P:Program) (call:ECall) (m:Nat):CF:=Nat.rec (motive:=fun _=>CF) (fun _ _ _ _=>none) (fun _ ih c=>stepQ P call ih c) m
theorem cQ_eq (P:Program) (call:ECall):∀(m:Nat) (c:AC) (l:EL) (nx:Nat) (h:AH),cQ P call m c l nx h=evC P call m c l nx h
 | 0,_,_,_,_=>rfl
 | m+1,c,l,nx,h=>by
  have ih:=cQ_eq P call m
  show stepQ P call (cQ P call m) c l nx h=_
  unfold evC
  cases c with
  | skip=>rfl
  | reg c items =>
   show xiQ (itQ P call (annot items) l nx h)=_
   rw[itQ_eq]
   simp only
   cases evItems P call (annot items) l nx h with
   | none=>rfl
   | some x=>obtain⟨e,nx',h'⟩:=x;cases e<;>rfl
  | seq a b =>
   show thQ (cQ P call m a l nx h) (cQ P call m b)=_
   rw[thQ_eq,ih]
   simp only[ih]
   all_goals rfl
  | join k a b =>
   show thQ (cQ P call m a l nx h) (fun l nx h=>cQ P call m b (keepQ l k) nx h)=_
   rw[thQ_eq,ih]
   simp only[ih,keepQ_eq]
   all_goals rfl
  | cond c t e =>
   show (ob (AV.boolQ (evQ c l)) fun x=>bc x (cQ P call m t l nx h) (cQ P call m e l nx h))=_
   rw[evQ_eq,ih,ih]
   show _=(match c.ev (envOf l) with
    | .bool true=>evC P call m t l nx h
    | .bool false=>evC P call m e l nx h
    | _=>none)
   generalize c.ev (envOf l)=v
   cases v with
   | bool b=>cases b<;>rfl
   | _=>rfl
  | block id b =>
   show blQ id (cQ P call m b l nx h)=_
   rw[blQ_eq,ih]
   all_goals rfl
  | loop k b =>
   show thQ (cQ P call m b (keepQ l k) nx h) (cQ P call m (.loop k b))=_
   rw[thQ_eq,ih,keepQ_eq]
   simp only[ih]
   all_goals rfl
  | scope b=>exact ih b l nx h
  | exit id=>rfl
  | ret=>rfl
  | rfun g ps a b=>rfl
noncomputable def defQ (P:Program) (call:ECall) (fuel:Nat) (s:ASp) (d:ADfn) (caps:List AV) (rv:Option AV) (l1:EL) (nx:Nat) (h:AH):ER :=
 if d.np<caps.length then none else
 match itQ P call (annot d.items) (EL.set (mkArgs 0 caps) (some d.d) (rv.getD (.oth .nilIface))) nx h with
 | some (.ok l,nx,h)=>match cQ P call fuel d.body l nx h with
  | some (.n (.exit _) _,_,_)=>none
  | some (.n _ _,nx,h)=>match resvs ((envOf l1).keep (List.range s.lo)) h.get s.res with
   | some vs=>some (.ret (tupOf vs),nx,h)
   | none=>none
  | _=>none
 | _=>none
noncomputable def spQ (P:Program) (call:ECall) (fuel:Nat) (s:ASp) (df:FuncId) (d:ADfn) (args:List AV) (nx:Nat) (h:AH):ER :=
 evThen s.res (cQ P call fuel s.pre (mkArgs 0 args) nx h) fun l nx h =>
 evThen s.res (match s.mid with
  | none=>some (.n .normal l,nx,h)
  | some m=>cQ P call fuel m l nx h) fun l nx h =>
 evThen s.res (cQ P call fuel s.blk l nx h) fun l nx h =>
 match itQ P call (annot s.items) l nx h with
 | some (.ok l1,nx,h)=>match envOf l1 s.g with
  | .clo f [] caps=>if f=df∧Program.callable P f=true then match cQ P call fuel s.body l1 nx h with
   | some (.n (.exit _) _,_,_)=>none
   | some (.n _ _,nx,h)=>defQ P call fuel s d caps none l1 nx h
   | some (.p v,nx,h)=>defQ P call fuel s d caps (some v) l1 nx h
   | none=>none
   else none
  | _=>none
 | some (.pan v,nx,h)=>some (.pan v,nx,h)
 | none=>none
noncomputable def fnQ (P:Program) (call:ECall) (fuel:Nat) (x:EFn) (args:List AV) (nx:Nat) (h:AH):ER :=
 match x with
 | .fn af true=>if af.np<args.length then none else evEnd af.res (cQ P call fuel af.body (mkArgs 0 args) nx h)
 | .fn af false=>if af.np<args.length then none else if AV.frees (args.map AV.strip)=true then evPure nx h (evEnd af.res (cQ P call fuel af.body (mkArgs 0 (args.map AV.strip)) 0 [])) else evEnd af.res (cQ P call fuel af.body (mkArgs 0 args) nx h)
 | .sp s df d true=>if s.np<args.length then none else spQ P call fuel s df d args nx h
 | .sp s df d false=>if s.np<args.length then none else if AV.frees (args.map AV.strip)=true then evPure nx h (spQ P call fuel s df d (args.map AV.strip) 0 []) else spQ P call fuel s df d args nx h
theorem defQ_eq (P:Program) (call:ECall) (fuel:Nat) (s:ASp) (d:ADfn) (caps:List AV) (rv:Option AV) (l1:EL) (nx:Nat) (h:AH):defQ P call fuel s d caps rv l1 nx h=evDef P call fuel s d caps rv l1 nx h:=by
 unfold defQ evDef
 simp only[itQ_eq,cQ_eq]
 all_goals rfl
theorem spQ_eq (P:Program) (call:ECall) (fuel:Nat) (s:ASp) (df:FuncId) (d:ADfn) (args:List AV) (nx:Nat) (h:AH):spQ P call fuel s df d args nx h=evSp P call fuel s df d args nx h:=by
 unfold spQ evSp
 simp only[itQ_eq,cQ_eq,defQ_eq]
 all_goals rfl
theorem fnQ_eq (P:Program) (call:ECall) (fuel:Nat) (x:EFn) (args:List AV) (nx:Nat) (h:AH):fnQ P call fuel x args nx h=evFn P call fuel x args nx h:=by
 unfold fnQ evFn
 simp only[cQ_eq,spQ_eq]
 all_goals rfl
noncomputable def fstep (P:Program) (T:FuncId→Option EFn) (O:FuncId→List AV→Option AV) (fuel:Nat) (call:ECall):ECall:=fun f args nx h =>
 match O f (args.map AV.strip) with
 | some r=>some (.ret r,nx,h)
 | none=>match T f with
  | none=>none
  | some x=>fnQ P call fuel x args nx h
noncomputable def fQ (P:Program) (T:FuncId→Option EFn) (O:FuncId→List AV→Option AV) (fuel n:Nat):ECall :=
 Nat.rec (motive:=fun _=>ECall) (fun _ _ _ _=>none) (fun _ ih=>fstep P T O fuel ih) n
theorem fQ_eq (P:Program) (T:FuncId→Option EFn) (O:FuncId→List AV→Option AV) (fuel:Nat):∀ n:Nat,fQ P T O fuel n=evF P T O fuel n
 | 0=>by funext f args nx h;rfl
 | n+1=>by
  have ih:=fQ_eq P T O fuel n
  show fstep P T O fuel (fQ P T O fuel n)=_
  rw[ih]
  funext f args nx h
  unfold fstep evF
  simp only[fnQ_eq]
  all_goals rfl
inductive Tr where
 | leaf
 | node (k:Nat) (v:EFn) (l r:Tr)
noncomputable def Tr.find (t:Tr) (n:Nat):Option EFn :=
 Tr.rec (motive:=fun _=>Option EFn) none (fun k v _ _ hl hr=>bc (Nat.beq n k) (some v) (bc (Nat.ble n k) hl hr)) t
def Tr.vals:Tr→List (Nat×EFn)
 | .leaf=>[]
 | .node k v l r=>(k,v)::(l.vals++r.vals)
theorem Tr.find_mem {n:Nat} {v:EFn}:∀ t:Tr,t.find n=some v→(n,v)∈t.vals
 | .leaf,h=>by cases h
 | .node k x l r,h=>by
  have h2:bc (Nat.beq n k) (some x) (bc (Nat.ble n k) (l.find n) (r.find n))=some v:=h
  cases hb:Nat.beq n k with
  | true =>
   rw[hb] at h2
   have h3:some x=some v:=h2
   cases h3
   rw[Nat.eq_of_beq_eq_true hb]
   exact yI ..
  | false =>
   rw[hb] at h2
   have h3:bc (Nat.ble n k) (l.find n) (r.find n)=some v:=h2
   refine Za _ (List.mem_append.2 ?_)
   cases hc:Nat.ble n k with
   | true=>rw[hc] at h3;exact .inl (Tr.find_mem l h3)
   | false=>rw[hc] at h3;exact .inr (Tr.find_mem r h3)
theorem Pure.of_ev2 {P:Program} {T:FuncId→Option EFn} {O:FuncId→List AV→Option AV} (hT:ETab P T O) (fuel n:Nat) {f:FuncId} {args:List AV} {r:AV} (hf:AV.frees args=true) (hr:r.free=true)
  (he:(match fQ P T O fuel n f args 0 [] with|some (.ret v,_,_)=>avEq v.strip r|_=>false)=true):Pure P f args r :=
 Pure.of_ev hT fuel n hf hr (by rw[← fQ_eq];exact he)
def FnOk (P:Program) (f:FuncId):EFn→Prop
 | .fn af _=>chkFn P f af=true∧af.body.okc=true
 | .sp s g d _=>(chkSp P f s=true∧chkDfn P g d=true)∧(s.pre.okc&&(s.blk.okc&&(s.items.all AItem.okc&&(s.body.okc&&((match s.mid with|some m=>m.okc|none=>true)&&(d.items.all AItem.okc&&d.body.okc))))))=true
def TrOk (P:Program):Tr→Prop
 | .leaf=>True
 | .node k v l r=>FnOk P k v∧TrOk P l∧TrOk P r
theorem TrOk.mem {P:Program} {n:Nat} {v:EFn}:∀ {t:Tr},TrOk P t→(n,v)∈t.vals→FnOk P n v
 | .leaf,_,h=>by cases h
 | .node k x l r,ho,h=>by
  obtain⟨h1,h2,h3⟩:=ho
  rcases List.mem_cons.1 h with h|h
  ·cases h;exact h1
  ·rcases List.mem_append.1 h with h|h
   ·exact TrOk.mem h2 h
   ·exact TrOk.mem h3 h
theorem TrOk.tab {P:Program} {t:Tr} (h:TrOk P t) {O:FuncId→List AV→Option AV} (ho:∀ f as r,O f as=some r→AV.frees as=true∧r.free=true∧Pure P f as r):ETab P t.find O :=
 ⟨fun f af b hf=>h.mem (Tr.find_mem t hf),fun f s g d b hf=>by
  obtain⟨⟨c1,c2⟩,c3⟩:=h.mem (Tr.find_mem t hf)
  simp only[Al0] at c3
  obtain⟨o1,o2,o3,o4,o5,o6,o7⟩:=c3
  exact⟨c1,c2,o1,o2,o3,o4,fun m hm=>by rw[hm] at o5;exact o5,o6,o7⟩,ho⟩
attribute [go_sem] steps st2 pev rev oev optr ibin sbin ishf bound mmAll mm2 mk mkArgs AV.cells AV.boxable AV.one AV.strip1 fillA fillS Nat.reduceEqDiff reduceCtorEq Nat.reduceAdd Int.reduceNeg Nat.reduceLeDiff Int.reduceToNat Int.reduceEq Int.reduceLT Int.reduceLE Int.reduceAdd
attribute [go_sem ↓] reduceIte
abbrev Io (d:Nat) (o:AOp):AItem:=⟨some d,none,o,[]⟩
abbrev Im (d s:Nat):AItem:=⟨some d,none,.mv (.t s),[]⟩
abbrev If (d k s:Nat):AItem:=⟨some d,none,.fa k (.t s),[]⟩
abbrev Il (d k s:Nat):AItem:=⟨some d,none,.ld k false (.t s),[]⟩
abbrev Jt (d g:Nat) (o:AOp):AItem:=⟨some d,some (g,true),o,[]⟩
abbrev Jf (d g:Nat) (o:AOp):AItem:=⟨some d,some (g,false),o,[]⟩
attribute [go_sem] Io Im If Il Jt Jf
abbrev Imv (d:Nat) (n:Int):AItem:=⟨some d,none,.mv (.k (.int .i64 n)),[]⟩
abbrev Imb (d:Nat) (b:Bool):AItem:=⟨some d,none,.mv (.k (.bool b)),[]⟩
abbrev Iai (d s:Nat) (n:Int):AItem:=⟨some d,none,.bi .add .i64 (.t s) (.k (.int .i64 n)),[]⟩
abbrev Iei (d s:Nat) (n:Int):AItem:=⟨some d,none,.bi .eql .i64 (.t s) (.k (.int .i64 n)),[]⟩
abbrev Igi (d s:Nat) (n:Int):AItem:=⟨some d,none,.bi .gtr .i64 (.t s) (.k (.int .i64 n)),[]⟩
abbrev Isi (d s:Nat) (n:Int):AItem:=⟨some d,none,.bi .sub .i64 (.t s) (.k (.int .i64 n)),[]⟩
abbrev Ipf (d a b:Nat):AItem:=⟨some d,none,.pick (.t a) (.t b) (.k (.bool false)),[]⟩
abbrev Ipt (d a b:Nat):AItem:=⟨some d,none,.pick (.t a) (.k (.bool true)) (.t b),[]⟩
abbrev Ilb (d k s:Nat):AItem:=⟨some d,none,.ld k true (.t s),[]⟩
abbrev Iia (d k a b:Nat):AItem:=⟨some d,none,.ia k (.t a) (.t b),[]⟩
abbrev Ilt (d a b:Nat):AItem:=⟨some d,none,.bi .lss .i64 (.t a) (.t b),[]⟩
abbrev Iap (d k n a b:Nat):AItem:=⟨some d,none,.app k n (.t a) (.t b),[]⟩
abbrev Ink (d s:Nat):AItem:=⟨some d,none,.nilchk (.t s),[]⟩
abbrev Iln (d s:Nat):AItem:=⟨some d,none,.len (.t s),[]⟩
abbrev Ils (d s:Nat):AItem:=⟨some d,none,.lens (.t s),[]⟩
abbrev Iad (d a b:Nat):AItem:=⟨some d,none,.bi .add .i64 (.t a) (.t b),[]⟩
abbrev Iex (d s k:Nat):AItem:=⟨some d,none,.ext (.t s) k,[]⟩
abbrev Ibx (d s:Nat):AItem:=⟨some d,none,.boxv (.t s),[]⟩
abbrev Ing (d s:Nat):AItem:=⟨some d,none,.not (.t s),[]⟩
abbrev Jm (d g s:Nat):AItem:=⟨some d,some (g,true),.mv (.t s),[]⟩
abbrev Jl (d g k s:Nat):AItem:=⟨some d,some (g,true),.ld k false (.t s),[]⟩
abbrev Ja (d g k s:Nat):AItem:=⟨some d,some (g,true),.fa k (.t s),[]⟩
abbrev Fm (d g s:Nat):AItem:=⟨some d,some (g,false),.mv (.t s),[]⟩
abbrev Fl (d g k s:Nat):AItem:=⟨some d,some (g,false),.ld k false (.t s),[]⟩
abbrev Fa (d g k s:Nat):AItem:=⟨some d,some (g,false),.fa k (.t s),[]⟩
abbrev AC.rg (l:List AItem):AC:=.reg [] l
attribute [go_sem] AC.rg Jm Jl Ja Fm Fl Fa Imv Imb Iai Iei Igi Isi Ipf Ipt Ilb Iia Ilt Iap Ink Iln Ils Iad Iex Ibx Ing
end Go.Ab
