import Derived.Calls
import Derived.Orders
import Derived.WalkKit
import GoSem.PinnedTables
import Derived.Deep.AppendSrc
set_option maxRecDepth 100000
set_option linter.all false
def zH:=@Bool.and_eq_true
def zx:=@Option.some.injEq
def NW:=@List.length_cons
def N4:=@List.length_nil
def yX:=@Nat.le_refl
def Qn:=@List.length_append
def My:=@List.cons_append
def V6:=@Bool.false_eq_true
def YR:=@Prod.mk.injEq
def Yx:=@List.getElem?_eq_getElem
def yv:=@Option.map_some
def UE:=@List.nil_append
def MH:=@Except.ok.injEq
def MF:=@Bool.and_assoc
def O9:=@List.append_assoc
def zU:=@decide_eq_true_eq
def yK:=@List.getElem?_eq_some_iff
def Zj:=@Array.getElem?_eq_some_iff
def MI:=@List.length_eq_zero_iff
def yr:=@List.getElem?_map
def Zn:=@List.all_eq_true
def Zh:=@Option.map_eq_some_iff
def Y6:=@List.getElem?_append_left
def X4:=@List.getElem?_append_right
def MG:=@List.drop_append_of_le_length
def ZL:=@List.mem_cons_of_mem
def Yv:=@Option.isSome_iff_exists
def Zc:=@List.mem_cons_self
def UK:=@Bool.or_eq_true
def MJ:=@List.length_drop
def Mp:=@List.take_succ_cons
def Y8:=@List.mem_append_left
def Yj:=@List.getElem?_take
def UJ:=@Array.getD_eq_getD_getElem?
namespace Go.Ab
inductive Own where
 | no|nil|full
 | tip (b d:Nat)
 deriving DecidableEq
inductive AV where
 | any
 | bool (b:Bool)
 | ubool (p:Prop)
 | int (k:IntKind) (n:Int)
 | str (s:List UInt8)
 | agg (cs:List AV)
 | tup (vs:List AV)
 | sl (o:Own) (sz:Nat) (xs:List (List AV))
 | slx (sz:Nat) (xs ys:List (List AV))
 | nilp
 | ptr (b off:Nat)
 | view (cs:List AV)
 | ms (b off len cap:Nat)
 | nilm
 | mp (b:Nat)
 | clo (f:FuncId) (first caps:List AV)
 | oth (v:Value)
 | ifc (t:TypeId) (x:AV)
inductive BK where
 | imm|own
 | buf (e:Nat)
abbrev Gh:=Nat→BK
def y8 (γ:Gh) (b o:Nat):Prop :=
 match γ b with
 | .imm=>True
 | .own=>False
 | .buf e=>o<e
def YM (w:World) (o:Own) (a:Addr) (n cap sz:Nat):Prop :=
 match o with
 | .no=>True
 | .nil=>False
 | .full=>n=cap
 | .tip b d=>cap=0∨(a=⟨b,d*sz,none⟩∧∃ arr E,w.heap[b]?=some (.cells arr E (0,0))∧arr.size=(d+cap)*sz)
def CellIs (γ:Gh) (w:World) (b o:Nat) (v:Value):Prop :=
 w.cell? ⟨b,o,none⟩=some v∧y8 γ b o∧v.oneCell'=true
inductive Rep (γ:Gh) (w:World):AV→Value→Prop
 | any (v):Rep γ w .any v
 | bool (b):Rep γ w (.bool b) (.bool b)
 | ubool (p:Prop) (b:Bool) (h:b=true→p):Rep γ w (.ubool p) (.bool b)
 | int (k n):Rep γ w (.int k n) (.int k n)
 | str (s:List UInt8):Rep γ w (.str s) (.string ⟨s.toArray⟩)
 | agg (cs:List AV) (vs:List Value) (hl:cs.length=vs.length) (h1:∀(i:Nat) (v:Value),vs[i]?=some v→v.oneCell'=true)
  (h:∀(i:Nat) (c:AV) (v:Value),cs[i]?=some c→vs[i]?=some v→Rep γ w c v):Rep γ w (.agg cs) (.agg vs.toArray)
 | tup (cs:List AV) (vs:List Value) (hl:cs.length=vs.length) (h:∀(i:Nat) (c:AV) (v:Value),cs[i]?=some c→vs[i]?=some v→Rep γ w c v):Rep γ w (.tup cs) (.tuple vs.toArray)
 | slnil (o:Own) (sz:Nat) (ho:∀ b d,o≠.tip b d):Rep γ w (.sl o sz []) (.slice none 0 0)
 | sl0 (o:Own) (sz:Nat) (a:Addr) (ho:o=.no∨o=.full):Rep γ w (.sl o sz []) (.slice (some a) 0 0)
 | sl (o:Own) (sz:Nat) (xs:List (List AV)) (b off cap:Nat) (cv:Nat→Nat→Value) (hc:xs.length≤cap) (hm:cap≤maxLen)
  (hu:∀ x∈xs,x.length=sz)
  (hcell:∀(i:Nat) (x:List AV),xs[i]?=some x→∀ j,j<sz→CellIs γ w b (off+(i*sz+j)) (cv i j))
  (hr:∀(i:Nat) (x:List AV),xs[i]?=some x→∀(j:Nat) (c:AV),x[j]?=some c→Rep γ w c (cv i j))
  (ho:YM w o ⟨b,off,none⟩ xs.length cap sz):Rep γ w (.sl o sz xs) (.slice (some ⟨b,off,none⟩) xs.length cap)
 | slx (sz:Nat) (xs ys:List (List AV)) (ad:Option Addr) (cap:Nat) (h:Rep γ w (.sl .no sz (xs++ys)) (.slice ad (xs.length+ys.length) cap)):Rep γ w (.slx sz xs ys) (.slice ad xs.length cap)
 | nilp:Rep γ w .nilp (.pointer none)
 | ptr (b off:Nat) (hlt:b<w.heap.size):Rep γ w (.ptr b off) (.pointer (some ⟨b,off,none⟩))
 | view (cs:List AV) (b off:Nat) (cv:Nat→Value) (hcell:∀ j,j<cs.length→CellIs γ w b (off+j) (cv j))
  (hr:∀(j:Nat) (c:AV),cs[j]?=some c→Rep γ w c (cv j)):Rep γ w (.view cs) (.pointer (some ⟨b,off,none⟩))
 | ms (b off len cap:Nat) (hlt:b<w.heap.size) (hc:len≤cap) (hm:cap≤maxLen):Rep γ w (.ms b off len cap) (.slice (some ⟨b,off,none⟩) len cap)
 | nilm:Rep γ w .nilm (.map none)
 | mp (b:Nat) (hlt:b<w.heap.size):Rep γ w (.mp b) (.map (some b))
 | clo (f:FuncId) (first caps:List AV) (vs us:List Value) (hl:first.length=vs.length) (hl':caps.length=us.length)
  (h:∀(i:Nat) (c:AV) (v:Value),first[i]?=some c→vs[i]?=some v→Rep γ w c v) (h':∀(i:Nat) (c:AV) (v:Value),caps[i]?=some c→us[i]?=some v→Rep γ w c v) :
  Rep γ w (.clo f first caps) (.func (.func f) vs.toArray us.toArray)
 | oth (v):Rep γ w (.oth v) v
 | ifc (t:TypeId) (x:AV) (v:Value) (h:Rep γ w x v):Rep γ w (.ifc t x) (.iface t v)
structure Z9 (γ:Gh) (w:World) (γ':Gh) (w':World):Prop where
 size:w.heap.size≤w'.heap.size
 cell:∀ b o v,w.cell? ⟨b,o,none⟩=some v→y8 γ b o→y8 γ' b o∧w'.cell? ⟨b,o,none⟩=some v
 shape:∀(b:Nat) (arr:Array Value) (E:TypeId) (fr:Nat×Nat),w.heap[b]?=some (.cells arr E fr)→∃ arr':Array Value,w'.heap[b]?=some (.cells arr' E fr)∧arr'.size=arr.size
theorem Z9.refl (γ:Gh) (w:World):Z9 γ w γ w:=⟨yX _,fun _ _ _ h p=>⟨p,h⟩,fun _ arr _ _ h=>⟨arr,h,rfl⟩⟩
theorem Z9.trans {γ γ' γ'':Gh} {w w' w'':World} (h:Z9 γ w γ' w') (h':Z9 γ' w' γ'' w''):Z9 γ w γ'' w'' :=
 ⟨Nat.le_trans h.size h'.size,fun b o v hc hp=>let ⟨p,c⟩:=h.cell b o v hc hp;h'.cell b o v c p,
  fun b arr E fr hb=>let ⟨a1,h1,s1⟩:=h.shape b arr E fr hb;let ⟨a2,h2,s2⟩:=h'.shape b a1 E fr h1;⟨a2,h2,s2.trans s1⟩⟩
theorem CellIs.mono {γ γ':Gh} {w w':World} (m:Z9 γ w γ' w') {b o:Nat} {v:Value} (h:CellIs γ w b o v):CellIs γ' w' b o v :=
 let ⟨p,c⟩:=m.cell b o v h.1 h.2.1
 ⟨c,p,h.2.2⟩
theorem YM.mono {γ γ':Gh} {w w':World} (m:Z9 γ w γ' w') {o:Own} {a:Addr} {n cap sz:Nat} (h:YM w o a n cap sz):YM w' o a n cap sz:=by
 cases o with
 | no=>trivial
 | nil=>exact h
 | full=>exact h
 | tip b d =>
  rcases h with h|⟨ha,arr,E,hb,hs⟩
  ·exact .inl h
  obtain⟨arr',hb',hs'⟩:=m.shape b arr E _ hb
  exact .inr ⟨ha,arr',E,hb',hs'.trans hs⟩
theorem Rep.mono {γ γ':Gh} {w w':World} (m:Z9 γ w γ' w') {c:AV} {v:Value} (h:Rep γ w c v):Rep γ' w' c v:=by
 induction h with
 | any v=>exact .any v
 | bool b=>exact .bool b
 | ubool p b h=>exact .ubool p b h
 | int k n=>exact .int k n
 | str s=>exact .str s
 | agg cs vs hl h1 h ih=>exact .agg cs vs hl h1 ih
 | tup cs vs hl h ih=>exact .tup cs vs hl ih
 | slnil o sz ho=>exact .slnil o sz ho
 | sl0 o sz a ho=>exact .sl0 o sz a ho
 | sl o sz xs b off cap cv hc hm hu hcell hr ho ih =>
  exact .sl o sz xs b off cap cv hc hm hu (fun i x hx j hj=>(hcell i x hx j hj).mono m) ih (ho.mono m)
 | slx sz xs ys ad cap h ih=>exact .slx sz xs ys ad cap ih
 | nilp=>exact .nilp
 | ptr b off hlt=>exact .ptr b off (Nat.lt_of_lt_of_le hlt m.size)
 | view cs b off cv hcell hr ih=>exact .view cs b off cv (fun j hj=>(hcell j hj).mono m) ih
 | ms b off len cap hlt hc hm=>exact .ms b off len cap (Nat.lt_of_lt_of_le hlt m.size) hc hm
 | nilm=>exact .nilm
 | mp b hlt=>exact .mp b (Nat.lt_of_lt_of_le hlt m.size)
 | clo f first caps vs us hl hl' h h' ih ih'=>exact .clo f first caps vs us hl hl' ih ih'
 | oth v=>exact .oth v
 | ifc t x v h ih=>exact .ifc t x v ih
def AV.cells:AV→List AV
 | .agg cs=>cs
 | x=>[x]
def AV.one:AV→Bool
 | .agg _|.tup _|.any=>false
 | .oth v=>v.oneCell'
 | _=>true
theorem Rep.oneCell {γ:Gh} {w:World} {c:AV} {v:Value} (h:Rep γ w c v) (h1:c.one=true):v.oneCell'=true:=by
 cases h<;>first|rfl|(simp[AV.one] at h1;done)|(simpa[AV.one] using h1)
def AV.boxable:AV→Bool
 | .agg _=>true
 | c=>c.one
theorem Rep.cells {γ:Gh} {w:World} {c:AV} {v:Value} (h:Rep γ w c v) (hb:c.boxable=true) :
  c.cells.length=v.cells.toList.length∧(∀(i:Nat) (u:Value),v.cells.toList[i]?=some u→u.oneCell'=true) ∧
  ∀(i:Nat) (d:AV) (u:Value),c.cells[i]?=some d→v.cells.toList[i]?=some u→Rep γ w d u:=by
 cases c with
 | agg cs =>
  cases h with
  | agg _ vs hl h1 hr=>exact⟨by simpa[AV.cells,Value.cells] using hl,by simpa[Value.cells] using h1,by simpa[AV.cells,Value.cells] using hr⟩
 | any=>simp[AV.boxable,AV.one] at hb
 | tup vs=>simp[AV.boxable,AV.one] at hb
 | _ =>
  have h1:=h.oneCell (by simpa[AV.boxable] using hb)
  have hc:v.cells=#[v]:=by cases v<;>first|rfl|(simp[Value.oneCell'] at h1;done)
  rw[hc]
  refine⟨rfl,fun i u hu=>?_,fun i d u hd hu=>?_⟩
  ·cases i with
   | zero=>simp at hu;subst hu;exact h1
   | succ i=>simp at hu
  ·cases i with
   | zero=>simp[AV.cells] at hd hu;subst hd;subst hu;exact h
   | succ i=>simp at hu
def AV.strip1:AV→AV
 | .sl _ sz xs=>.sl .no sz xs
 | .slx sz xs _=>.sl .no sz xs
 | x=>x
def AV.strip2:AV→AV
 | .sl (.tip _ _) sz xs=>.sl .no sz xs
 | .slx sz xs _=>.sl .no sz xs
 | x=>x
def AV.strip:AV→AV
 | .agg cs=>.agg (cs.map AV.strip1)
 | .tup vs=>.tup (vs.map fun|.agg cs=>.agg (cs.map AV.strip1)|x=>x.strip1)
 | x=>x.strip1
theorem Rep.front {γ:Gh} {w:World} {sz:Nat} {xs zs:List (List AV)} {ad:Option Addr} {n cap:Nat} (h:Rep γ w (.sl .no sz zs) (.slice ad n cap)) (hx:∃ ys,zs=xs++ys):Rep γ w (.sl .no sz xs) (.slice ad xs.length cap):=by
 obtain⟨ys,rfl⟩:=hx
 generalize hz:xs++ys=zs at h
 cases h with
 | slnil _ _ ho =>
  obtain⟨rfl,_⟩:=List.append_eq_nil_iff.1 hz
  exact .slnil _ _ ho
 | sl0 _ _ a ho =>
  obtain⟨rfl,_⟩:=List.append_eq_nil_iff.1 hz
  exact .sl0 _ _ a ho
 | sl _ _ _ b off cap cv hc hm hu hcell hr ho =>
  subst hz
  have hg:∀(i:Nat) x,xs[i]?=some x→(xs++ys)[i]?=some x:=fun i x hx=>by
   rw[Y6 (yK.1 hx).1];exact hx
  simp only[Qn] at hc
  exact .sl .no sz xs b off cap cv (by omega) hm (fun x hx=>hu x (Y8 _ hx)) (fun i x hx=>hcell i x (hg i x hx)) (fun i x hx=>hr i x (hg i x hx)) trivial
theorem Rep.strip1 {γ:Gh} {w:World} {c:AV} {v:Value} (h:Rep γ w c v):Rep γ w c.strip1 v:=by
 cases h with
 | slnil o sz ho=>exact .slnil .no sz (by simp)
 | sl0 o sz a ho=>exact .sl0 .no sz a (.inl rfl)
 | sl o sz xs b off cap cv hc hm hu hcell hr ho=>exact .sl .no sz xs b off cap cv hc hm hu hcell hr trivial
 | slx sz xs ys ad cap h=>exact h.front ⟨ys,rfl⟩
 | any v=>exact .any v
 | bool b=>exact .bool b
 | ubool p b h=>exact .ubool p b h
 | int k n=>exact .int k n
 | str s=>exact .str s
 | agg cs vs hl h1 h=>exact .agg cs vs hl h1 h
 | tup cs vs hl h=>exact .tup cs vs hl h
 | nilp=>exact .nilp
 | ptr b off hlt=>exact .ptr b off hlt
 | view cs b off cv hcell hr=>exact .view cs b off cv hcell hr
 | ms b off len cap hlt hc hm=>exact .ms b off len cap hlt hc hm
 | nilm=>exact .nilm
 | mp b hlt=>exact .mp b hlt
 | clo f first caps vs us hl hl' h h'=>exact .clo f first caps vs us hl hl' h h'
 | oth v=>exact .oth v
 | ifc t x v h=>exact .ifc t x v h
theorem Rep.strip2 {γ:Gh} {w:World} {c:AV} {v:Value} (h:Rep γ w c v):Rep γ w c.strip2 v:=by
 cases c with
 | sl o sz xs =>
  cases o with
  | tip b d=>exact h.strip1
  | no=>exact h
  | nil=>exact h
  | full=>exact h
 | slx sz xs ys=>exact h.strip1
 | _=>exact h
theorem Rep.stripAgg {γ:Gh} {w:World} {cs:List AV} {v:Value} (h:Rep γ w (.agg cs) v):Rep γ w (.agg (cs.map AV.strip1)) v:=by
 cases h with
 | agg _ vs hl h1 h =>
  refine .agg _ vs (by simpa using hl) h1 fun i c v hc hv=>?_
  rw[yr] at hc
  cases hx:cs[i]? with
  | none=>simp[hx] at hc
  | some x=>simp only[hx,yv,zx] at hc;subst hc;exact(h i x v hx hv).strip1
theorem Rep.strip {γ:Gh} {w:World} {c:AV} {v:Value} (h:Rep γ w c v):Rep γ w c.strip v:=by
 cases c with
 | agg cs=>exact h.stripAgg
 | tup cs =>
  cases h with
  | tup _ vs hl h =>
   refine .tup _ vs (by simpa using hl) fun i c v hc hv=>?_
   rw[yr] at hc
   cases hx:cs[i]? with
   | none=>simp[hx] at hc
   | some x =>
    simp only[hx,yv,zx] at hc
    subst hc
    have hr:=h i x v hx hv
    cases x with
    | agg cs=>exact hr.stripAgg
    | _=>exact hr.strip1
 | _=>exact h.strip1
def AV.keq1:AV→AV→Bool
 | .bool a,.bool b=>a==b
 | .int _ a,.int _ b=>a==b
 | .str a,.str b=>a==b
 | _,_=>false
def Yh:List AV→List AV→Bool
 | [],[]=>true
 | a::r,b::s=>a.keq1 b&&Yh r s
 | _,_=>false
def AV.keq:AV→AV→Bool
 | .agg a,.agg b=>Yh a b
 | a,b=>a.keq1 b
inductive K1 where
 | b|s
 | i (k:IntKind)
 deriving DecidableEq
inductive KT where
 | one (k:K1)
 | agg (ks:List K1)
 deriving DecidableEq
def K1.fits:K1→AV→Bool
 | .b,.bool _=>true
 | .s,.str _=>true
 | .i k,.int k' _=>decide (k=k')
 | _,_=>false
def zJ:List K1→List AV→Bool
 | [],[]=>true
 | k::ks,c::cs=>k.fits c&&zJ ks cs
 | _,_=>false
def KT.fits:KT→AV→Bool
 | .one k,c=>k.fits c
 | .agg ks,.agg cs=>zJ ks cs
 | _,_=>false
inductive yf where
 | cells (cs:List AV)
 | tip (n sz:Nat)
 | map (kt:KT) (es:List (AV×AV))
abbrev zb:=Nat→Option yf
def zb.emp:zb:=fun _=>none
def zb.upd (H:zb) (b:Nat) (o:yf):zb:=fun c=>if c=b then some o else H c
def zb.del (H:zb) (b:Nat):zb:=fun c=>if c=b then none else H c
def zb.one (b:Nat) (o:yf):zb:=fun c=>if c=b then some o else none
def zb.union (A B:zb):zb:=fun c=>(A c).or (B c)
def zb.Disj (A B:zb):Prop:=∀ c,A c=none∨B c=none
def AV.conc1:AV→Option Value
 | .bool b=>some (.bool b)
 | .int k n=>some (.int k n)
 | .str s=>some (.string ⟨s.toArray⟩)
 | _=>none
def ZD:List AV→Option (List Value)
 | []=>some []
 | c::r=>match c.conc1,ZD r with
  | some v,some vs=>some (v::vs)
  | _,_=>none
def AV.conc:AV→Option Value
 | .agg cs=>(ZD cs).map fun vs=>.agg vs.toArray
 | c=>c.conc1
structure ZI (γ:Gh) (w:World) (x:AV×AV) (e:MapEntry):Prop where
 key:x.1.conc=some e.key
 val:Rep γ w x.2 e.val
inductive Zo (γ:Gh) (w:World) (b:Nat):yf→Prop
 | cells (cs:List AV) (vs:List Value) (E:TypeId) (hk:γ b=.own) (hb:w.heap[b]?=some (.cells vs.toArray E (0,0))) (hl:cs.length=vs.length)
  (h1:∀(i:Nat) (v:Value),vs[i]?=some v→v.oneCell'=true)
  (hr:∀(i:Nat) (c:AV) (v:Value),cs[i]?=some c→vs[i]?=some v→Rep γ w c v):Zo γ w b (.cells cs)
 | tip (n sz:Nat) (arr:Array Value) (E:TypeId) (hk:γ b=.buf (n*sz)) (hb:w.heap[b]?=some (.cells arr E (0,0))) (hl:n*sz≤arr.size):Zo γ w b (.tip n sz)
 | map (kt:KT) (es:List (AV×AV)) (cs:List MapEntry) (clock:Nat) (hf:∀ x∈es,kt.fits x.1=true) (hk:γ b=.own) (hb:w.heap[b]?=some (.map cs.toArray clock)) (hl:es.length=cs.length)
  (hr:∀(i:Nat) (x:AV×AV) (e:MapEntry),es[i]?=some x→cs[i]?=some e→ZI γ w x e):Zo γ w b (.map kt es)
def zn (γ:Gh) (w:World) (H:zb):Prop:=∀ b o,H b=some o→Zo γ w b o
theorem Zo.lt {γ:Gh} {w:World} {b:Nat} {o:yf} (h:Zo γ w b o):b<w.heap.size:=by
 cases h with
 | cells cs vs E hk hb hl h1 hr=>exact(Zj.1 hb).1
 | tip n sz arr E hk hb hl=>exact(Zj.1 hb).1
 | map kt es cs clock hf hk hb hl hr=>exact(Zj.1 hb).1
structure yV (F:Nat→Prop) (γ:Gh) (w:World) (γ':Gh) (w':World):Prop where
 mono:Z9 γ w γ' w'
 os:w'.os=w.os
 output:w'.output=w.output
 frozen:∀ a,a.block<w.heap.size→w'.frozen? a=w.frozen? a
 frame:∀ b,b<w.heap.size→¬ F b→γ' b=γ b∧w'.heap[b]?=w.heap[b]?
theorem yV.refl (F:Nat→Prop) (γ:Gh) (w:World):yV F γ w γ w:=⟨.refl γ w,rfl,rfl,fun _ _=>rfl,fun _ _ _=>⟨rfl,rfl⟩⟩
theorem yV.trans {F F':Nat→Prop} {γ γ' γ'':Gh} {w w' w'':World} (h:yV F γ w γ' w') (h':yV F' γ' w' γ'' w'') (hF:∀ b,b<w.heap.size→F' b→F b):yV F γ w γ'' w'' :=
 ⟨h.mono.trans h'.mono,h'.os.trans h.os,h'.output.trans h.output,fun a ha=>(h'.frozen a (Nat.lt_of_lt_of_le ha h.mono.size)).trans (h.frozen a ha),
  fun b hb hn=>let ⟨g1,e1⟩:=h.frame b hb hn;let ⟨g2,e2⟩:=h'.frame b (Nat.lt_of_lt_of_le hb h.mono.size) (fun f=>hn (hF b hb f));⟨g2.trans g1,e2.trans e1⟩⟩
theorem yV.weaken {F F':Nat→Prop} {γ γ':Gh} {w w':World} (h:yV F γ w γ' w') (hF:∀ b,F b→F' b):yV F' γ w γ' w' :=
 ⟨h.mono,h.os,h.output,h.frozen,fun b hb hn=>h.frame b hb (fun f=>hn (hF b f))⟩
theorem ZI.mono {γ γ':Gh} {w w':World} (m:Z9 γ w γ' w') {x:AV×AV} {e:MapEntry} (h:ZI γ w x e):ZI γ' w' x e:=⟨h.key,h.val.mono m⟩
theorem Zo.kept {γ γ':Gh} {w w':World} {b:Nat} {o:yf} (m:Z9 γ w γ' w') (h:Zo γ w b o) (hg:γ' b=γ b) (hb':w'.heap[b]?=w.heap[b]?):Zo γ' w' b o:=by
 cases h with
 | cells cs vs E hk hb hl h1 hr=>exact .cells cs vs E (hg.trans hk) (hb'.trans hb) hl h1 fun i c v hc hv=>(hr i c v hc hv).mono m
 | tip n sz arr E hk hb hl=>exact .tip n sz arr E (hg.trans hk) (hb'.trans hb) hl
 | map kt es cs clock hf hk hb hl hr=>exact .map kt es cs clock hf (hg.trans hk) (hb'.trans hb) hl fun i x e hx he=>(hr i x e hx he).mono m
theorem zn.kept {F:Nat→Prop} {γ γ':Gh} {w w':World} {H:zb} (e:yV F γ w γ' w') (h:zn γ w H) (hF:∀ b o,H b=some o→¬ F b):zn γ' w' H :=
 fun b o hb=>let ho:=h b o hb;let ⟨g,k⟩:=e.frame b ho.lt (hF b o hb);ho.kept e.mono g k
inductive zZ where
 | ret (v:AV)
 | pan (v:AV)
def X0 (γ:Gh) (w:World):Ending→zZ→Prop
 | .returned v,.ret c=>Rep γ w c v
 | .panicked ch,.pan c=>∃ v,ch=[{ v,recovered:=false }]∧Rep γ w c v
 | _,_=>False
def zv (γ:Gh) (w:World) (cs:List AV) (vs:List Value):Prop :=
 cs.length=vs.length∧∀(i:Nat) (c:AV) (v:Value),cs[i]?=some c→vs[i]?=some v→Rep γ w c v
theorem zv.mono {γ γ':Gh} {w w':World} (m:Z9 γ w γ' w') {cs:List AV} {vs:List Value} (h:zv γ w cs vs):zv γ' w' cs vs :=
 ⟨h.1,fun i c v hc hv=>(h.2 i c v hc hv).mono m⟩
theorem zv.nil {γ:Gh} {w:World}:zv γ w [] []:=⟨rfl,fun i c v h=>by simp at h⟩
theorem zv.cons {γ:Gh} {w:World} {c:AV} {v:Value} {cs:List AV} {vs:List Value} (h:Rep γ w c v) (hs:zv γ w cs vs):zv γ w (c::cs) (v::vs) :=
 ⟨by simp[hs.1],fun i d u hd hu=>by
  cases i with
  | zero=>simp only[List.getElem?_cons_zero,zx] at hd hu;subst hd;subst hu;exact h
  | succ i=>simp only[List.getElem?_cons_succ] at hd hu;exact hs.2 i d u hd hu⟩
theorem zv.append {γ:Gh} {w:World} {cs ds:List AV} {vs us:List Value} (h:zv γ w cs vs) (h':zv γ w ds us):zv γ w (cs++ds) (vs++us) :=
 ⟨by simp[h.1,h'.1],fun i d u hd hu=>by
  rcases Nat.lt_or_ge i cs.length with hi|hi
  ·rw[Y6 hi] at hd
   rw[Y6 (by rw[← h.1];exact hi)] at hu
   exact h.2 i d u hd hu
  ·rw[X4 hi] at hd
   rw[X4 (by rw[← h.1];exact hi),← h.1] at hu
   exact h'.2 _ d u hd hu⟩
def Qa:List (Nat×List (Value→Prop)):=[(0,Go.Pinned.utf8FirstZ.map fun(n:Nat) (v:Value)=>v=.int .u8 n),
 (1,([128,191,160,191,128,159,144,191,128,143,0,0,0,0,0,0,0,0,0,0,0,0,0,0,0,0,0,0,0,0,0,0]:List Nat).map fun(n:Nat) (v:Value)=>v=.int .u8 n),
 (2,([1,10,100,1000,10000,100000,1000000,10000000,100000000,1000000000,10000000000,100000000000,1000000000000,10000000000000,100000000000000,1000000000000000,10000000000000000,100000000000000000,1000000000000000000,10000000000000000000]:List Nat).map fun(n:Nat) (v:Value)=>v=.int .u64 n),
 (3,[fun v=>∃ m,v=.int .i64 m]),
 (4,([0,1,28,2,29,14,24,3,30,22,20,15,25,17,4,8,31,27,13,23,21,19,16,7,26,12,18,6,11,5,10,9]:List Nat).map fun(n:Nat) (v:Value)=>v=.int .u8 n),
 (5,([0,1,56,2,57,49,28,3,61,58,42,50,38,29,17,4,62,47,59,36,45,43,51,22,53,39,33,30,24,18,12,5,63,55,48,27,60,41,37,16,46,35,44,21,52,32,23,11,54,26,40,15,34,20,31,10,25,14,19,9,13,8,7,6]:List Nat).map fun(n:Nat) (v:Value)=>v=.int .u8 n),
 (6,[fun v=>∃ te pe,v=.iface te pe]),
 (7,[fun v=>∃ te pe,v=.iface te pe])]
def y1 (γ:Gh) (w:World):Prop:=∀ x∈Qa,(∃(arr:Array Value) (E:TypeId) (fr:Nat×Nat),w.heap[x.1]?=some (.cells arr E fr)∧arr.size=x.2.length) ∧
 ∀(j:Nat) (p:Value→Prop),x.2[j]?=some p→∃ v,CellIs γ w x.1 j v∧p v
theorem y1.mono {γ γ':Gh} {w w':World} (m:Z9 γ w γ' w') (h:y1 γ w):y1 γ' w':=fun x hx =>
 ⟨let ⟨arr,E,fr,h1,h2⟩:=(h x hx).1;let ⟨arr',h3,h4⟩:=m.shape _ arr E fr h1;⟨arr',E,fr,h3,h4.trans h2⟩,
  fun j p hp=>let ⟨v,h1,h2⟩:=(h x hx).2 j p hp;⟨v,h1.mono m,h2⟩⟩
def zt (P:Program) (f:FuncId) (args:List AV) (H:zb) (Q:zZ→zb→Prop):Prop :=
 ∀(γ:Gh) (w:World) (vs:List Value),y1 γ w→zn γ w H→zv γ w args vs →
  Calls P f vs.toArray w fun e w'=>∃ γ' H' r,yV (fun b=>(H b).isSome=true) γ w γ' w'∧zn γ' w' H' ∧
   (∀ b,(H' b).isSome=true→(H b).isSome=true∨w.heap.size≤b)∧X0 γ' w' e r∧Q r H'
theorem zt.mono {P:Program} {f:FuncId} {args:List AV} {H:zb} {Q Q':zZ→zb→Prop} (h:zt P f args H Q) (hq:∀ r H',Q r H'→Q' r H'):zt P f args H Q' :=
 fun γ w vs ht hs hv=>(h γ w vs ht hs hv).mono fun _ _ ⟨γ',H',r,a,b,c,d,e⟩=>⟨γ',H',r,a,b,c,d,hq _ _ e⟩
theorem zb.union_some {A B:zb} {b:Nat} {o:yf} (h:zb.union A B b=some o):A b=some o∨(A b=none∧B b=some o):=by
 unfold zb.union at h
 cases ha:A b with
 | none=>right;simpa[ha] using h
 | some x=>left;simpa[ha] using h
theorem zn.sub {γ:Gh} {w:World} {H H':zb} (h:zn γ w H) (hs:∀ b o,H' b=some o→H b=some o):zn γ w H' :=
 fun b o hb=>h b o (hs b o hb)
theorem zt.frame {P:Program} {f:FuncId} {args:List AV} {A B:zb} {Q:zZ→zb→Prop} (hd:zb.Disj A B) (h:zt P f args A Q) :
  zt P f args (zb.union A B) fun r H'=>∃ A',Q r A'∧zb.Disj A' B∧H'=zb.union A' B:=by
 intro γ w vs ht hs hv
 have hA:zn γ w A:=hs.sub fun b o hb=>by simp[zb.union,hb]
 have hB:zn γ w B:=hs.sub fun b o hb=>by
  rcases hd b with h|h
  ·simp[zb.union,h,hb]
  ·rw[h] at hb;cases hb
 refine(h γ w vs ht hA hv).mono fun e w' ⟨γ',A',r,hext,hst,hkeys,hend,hq⟩=>?_
 have hdis:zb.Disj A' B:=fun c=>by
  cases hc:A' c with
  | none=>exact .inl rfl
  | some x =>
   right
   rcases hkeys c (by simp[hc]) with h1|h1
   ·rcases hd c with h2|h2
    ·simp[h2] at h1
    ·exact h2
   ·cases hb:B c with
    | none=>rfl
    | some y=>have:=(hB c y hb).lt;omega
 have hB':zn γ' w' B:=hB.kept hext fun b o hb hf=>by
  rcases hd b with h1|h1
  ·simp[h1] at hf
  ·rw[h1] at hb;cases hb
 refine⟨γ',zb.union A' B,r,hext.weaken fun b hb=>?_,fun b o hb=>?_,fun b hb=>?_,hend,A',hq,hdis,rfl⟩
 ·cases ha:A b with
  | none=>simp[ha] at hb
  | some x=>simp[zb.union,ha]
 ·rcases zb.union_some hb with h1|⟨_,h1⟩
  ·exact hst b o h1
  ·exact hB' b o h1
 ·cases ha:A' b with
  | some x =>
   rcases hkeys b (by simp[ha]) with h1|h1
   ·left
    cases hab:A b with
    | none=>simp[hab] at h1
    | some y=>simp[zb.union,hab]
   ·exact .inr h1
  | none =>
   simp only[zb.union,ha,Option.none_or] at hb
   left
   cases hab:A b with
   | some y=>simp[zb.union,hab]
   | none=>simp[zb.union,hab,hb]
inductive zu where
 | t (n:Nat)
 | k (c:AV)
abbrev Env:=Nat→AV
def Env.set (ρ:Env) (d:Option Nat) (c:AV):Env :=
 match d with
 | some d=>fun n=>if n=d then c else ρ n
 | none=>ρ
def zu.ev (ρ:Env):zu→AV
 | .t n=>ρ n
 | .k c=>c
def Own.cut:Own→Nat→Own
 | .tip b d,l=>.tip b (d+l)
 | o,_=>o
inductive NK where
 | s|p|m|f
 deriving DecidableEq
inductive z6 where
 | mv (x:zu)
 | pick (c a b:zu)
 | nilchk (x:zu)
 | bi (op:BinOp) (k:IntKind) (x y:zu)
 | shf (op:BinOp) (x y:zu)
 | bs (op:BinOp) (x y:zu)
 | bb (neg:Bool) (x y:zu)
 | eqa (neg:Bool) (ks:List K1) (x y:zu)
 | isnil (nk:NK) (x:zu)
 | isnn (nk:NK) (x:zu)
 | not (x:zu)
 | ineg (x:zu)
 | cvi (k:IntKind) (x:zu)
 | cvid (x:zu)
 | cvb2s (x:zu)
 | bld (zero:List AV) (parts:List (Nat×Nat×zu))
 | bls (sz len:Nat) (zero:List AV) (parts:List (Nat×zu))
 | bls2 (sz len:Nat) (zero:List AV) (parts:List (Nat×zu))
 | mkfn (f:FuncId) (first caps:List zu)
 | ext (x:zu) (i:Nat)
 | mki (t:TypeId) (x:zu)
 | fa (off:Nat) (x:zu)
 | fld (off n:Nat) (ag:Bool) (x:zu)
 | ia (sz:Nat) (x i:zu)
 | iar (n sz:Nat) (x i:zu)
 | ixs (x i:zu)
 | sls (x:zu) (lo hi:Option zu)
 | sll (sz:Nat) (x:zu) (lo hi mx:Option zu)
 | sllx (sz:Nat) (x hi:zu)
 | len (x:zu)
 | lens (x:zu)
 | mm (mx:Bool) (x:zu) (ys:List zu)
 | boxv (x:zu)
 | ifnil (neg:Bool) (x:zu)
 | tas (t:TypeId) (zero:AV) (x:zu)
 | ld (n:Nat) (ag:Bool) (x:zu)
 | lkp (kt:KT) (zero:AV) (ok:Bool) (m k:zu)
 | lenm (x:zu)
 | alloc (zero:List AV)
 | box (x:zu)
 | mkm (kt:KT)
 | st (n:Nat) (x y:zu)
 | mup (kt:KT) (m k v:zu)
 | app (sz bytes:Nat) (x y:zu)
 | apps (x y:zu)
 | mks (sz bytes:Nat) (n:zu)
 | mksn (zero:List AV) (bytes:Nat) (n:zu)
 | blsm (sz len:Nat) (zero:List AV) (parts:List (Nat×zu))
 | appm (sz bytes:Nat) (zero:List AV) (x y:zu)
 | appm2 (sz bytes:Nat) (zero:List AV) (x y:zu)
 | frz (sz:Nat) (x:zu)
 | slar (n:Nat) (x hi:zu)
 | slaf (n sz:Nat) (x hi:zu)
 | call (f:FuncId) (args:List zu)
 | callv (g:zu) (args:List zu)
 | pan (x:zu)
def mk (ag:Bool) (cs:List AV):AV:=if ag then .agg cs else cs.headD .any
def yR (op:BinOp) (k:IntKind) (a b:Int):Option AV :=
 match op with
 | .add=>some (.int k (k.wrap (a+b)))
 | .sub=>some (.int k (k.wrap (a-b)))
 | .mul=>some (.int k (k.wrap (a*b)))
 | .quo=>if b=0 then none else some (.int k (k.wrap (a.tdiv b)))
 | .rem=>if b=0 then none else some (.int k (a.tmod b))
 | .and=>some (.int k (k.wrap (BitVec.ofInt k.bits a &&& BitVec.ofInt k.bits b).toNat))
 | .or=>some (.int k (k.wrap (BitVec.ofInt k.bits a ||| BitVec.ofInt k.bits b).toNat))
 | .xor=>some (.int k (k.wrap (BitVec.ofInt k.bits a ^^^ BitVec.ofInt k.bits b).toNat))
 | .andNot=>some (.int k (k.wrap (BitVec.ofInt k.bits a &&& ~~~ BitVec.ofInt k.bits b).toNat))
 | .eql=>some (.bool (a==b))
 | .neq=>some (.bool (a != b))
 | .lss=>some (.bool (decide (a<b)))
 | .leq=>some (.bool (decide (a≤b)))
 | .gtr=>some (.bool (decide (b<a)))
 | .geq=>some (.bool (decide (b≤a)))
 | .shl|.shr=>none
def RR (op:BinOp) (k:IntKind) (a b:Int):Option AV :=
 match op with
 | .shl=>if b<0 then none else some (.int k (k.wrap (a*2 ^ (min b.toNat k.bits))))
 | .shr=>if b<0 then none else some (.int k (a.fdiv (2 ^ (min b.toNat k.bits))))
 | _=>none
def Rd (op:BinOp) (a b:List UInt8):Option AV :=
 match op with
 | .add=>if a.length+b.length≤9223372036854775807 then some (.str (a++b)) else none
 | .eql=>some (.bool (a==b))
 | .neq=>some (.bool !(a==b))
 | .lss=>some (.bool (Op.bytesLess a b))
 | .leq=>some (.bool (Op.bytesLess a b||a==b))
 | .gtr=>some (.bool !(Op.bytesLess a b||a==b))
 | .geq=>some (.bool !(Op.bytesLess a b))
 | _=>none
def Yw:List (List AV)→Option (List UInt8)
 | []=>some []
 | [.int .u8 n]::r=>if 0≤n∧n<256 then (Yw r).map (UInt8.ofNat n.toNat::·) else none
 | _=>none
def splice (cs:List AV) (off:Nat) (v:List AV):List AV:=cs.take off++v++cs.drop (off+v.length)
def Zp (ρ:Env):List AV→List (Nat×Nat×zu)→Option (List AV)
 | cs,[]=>some cs
 | cs,(off,n,x)::r=>if (x.ev ρ).cells.length=n∧off+n≤cs.length∧(x.ev ρ).boxable=true then Zp ρ (splice cs off (x.ev ρ).cells) r else none
def yH (S:AV→AV) (ρ:Env) (sz:Nat):List (List AV)→List (Nat×zu)→Option (List (List AV))
 | xs,[]=>some xs
 | xs,(i,x)::r=>if (x.ev ρ).cells.length=sz∧i<xs.length∧(x.ev ρ).boxable=true then yH S ρ sz (xs.set i ((x.ev ρ).cells.map S)) r else none
def bound (dflt:Nat) (ρ:Env):Option zu→Option Int
 | none=>some dflt
 | some x=>match x.ev ρ with
  | .int _ n=>some n
  | _=>none
def NI (mx:Bool) (a b:Int):Int:=if mx then (if b > a then b else a) else (if b<a then b else a)
def ZG (mx:Bool) (k:IntKind) (ρ:Env):Int→List zu→Option Int
 | a,[]=>some a
 | a,y::r=>match y.ev ρ with
  | .int k' b=>if k=k' then ZG mx k ρ (NI mx a b) r else none
  | _=>none
def W9 (sz b off len cap:Nat):Option Int→Option Int→Option AV
 | some l,some h=>if 0≤l∧l≤h∧h≤len then some (.ms b (if cap=l.toNat then off else off+l.toNat*sz) (h.toNat-l.toNat) (cap-l.toNat)) else none
 | _,_=>none
def zY (ρ:Env):z6→Option AV
 | .mv x=>some (x.ev ρ)
 | .pick c a b=>match c.ev ρ with
  | .bool t=>some (if t then a.ev ρ else b.ev ρ)
  | _=>none
 | .nilchk x=>match x.ev ρ with
  | .ptr b o=>some (.ptr b o)
  | .view cs=>some (.view cs)
  | .clo f a b=>some (.clo f a b)
  | _=>none
 | .bi op k x y=>match x.ev ρ,y.ev ρ with
  | .int k1 a,.int k2 b=>if k1=k∧k2=k then yR op k a b else none
  | _,_=>none
 | .shf op x y=>match x.ev ρ,y.ev ρ with
  | .int k a,.int _ b=>RR op k a b
  | _,_=>none
 | .bs op x y=>match x.ev ρ,y.ev ρ with
  | .str a,.str b=>Rd op a b
  | _,_=>none
 | .bb neg x y=>match x.ev ρ,y.ev ρ with
  | .bool a,.bool b=>some (.bool (if neg then !(a==b) else a==b))
  | _,_=>none
 | .eqa neg ks x y=>match x.ev ρ,y.ev ρ with
  | .agg as,.agg bs=>if zJ ks as=true∧zJ ks bs=true then some (.bool (if neg then !(Yh as bs) else Yh as bs)) else none
  | _,_=>none
 | .isnil nk x=>match nk,x.ev ρ with
  | .p,.nilp=>some (.bool true)
  | .p,.ptr _ _=>some (.bool false)
  | .p,.view _=>some (.bool false)
  | .m,.nilm=>some (.bool true)
  | .m,.mp _=>some (.bool false)
  | .f,.clo _ _ _=>some (.bool false)
  | .f,.oth .nilFunc=>some (.bool true)
  | .s,.sl .nil _ _=>some (.bool true)
  | .s,.sl _ _ xs=>some (.ubool (xs=[]))
  | _,_=>none
 | .isnn nk x=>match nk,x.ev ρ with
  | .p,.nilp=>some (.bool false)
  | .p,.ptr _ _=>some (.bool true)
  | .p,.view _=>some (.bool true)
  | .m,.nilm=>some (.bool false)
  | .m,.mp _=>some (.bool true)
  | .f,.clo _ _ _=>some (.bool true)
  | .f,.oth .nilFunc=>some (.bool false)
  | _,_=>none
 | .not x=>match x.ev ρ with
  | .bool t=>some (.bool !t)
  | _=>none
 | .ineg x=>match x.ev ρ with
  | .int k n=>some (.int k (k.wrap (0-n)))
  | _=>none
 | .cvi k x=>match x.ev ρ with
  | .int _ n=>some (.int k (k.wrap n))
  | _=>none
 | .cvid x=>match x.ev ρ with
  | .str s=>some (.str s)
  | _=>none
 | .cvb2s x=>match x.ev ρ with
  | .sl _ 1 xs=>(Yw xs).map .str
  | _=>none
 | .bld zero parts=>(Zp ρ zero parts).map .agg
 | .bls sz n zero parts=>if zero.length=sz then (yH AV.strip1 ρ sz (List.replicate n zero) parts).map (.sl .full sz) else none
 | .bls2 sz n zero parts=>if zero.length=sz then (yH AV.strip2 ρ sz (List.replicate n zero) parts).map (.sl .full sz) else none
 | .mkfn f first caps=>some (.clo f (first.map (zu.ev ρ)) (caps.map (zu.ev ρ)))
 | .ext x i=>match x.ev ρ with
  | .tup vs=>vs[i]?
  | _=>none
 | .mki t x=>some (.ifc t (x.ev ρ))
 | .fa off x=>match x.ev ρ with
  | .ptr b o=>some (.ptr b (o+off))
  | .view cs=>some (.view (cs.drop off))
  | _=>none
 | .fld off n ag x=>match x.ev ρ with
  | .agg cs=>if off+n≤cs.length then some (mk ag ((cs.drop off).take n)) else none
  | _=>none
 | .ia sz x i=>match x.ev ρ,i.ev ρ with
  | .sl _ sz' xs,.int _ n=>if sz'=sz∧0≤n∧n<xs.length then some (.view (xs.getD n.toNat [])) else none
  | .ms b off len _,.int _ n=>if 0≤n∧n<len then some (.ptr b (off+n.toNat*sz)) else none
  | _,_=>none
 | .iar n sz x i=>match x.ev ρ,i.ev ρ with
  | .ptr b off,.int _ h=>if 0≤h∧h<n then some (.ptr b (off+h.toNat*sz)) else none
  | _,_=>none
 | .ixs x i=>match x.ev ρ,i.ev ρ with
  | .str s,.int _ n=>if 0≤n∧n<s.length then some (.int .u8 (s.getD n.toNat 0).toNat) else none
  | _,_=>none
 | .sls x lo hi=>match x.ev ρ with
  | .str s=>match bound 0 ρ lo,bound s.length ρ hi with
   | some l,some h=>if 0≤l∧l≤h∧h≤s.length then some (.str ((s.take h.toNat).drop l.toNat)) else none
   | _,_=>none
  | _=>none
 | .sll sz x lo hi mx=>match x.ev ρ with
  | .sl o sz' xs=>match bound 0 ρ lo,bound xs.length ρ hi,mx with
   | some l,some h,none=>if sz'=sz∧0≤l∧l≤h∧h≤xs.length then some (.sl (if hi.isNone then o.cut l.toNat else .no) sz ((xs.take h.toNat).drop l.toNat)) else none
   | some l,some h,some m=>match m.ev ρ with
    | .int _ m=>if sz'=sz∧0≤l∧l≤h∧h≤m∧m≤xs.length then some (.sl (if m=h then .full else .no) sz ((xs.take h.toNat).drop l.toNat)) else none
    | _=>none
   | _,_,_=>none
  | .ms b off len cap=>match mx with
   | none=>W9 sz b off len cap (bound 0 ρ lo) (bound len ρ hi)
   | some _=>none
  | _=>none
 | .sllx sz x hi=>match x.ev ρ,hi.ev ρ with
  | .sl _ sz' xs,.int _ h=>if sz'=sz∧0≤h∧h≤xs.length then some (.slx sz (xs.take h.toNat) (xs.drop h.toNat)) else none
  | .slx sz' xs ys,.int _ h=>if sz'=sz∧0≤h∧h≤xs.length+ys.length then some (.sl .no sz ((xs++ys).take h.toNat)) else none
  | _,_=>none
 | .slar n x hi=>match x.ev ρ,hi.ev ρ with
  | .ptr b off,.int _ h=>if 0≤h∧h≤n then some (.ms b off h.toNat n) else none
  | _,_=>none
 | .lens x=>match x.ev ρ with
  | .str s=>some (.int .i64 s.length)
  | _=>none
 | .len x=>match x.ev ρ with
  | .sl _ _ xs=>some (.int .i64 xs.length)
  | .slx _ xs _=>some (.int .i64 xs.length)
  | .ms _ _ n _=>some (.int .i64 n)
  | _=>none
 | .mm mx x ys=>match x.ev ρ with
  | .int k a=>(ZG mx k ρ a ys).map (.int k)
  | _=>none
 | .ifnil neg x=>match x.ev ρ with
  | .oth .nilIface=>some (.bool !neg)
  | .ifc _ _=>some (.bool neg)
  | _=>none
 | .tas t zero x=>match x.ev ρ with
  | .oth .nilIface=>some (.tup [zero,.bool false])
  | .ifc t' c=>some (if t'=t then .tup [c,.bool true] else .tup [zero,.bool false])
  | _=>none
 | .boxv x=>if (x.ev ρ).boxable=true then some (.view (x.ev ρ).cells) else none
 | _=>none
def WE (es:List (AV×AV)) (k:AV):Option AV :=
 match es with
 | []=>none
 | (a,v)::r=>if k.keq a then some v else WE r k
def XX (es:List (AV×AV)) (k v:AV):List (AV×AV) :=
 match es with
 | []=>[(k,v)]
 | (a,u)::r=>if k.keq a then (k,v)::r else (a,u)::XX r k v
def Xa (zero:AV) (ok:Bool) (r:Option AV):AV:=if ok then .tup [r.getD zero,.bool r.isSome] else r.getD zero
def rev (ρ:Env) (H:zb):z6→Option AV
 | .ld n ag x=>match x.ev ρ with
  | .view cs=>if n≤cs.length then some (mk ag (cs.take n)) else none
  | .ptr b off=>match H b with
   | some (.cells cs)=>if off+n≤cs.length then some (mk ag ((cs.drop off).take n)) else none
   | _=>none
  | _=>none
 | .lkp kt zero ok m k=>if kt.fits (k.ev ρ) then match m.ev ρ with
  | .nilm=>some (Xa zero ok none)
  | .mp b=>match H b with
   | some (.map kt' es)=>if kt'=kt then some (Xa zero ok (WE es (k.ev ρ))) else none
   | _=>none
  | _=>none
  else none
 | .lenm x=>match x.ev ρ with
  | .nilm=>some (.int .i64 0)
  | .mp b=>match H b with
   | some (.map _ es)=>some (.int .i64 es.length)
   | _=>none
  | _=>none
 | _=>none
inductive MB where
 | pure|read|alloc|eff
 deriving DecidableEq
def z6.cls:z6→MB
 | .ld ..|.lkp ..|.lenm ..=>.read
 | .alloc ..|.box ..|.mkm ..|.mks ..|.mksn ..|.blsm ..=>.alloc
 | .slaf ..|.appm ..|.appm2 ..|.frz ..|.st ..|.mup ..|.app ..|.apps ..|.call ..|.callv ..|.pan ..=>.eff
 | _=>.pure
def yL (zero:List AV):Nat→List AV
 | 0=>[]
 | n+1=>zero++yL zero n
def ZN (ρ:Env):z6→Option yf
 | .alloc zero=>some (.cells zero)
 | .box x=>if (x.ev ρ).boxable=true then some (.cells (x.ev ρ).cells) else none
 | .mkm kt=>some (.map kt [])
 | .blsm sz n zero parts=>if zero.length=sz then (yH AV.strip1 ρ sz (List.replicate n zero) parts).map fun ys=>.cells ys.flatten else none
 | .mks sz bytes n=>match n.ev ρ with
  | .int _ c=>if 0≤c∧c*bytes≤140737488355328∧c≤9223372036854775807 then some (.tip 0 sz) else none
  | _=>none
 | .mksn zero bytes n=>match n.ev ρ with
  | .int _ c=>if 0≤c∧c*bytes≤140737488355328∧c≤9223372036854775807 then some (.cells (yL zero c.toNat)) else none
  | _=>none
 | _=>none
def ZC (ρ:Env) (b:Nat):z6→AV
 | .mkm _=>.mp b
 | .blsm _ n _ _=>.ms b 0 n n
 | .mks sz _ _=>.sl (.tip b 0) sz []
 | .mksn _ _ n=>match n.ev ρ with
  | .int _ c=>.ms b 0 c.toNat c.toNat
  | _=>.any
 | _=>.ptr b 0
def WQ (K KP:AV→zb→Prop):zZ→zb→Prop
 | .ret v,H=>K v H
 | .pan v,H=>KP v H
def Program.callable (P:Program) (f:FuncId):Bool :=
 match P.funcs[f]? with
 | some fn => fn.body.isSome && fn.name != "runtime.NumGoroutine"
 | none=>false
def UA (sz bytes:Nat) (x y:AV) (H:zb) (K:AV→zb→Prop):Prop :=
 match x,y with
 | .sl o s1 xs,.sl _ s2 ys =>
  s1=sz∧s2=sz∧(xs.length+ys.length)*bytes≤140737488355328∧xs.length+ys.length≤maxLen ∧
  match o with
  | .no=>False
  | .nil|.full=>(ys=[]→K (.sl o sz xs) H) ∧
   (ys≠[]→∀ b,H b=none→K (.sl (.tip b 0) sz (xs++ys.map (·.map AV.strip1))) (H.upd b (.tip (xs.length+ys.length) sz)))
  | .tip b d=>H b=some (.tip (d+xs.length) sz) ∧
   ∀ b' d',(H.del b) b'=none→K (.sl (.tip b' d') sz (xs++ys.map (·.map AV.strip1))) ((H.del b).upd b' (.tip (d'+(xs.length+ys.length)) sz))
 | _,_=>False
def W2 (S:AV→AV) (sz bytes:Nat) (zero:List AV) (x y:AV) (H:zb) (K:AV→zb→Prop):Prop :=
 match y with
 | .sl _ s2 ys=>s2=sz∧zero.length=sz∧match x with
  | .sl .nil s1 xs=>xs=[]∧s1=sz∧ys.length*bytes≤140737488355328∧ys.length≤maxLen∧(ys=[]→K (.sl .nil sz []) H) ∧
    (ys≠[]→∀ b cap,H b=none→ys.length≤cap→cap≤maxLen→K (.ms b 0 ys.length cap) (H.upd b (.cells (ys.flatten.map S++yL zero (cap-ys.length)))))
  | .ms b off len cap=>(len+ys.length)*bytes≤140737488355328∧len+ys.length≤maxLen∧match H b with
   | some (.cells cs)=>(len+ys.length≤cap→off+(len+ys.length)*sz≤cs.length∧K (.ms b off (len+ys.length) cap) (H.upd b (.cells (splice cs (off+len*sz) (ys.flatten.map S))))) ∧
     (cap<len+ys.length→off+len*sz≤cs.length∧∀ b' cap',H b'=none→len+ys.length≤cap'→cap'≤maxLen→K (.ms b' 0 (len+ys.length) cap') (H.upd b' (.cells ((cs.drop off).take (len*sz)++ys.flatten.map S++yL zero (cap'-(len+ys.length))))))
   | _=>False
  | _=>False
 | _=>False
def ZT (sz:Nat):Nat→List AV→List (List AV)
 | 0,_=>[]
 | n+1,cs=>(cs.take sz).map AV.strip1::ZT sz n (cs.drop sz)
def WG (sz:Nat) (x:AV) (H:zb) (K:AV→zb→Prop):Prop :=
 match x with
 | .ms b off len _=>match H b with
  | some (.cells cs)=>0<sz∧off+len*sz≤cs.length∧K (.sl .no sz (ZT sz len (cs.drop off))) (H.del b)
  | _=>False
 | _=>False
def VI (n sz:Nat) (x y:AV) (H:zb) (K:AV→zb→Prop):Prop :=
 match x,y with
 | .ptr b off,.int _ h=>0≤h∧h≤n∧WG sz (.ms b off h.toNat n) H K
 | _,_=>False
def bytesOf (s:List UInt8):List (List AV):=s.map fun c=>[.int .u8 c.toNat]
def eff (P:Program) (KP:AV→zb→Prop) (ρ:Env) (H:zb) (K:AV→zb→Prop):z6→Prop
 | .st n x y=>match x.ev ρ with
  | .ptr b off=>match H b with
   | some (.cells cs)=>(y.ev ρ).cells.length=n∧off+n≤cs.length∧(y.ev ρ).boxable=true∧K (.tup []) (H.upd b (.cells (splice cs off (y.ev ρ).cells)))
   | _=>False
  | _=>False
 | .mup kt m k v=>match m.ev ρ with
  | .mp b=>match H b with
   | some (.map kt' es)=>kt'=kt∧kt.fits (k.ev ρ)=true∧K (.tup []) (H.upd b (.map kt (XX es (k.ev ρ) (v.ev ρ))))
   | _=>False
  | _=>False
 | .app sz bytes x y=>UA sz bytes (x.ev ρ) (y.ev ρ) H K
 | .appm sz bytes zero x y=>W2 AV.strip1 sz bytes zero (x.ev ρ) (y.ev ρ) H K
 | .appm2 sz bytes zero x y=>W2 AV.strip2 sz bytes zero (x.ev ρ) (y.ev ρ) H K
 | .frz sz x=>WG sz (x.ev ρ) H K
 | .slaf n sz x hi=>VI n sz (x.ev ρ) (hi.ev ρ) H K
 | .apps x y=>match y.ev ρ with
  | .str s=>UA 1 1 (x.ev ρ) (.sl .no 1 (bytesOf s)) H K
  | _=>False
 | .call f args=>zt P f (args.map (zu.ev ρ)) H (WQ K KP)
 | .callv g args=>match g.ev ρ with
  | .clo f first caps=>Program.callable P f=true∧zt P f (first++args.map (zu.ev ρ)++caps) H (WQ K KP)
  | _=>False
 | .pan x=>match x.ev ρ with
  | .ifc t y=>KP (.ifc t y) H
  | _=>False
 | _=>False
def Yo (H:zb):Prop:=∃ n,∀ b,n≤b→H b≠none
def Zr (P:Program) (KP:AV→zb→Prop) (o:z6) (ρ:Env) (H:zb) (K:AV→zb→Prop):Prop :=
 match o.cls with
 | .pure=>match zY ρ o with
  | some v=>K v H
  | none=>False
 | .read=>match rev ρ H o with
  | some v=>K v H
  | none=>False
 | .alloc=>match ZN ρ o with
  | some x=>∀ b,H b=none→K (ZC ρ b o) (H.upd b x)
  | none=>Yo H
 | .eff=>eff P KP ρ H K o
structure yj (γ:Gh) (w:World) (ρ:Env) (tmps:Array Value):Prop where
 tab:y1 γ w
 rep:∀ n,Rep γ w (ρ n) (tmps.getD n undef)
theorem yj.mono {γ γ':Gh} {w w':World} (m:Z9 γ w γ' w') {ρ:Env} {tmps:Array Value} (h:yj γ w ρ tmps):yj γ' w' ρ tmps:=⟨h.tab.mono m,fun n=>(h.rep n).mono m⟩
def V3:Value→AV→Bool
 | .bool b,.bool b'=>b==b'
 | .int k n,.int k' n'=>decide (k=k')&&decide (n=n')
 | .string s,.str l=>s.data.toList==l
 | .slice none 0 0,.sl .nil _ []=>true
 | .pointer none,.nilp=>true
 | .map none,.nilm=>true
 | .nilFunc,.oth .nilFunc=>true
 | .nilIface,.oth .nilIface=>true
 | _,_=>false
def yB:List Value→List AV→Bool
 | [],[]=>true
 | v::vs,c::cs=>V3 v c&&yB vs cs
 | _,_=>false
def TS:Value→AV→Bool
 | .agg vs,.agg cs=>yB vs.toList cs
 | v,c=>V3 v c
def zl:Operand→zu→Bool
 | .tmp t,.t n=>t==n
 | .const v,.k c=>TS v c
 | .func f,.k (.clo f' [] [])=>f==f'
 | _,_=>false
theorem SN {v:Value} {c:AV} (h:V3 v c=true):v.oneCell'=true:=by
 unfold V3 at h
 split at h<;>first|rfl|cases h
theorem VN {v:Value} {c:AV} (h:V3 v c=true) (γ:Gh) (w:World):Rep γ w c v:=by
 unfold V3 at h
 split at h
 ·simp at h;subst h;exact .bool _
 ·simp at h;obtain⟨rfl,rfl⟩:=h;exact .int _ _
 ·rename_i s l
  simp at h
  subst h
  exact .str s.data.toList
 ·exact .slnil .nil _ (by simp)
 ·exact .nilp
 ·exact .nilm
 ·exact .oth _
 ·exact .oth _
 ·cases h
theorem Zw:∀ {vs:List Value} {cs:List AV},yB vs cs=true→∀(γ:Gh) (w:World),
  cs.length=vs.length∧(∀(i:Nat) (v:Value),vs[i]?=some v→v.oneCell'=true)∧∀(i:Nat) (c:AV) (v:Value),cs[i]?=some c→vs[i]?=some v→Rep γ w c v
 | [],[],_,γ,w=>by simp
 | [],_::_,h,_,_=>by simp[yB] at h
 | _::_,[],h,_,_=>by simp[yB] at h
 | v::vs,c::cs,h,γ,w=>by
  simp only[yB,zH] at h
  obtain⟨h1,h2,h3⟩:=Zw h.2 γ w
  refine⟨by simp[h1],fun i u hu=>?_,fun i d u hd hu=>?_⟩
  ·cases i with
   | zero=>simp at hu;subst hu;exact SN h.1
   | succ i=>simp at hu;exact h2 i u hu
  ·cases i with
   | zero=>simp at hd hu;subst hd;subst hu;exact VN h.1 γ w
   | succ i=>simp at hd hu;exact h3 i d u hd hu
theorem W0 {v:Value} {c:AV} (h:TS v c=true) (γ:Gh) (w:World):Rep γ w c v:=by
 unfold TS at h
 split at h
 ·rename_i vs cs
  obtain⟨h1,h2,h3⟩:=Zw h γ w
  exact .agg cs vs.toList h1 h2 h3
 ·exact VN h γ w
theorem ze {x:Operand} {y:zu} (h:zl x y=true) {γ:Gh} {w:World} {ρ:Env} {a:Act} (he:yj γ w ρ a.tmps):Rep γ w (y.ev ρ) (a.eval x):=by
 unfold zl at h
 split at h
 ·simp at h;subst h;exact he.rep _
 ·exact W0 h γ w
 ·simp at h;subst h
  exact .clo _ [] [] [] [] rfl rfl (by simp) (by simp)
 ·cases h
def y5:List Operand→List zu→Bool
 | [],[]=>true
 | x::xs,y::ys=>zl x y&&y5 xs ys
 | _,_=>false
theorem Z5:∀ {xs:List Operand} {ys:List zu},y5 xs ys=true→∀ {γ:Gh} {w:World} {ρ:Env} {a:Act},yj γ w ρ a.tmps →
  zv γ w (ys.map (zu.ev ρ)) (xs.map a.eval)
 | [],[],_,_,_,_,_,_=>zv.nil
 | [],_::_,h,_,_,_,_,_=>by simp[y5] at h
 | _::_,[],h,_,_,_,_,_=>by simp[y5] at h
 | x::xs,y::ys,h,_,_,_,_,he=>by
  simp only[y5,zH] at h
  exact zv.cons (ze h.1 he) (Z5 h.2 he)
def zT (P:Program) (o:Oper) (ao:z6):Prop :=
 ∀(γ:Gh) (w:World) (ρ:Env) (a:Act) (c:AV),yj γ w ρ a.tmps→zY ρ ao=some c →
  ∃ v γ' w',(execOp a.eval o).run P w=.ok (.value v) w'∧yV (fun _=>False) γ w γ' w'∧Rep γ' w' c v
theorem zm {P:Program} {o:Oper} {a:Act} {γ:Gh} {w:World} {c:AV} {v:Value} (h:(execOp a.eval o).run P w=.ok (.value v) w) (hr:Rep γ w c v) :
  ∃ v γ' w',(execOp a.eval o).run P w=.ok (.value v) w'∧yV (fun _=>False) γ w γ' w'∧Rep γ' w' c v :=
 ⟨v,γ,w,h,.refl _ _ _,hr⟩
theorem PB {P:Program} {o:Oper} {x:Operand} {y:zu} (ho:o.op=.move x∨o.op=.assign x) (h:zl x y=true):zT P o (.mv y):=by
 intro γ w ρ a c he hc
 simp only[zY,zx] at hc
 subst hc
 exact zm (by rcases ho with ho|ho<;>simp[execOp,ho]) (ze h he)
theorem Qu {P:Program} {o:Oper} {x y z:Operand} {x' y' z':zu} (ho:o.op=.pick x y z) (h:zl x x'=true) (h2:zl y y'=true) (h3:zl z z'=true):zT P o (.pick x' y' z'):=by
 intro γ w ρ a c he hc
 have r1:=ze h he
 have r2:=ze h2 he
 have r3:=ze h3 he
 simp only[zY] at hc
 cases hx:x'.ev ρ<;>simp only[hx] at hc r1<;>try (cases hc;done)
 rename_i t
 simp only[zx] at hc
 subst hc
 generalize hv:a.eval x=v at r1
 cases r1
 cases t
 ·exact zm (v:=a.eval z) (by simp[execOp,ho,hv,asBool]) (by simpa using r3)
 ·exact zm (v:=a.eval y) (by simp[execOp,ho,hv,asBool]) (by simpa using r2)
theorem SP {P:Program} {o:Oper} {x:Operand} {x':zu} (ho:o.op=.nilCheck x) (h:zl x x'=true):zT P o (.nilchk x'):=by
 intro γ w ρ a c he hc
 have r1:=ze h he
 simp only[zY] at hc
 cases hx:x'.ev ρ<;>simp only[hx] at hc r1<;>try (cases hc;done)
 all_goals
  simp only[zx] at hc
  subst hc
  generalize hv:a.eval x=v at r1
  have r1':=r1
  cases r1
  exact zm (by simp[execOp,ho,hv]) r1'
theorem Ut {P:Program} {w:World} (op:BinOp) (k:IntKind) (a b:Int) {c:AV} (h:yR op k a b=some c) (h1:op≠.shl) (h2:op≠.shr) (t:TypeId) (γ:Gh) :
  ∃ v,(binOp op t (.int k a) (.int k b)).run P w=.ok v w∧Rep γ w c v:=by
 cases op
 case shl=>exact absurd rfl h1
 case shr=>exact absurd rfl h2
 case quo =>
  simp only[yR] at h
  split at h
  ·cases h
  ·rename_i hb;simp only[zx] at h;subst h;exact⟨.int k _,by simp[binOp,Op.intDiv,hb];done,.int _ _⟩
 case rem =>
  simp only[yR] at h
  split at h
  ·cases h
  ·rename_i hb;simp only[zx] at h;subst h;exact⟨.int k _,by simp[binOp,Op.intDiv,hb];done,.int _ _⟩
 case add=>simp only[yR,zx] at h;subst h;exact⟨.int k _,by simp[binOp,Op.intArith];done,.int _ _⟩
 case sub=>simp only[yR,zx] at h;subst h;exact⟨.int k _,by simp[binOp,Op.intArith];done,.int _ _⟩
 case mul=>simp only[yR,zx] at h;subst h;exact⟨.int k _,by simp[binOp,Op.intArith];done,.int _ _⟩
 case and=>simp only[yR,zx] at h;subst h;exact⟨.int k _,by simp[binOp,Op.intBits];done,.int _ _⟩
 case or=>simp only[yR,zx] at h;subst h;exact⟨.int k _,by simp[binOp,Op.intBits];done,.int _ _⟩
 case xor=>simp only[yR,zx] at h;subst h;exact⟨.int k _,by simp[binOp,Op.intBits];done,.int _ _⟩
 case andNot=>simp only[yR,zx] at h;subst h;exact⟨.int k _,by simp[binOp,Op.intBits];done,.int _ _⟩
 all_goals (simp only[yR,zx] at h;subst h;exact⟨.bool _,by simp[binOp,Op.intCmp];done,.bool _⟩)
theorem yy {P:Program} {w:World} (op:BinOp) (t:TypeId) (x y:Operand) (u v:Value) (h:∀ cs,u≠.agg cs) (h':u≠.nilIface):(eqGuard op t x y u v).run P w=.ok () w:=by
 unfold eqGuard
 split<;>first|rfl|(cases u<;>first|rfl|(simp at h';done)|(exact absurd rfl (h _))|(simp;done))
theorem Nd {P:Program} {o:Oper} {op:BinOp} {t u:TypeId} {k:IntKind} {x y:Operand} {x' y':zu} (ho:o.op=.binOp op t x y u) (h:zl x x'=true) (h2:zl y y'=true)
  (h3:op≠.shl) (h4:op≠.shr):zT P o (.bi op k x' y'):=by
 intro γ w ρ a c he hc
 have r1:=ze h he
 have r2:=ze h2 he
 simp only[zY] at hc
 cases hx:x'.ev ρ<;>simp only[hx] at hc r1<;>try (cases hc;done)
 cases hy:y'.ev ρ<;>simp only[hy] at hc r2<;>try (cases hc;done)
 rename_i k1 n1 k2 n2
 split at hc
 ·rename_i hk
  obtain⟨rfl,rfl⟩:=hk
  generalize hv:a.eval x=v at r1
  generalize hu:a.eval y=v' at r2
  cases r1
  cases r2
  obtain⟨v,hr,hrep⟩:=Ut (P:=P) (w:=w) op _ _ _ hc h3 h4 t γ
  refine zm ?_ hrep
  simp only[execOp,ho,hv,hu,Sem.run_bind,yy op t x y (.int _ _) _ (by simp) (by simp),Result.andThen_ok,hr,Sem.run_pure]
 ·cases hc
theorem OC {P:Program} {o:Oper} {op:BinOp} {t u:TypeId} {x y:Operand} {x' y':zu} (ho:o.op=.binOp op t x y u) (h:zl x x'=true) (h2:zl y y'=true):zT P o (.shf op x' y'):=by
 intro γ w ρ a c he hc
 have r1:=ze h he
 have r2:=ze h2 he
 simp only[zY] at hc
 cases hx:x'.ev ρ<;>simp only[hx] at hc r1<;>try (cases hc;done)
 cases hy:y'.ev ρ<;>simp only[hy] at hc r2<;>try (cases hc;done)
 generalize hv:a.eval x=v at r1
 generalize hu:a.eval y=v' at r2
 cases r1
 cases r2
 cases op<;>simp only[RR] at hc<;>try (cases hc;done)
 all_goals
  split at hc
  ·cases hc
  ·rename_i hb
   simp only[zx] at hc
   subst hc
   refine zm ?_ (.int _ _)
   simp only[execOp,ho,hv,hu,Sem.run_bind,yy _ t x y (.int _ _) _ (by simp) (by simp),Result.andThen_ok,binOp,Op.shift,hb,if_false,Sem.run_pure]
theorem YY (s:List UInt8):(ByteArray.mk s.toArray).toList=s:=by
 rw[ByteArray.toList_eq]
theorem Y2 (s:List UInt8):(ByteArray.mk s.toArray).size=s.length:=by
 show s.toArray.size=s.length
 simp
theorem Sy (a b:List UInt8):(ByteArray.mk a.toArray)++(ByteArray.mk b.toArray)=ByteArray.mk (a++b).toArray:=by
 apply ByteArray.ext
 simp
theorem NA {P:Program} {o:Oper} {op:BinOp} {t u:TypeId} {x y:Operand} {x' y':zu} (ho:o.op=.binOp op t x y u) (h:zl x x'=true) (h2:zl y y'=true):zT P o (.bs op x' y'):=by
 intro γ w ρ a c he hc
 have r1:=ze h he
 have r2:=ze h2 he
 simp only[zY] at hc
 cases hx:x'.ev ρ<;>simp only[hx] at hc r1<;>try (cases hc;done)
 cases hy:y'.ev ρ<;>simp only[hy] at hc r2<;>try (cases hc;done)
 rename_i s1 s2
 generalize hv:a.eval x=v at r1
 generalize hu:a.eval y=v' at r2
 cases r1
 cases r2
 have key:∃ v,(Op.stringOp op ⟨s1.toArray⟩ ⟨s2.toArray⟩).run P w=.ok v w∧Rep γ w c v:=by
  unfold Rd at hc
  unfold Op.stringOp
  rw[YY,YY,Y2,Y2,Sy]
  cases op<;>simp only[] at hc ⊢<;>try (cases hc;done)
  case add =>
   split at hc
   ·rename_i hl
    simp only[zx] at hc
    subst hc
    refine⟨.string ⟨(s1++s2).toArray⟩,?_,.str _⟩
    have hmax:¬ (((s1.length+s2.length:Nat):Int) > IntKind.i64.max):=by
     simp only[IntKind.max,IntKind.signed,IntKind.bits,if_true];omega
    rw[if_neg hmax]
    rfl
   ·cases hc
  all_goals (simp only[zx] at hc;subst hc;exact⟨.bool _,rfl,.bool _⟩)
 obtain⟨v,hr,hrep⟩:=key
 refine zm ?_ hrep
 have hb:binOp op t (.string ⟨s1.toArray⟩) (.string ⟨s2.toArray⟩)=Op.stringOp op ⟨s1.toArray⟩ ⟨s2.toArray⟩:=by cases op<;>rfl
 simp only[execOp,ho,hv,hu,Sem.run_bind,yy op t x y (.string _) _ (by simp) (by simp),Result.andThen_ok,hb,hr,Sem.run_pure]
theorem Nv {P:Program} {o:Oper} {op:BinOp} {neg:Bool} {t u:TypeId} {x y:Operand} {x' y':zu} (ho:o.op=.binOp op t x y u) (h:zl x x'=true) (h2:zl y y'=true)
  (hop:op=if neg then .neq else .eql) (ht:P.underlying t=some .bool):zT P o (.bb neg x' y'):=by
 intro γ w ρ a c he hc
 have r1:=ze h he
 have r2:=ze h2 he
 simp only[zY] at hc
 cases hx:x'.ev ρ<;>simp only[hx] at hc r1<;>try (cases hc;done)
 cases hy:y'.ev ρ<;>simp only[hy] at hc r2<;>try (cases hc;done)
 rename_i b1 b2
 generalize hv:a.eval x=v at r1
 generalize hu:a.eval y=v' at r2
 cases r1
 cases r2
 simp only[zx] at hc
 subst hc
 have he:(Op.equal t (.bool b1) (.bool b2)).run P w=.ok (b1==b2) w:=by
  unfold Op.equal Op.maxDepth
  rw[Op.equalIn]
  simp[run_underlying ht]
 refine zm (v:=.bool (if neg=true then !(b1==b2) else b1==b2)) ?_ (.bool _)
 cases neg<;>simp only[V6,if_false,if_true] at hop ⊢<;>subst hop <;>
  simp only[execOp,ho,hv,hu,Sem.run_bind,yy _ t x y (.bool _) _ (by simp) (by simp),Result.andThen_ok,binOp,he,Sem.run_pure]
theorem Oq {P:Program} {o:Oper} {t:TypeId} {x:Operand} {x':zu} (ho:o.op=.unOp .not t x) (h:zl x x'=true):zT P o (.not x'):=by
 intro γ w ρ a c he hc
 have r1:=ze h he
 simp only[zY] at hc
 cases hx:x'.ev ρ<;>simp only[hx] at hc r1<;>try (cases hc;done)
 simp only[zx] at hc
 subst hc
 generalize hv:a.eval x=v at r1
 cases r1
 exact zm (v:=.bool _) (by simp[execOp,ho,hv,Op.unary];done) (.bool _)
theorem Pg {P:Program} {o:Oper} {t:TypeId} {x:Operand} {x':zu} (ho:o.op=.unOp .neg t x) (h:zl x x'=true):zT P o (.ineg x'):=by
 intro γ w ρ a c he hc
 have r1:=ze h he
 simp only[zY] at hc
 cases hx:x'.ev ρ<;>simp only[hx] at hc r1<;>try (cases hc;done)
 rename_i k n
 simp only[zx] at hc
 subst hc
 generalize hv:a.eval x=v at r1
 cases r1
 exact zm (v:=.int k (k.wrap (0-n))) (by simp[execOp,ho,hv,Op.unary,Op.intArith];done) (.int _ _)
theorem Ok {P:Program} {o:Oper} {s d:TypeId} {k:IntKind} {x:Operand} {x':zu} {ds:TypeDesc} (ho:o.op=.convert s d x) (h:zl x x'=true) (hs:P.underlying s=some ds) (hd:P.underlying d=some (.int k)) :
  zT P o (.cvi k x'):=by
 intro γ w ρ a c he hc
 have r1:=ze h he
 simp only[zY] at hc
 cases hx:x'.ev ρ<;>simp only[hx] at hc r1<;>try (cases hc;done)
 simp only[zx] at hc
 subst hc
 generalize hv:a.eval x=v at r1
 cases r1
 refine zm (v:=.int k _) ?_ (.int _ _)
 simp[execOp,ho,hv,convert,run_underlying hs,run_underlying hd,Conv.intToInt]
theorem QO {P:Program} {o:Oper} {s d:TypeId} {x:Operand} {x':zu} {ds:TypeDesc} (ho:o.op=.convert s d x) (h:zl x x'=true) (hs:P.underlying s=some ds) (hd:P.underlying d=some .string) :
  zT P o (.cvid x'):=by
 intro γ w ρ a c he hc
 have r1:=ze h he
 simp only[zY] at hc
 cases hx:x'.ev ρ<;>simp only[hx] at hc r1<;>try (cases hc;done)
 simp only[zx] at hc
 subst hc
 generalize hv:a.eval x=v at r1
 cases r1
 refine zm (v:=.string _) ?_ (.str _)
 simp[execOp,ho,hv,convert,run_underlying hs,run_underlying hd]
theorem Qt {P:Program} {o:Oper} {f:FuncId} {first caps:Array Operand} {first' caps':List zu} (ho:o.op=.makeFunc (.func f) first caps) (h:y5 first.toList first'=true) (h':y5 caps.toList caps'=true) :
  zT P o (.mkfn f first' caps'):=by
 intro γ w ρ a c he hc
 have r1:=Z5 h he
 have r2:=Z5 h' he
 simp only[zY,zx] at hc
 subst hc
 refine zm (v:=.func (.func f) (first.toList.map a.eval).toArray (caps.toList.map a.eval).toArray) ?_ (.clo f _ _ _ _ r1.1 r2.1 r1.2 r2.2)
 have e:∀ l:Array Operand,l.map a.eval=(l.toList.map a.eval).toArray:=fun l=>by apply Array.ext';simp
 simp only[execOp,ho,Instr.makeFunc,Sem.run_bind,Sem.run_pure,Result.andThen_ok,e]
theorem P5 {P:Program} {o:Oper} {i:Nat} {x:Operand} {x':zu} (ho:o.op=.extract x i) (h:zl x x'=true):zT P o (.ext x' i):=by
 intro γ w ρ a c he hc
 have r1:=ze h he
 simp only[zY] at hc
 cases hx:x'.ev ρ<;>simp only[hx] at hc r1<;>try (cases hc;done)
 generalize hv:a.eval x=v at r1
 cases r1 with
 | tup cs vs hl hr =>
  have hlt:i<vs.length:=by rw[← hl];exact(yK.1 hc).1
  refine zm (v:=vs[i]) ?_ (hr i c _ hc (Yx hlt))
  simp[execOp,ho,hv,Instr.extract,hlt]
def Zl:Option TypeDesc→Bool
 | some (.interface _)|none=>false
 | _=>true
theorem OG {P:Program} {o:Oper} {t:TypeId} {x:Operand} {x':zu} (ho:o.op=.makeInterface t x) (h:zl x x'=true) (ht:Zl (P.underlying t)=true):zT P o (.mki t x'):=by
 intro γ w ρ a c he hc
 have r1:=ze h he
 simp only[zY,zx] at hc
 subst hc
 refine zm (v:=.iface t (a.eval x)) ?_ (.ifc t _ _ r1)
 cases hd:P.underlying t with
 | none=>simp[hd,Zl] at ht
 | some d=>cases d<;>simp_all [execOp,Instr.makeInterface,run_underlying hd,Zl]
theorem addr_add (b o n:Nat):(⟨b,o,none⟩:Addr).add n=⟨b,o+n,none⟩:=by
 unfold Addr.add;split<;>simp_all
def isIface:Option TypeDesc→Bool
 | some (.interface _)=>true
 | _=>false
theorem Rc {P:Program} {o:Oper} {op:BinOp} {neg:Bool} {t u:TypeId} {x y:Operand} {x':zu} (ho:o.op=.binOp op t x y u) (hop:op=if neg then .neq else .eql) (h:zl x x'=true) (hy:y=.const .nilIface) (ht:isIface (P.underlying t)=true):zT P o (.ifnil neg x'):=by
 intro γ w ρ a c he hc
 have r1:=ze h he
 simp only[zY] at hc
 obtain⟨ms,hms⟩:∃ ms,P.underlying t=some (.interface ms):=by
  unfold isIface at ht
  split at ht
  ·rename_i ms hm;exact⟨ms,hm⟩
  ·cases ht
 subst hy
 have hy:a.eval (.const .nilIface)=.nilIface:=rfl
 cases hx:x'.ev ρ<;>simp only[hx] at hc r1<;>try (cases hc;done)
 ·rename_i v0
  cases v0<;>simp only[] at hc<;>try (cases hc;done)
  simp only[zx] at hc
  subst hc
  generalize hv:a.eval x=v at r1
  cases r1
  refine zm (v:=.bool !neg) ?_ (.bool _)
  have e:(Op.equalIn 10000 t .nilIface .nilIface).run P w=.ok true w:=by
   rw[Op.equalIn];simp[run_underlying hms]
  cases neg<;>simp only[V6,if_false,if_true] at hop<;>subst hop <;>
   simp[execOp,ho,hv,hy,eqGuard,binOp,Op.equal,Op.maxDepth,Sem.run_bind,e,Sem.run_pure,Result.andThen]
 ·rename_i ty cx
  simp only[zx] at hc
  subst hc
  generalize hv:a.eval x=v at r1
  cases r1
  rename_i v1 hr1
  refine zm (v:=.bool neg) ?_ (.bool _)
  have e:(Op.equalIn 10000 t (.iface ty v1) .nilIface).run P w=.ok false w:=by
   rw[Op.equalIn];simp[run_underlying hms]
  cases neg<;>simp only[V6,if_false,if_true] at hop<;>subst hop <;>
   simp[execOp,ho,hv,hy,eqGuard,binOp,Op.equal,Op.maxDepth,Sem.run_bind,e,Sem.run_pure,Result.andThen]
theorem PJ {P:Program} {o:Oper} {xt t:TypeId} {zero:AV} {x:Operand} {x':zu} {ti:TypeInfo} {z:Value} (ho:o.op=.typeAssert x xt t true) (h:zl x x'=true) (ht:Zl (P.underlying t)=true) (hi:P.info? t=some ti) (hz:ti.zero=some z) (hzz:TS z zero=true):zT P o (.tas t zero x'):=by
 intro γ w ρ a c he hc
 have r1:=ze h he
 simp only[zY] at hc
 obtain⟨d,hd⟩:∃ d,P.underlying t=some d:=by
  cases hd:P.underlying t with
  | none=>simp[hd,Zl] at ht
  | some d=>exact⟨d,rfl⟩
 have hni:∀ ms,d≠.interface ms:=fun ms e=>by subst e;simp[hd,Zl] at ht
 have hzr:=W0 hzz γ w
 have hzv:(zeroValue t).run P w=.ok z w:=by
  simp[zeroValue,typeInfo,hi,hz]
 cases hx:x'.ev ρ<;>simp only[hx] at hc r1<;>try (cases hc;done)
 ·rename_i v0
  cases v0<;>simp only[] at hc<;>try (cases hc;done)
  simp only[zx] at hc
  subst hc
  generalize hv:a.eval x=v at r1
  cases r1
  refine zm (v:=.tuple #[z,.bool false]) ?_ (.tup _ [z,.bool false] rfl (zv.cons hzr (zv.cons (.bool _) zv.nil)).2)
  cases d<;>first|exact absurd rfl (hni _)|simp[execOp,ho,hv,Instr.typeAssert,run_underlying hd,Sem.run_bind,hzv,Result.andThen]
 ·rename_i ty cx
  simp only[zx] at hc
  subst hc
  generalize hv:a.eval x=v at r1
  cases r1
  rename_i v1 hr1
  by_cases hty:ty=t
  ·simp only[hty,if_true]
   refine zm (v:=.tuple #[v1,.bool true]) ?_ (.tup _ [v1,.bool true] rfl (zv.cons hr1 (zv.cons (.bool _) zv.nil)).2)
   cases d<;>first|exact absurd rfl (hni _)|simp[execOp,ho,hv,Instr.typeAssert,run_underlying hd,Sem.run_bind,hty,Result.andThen]
  ·simp only[hty,if_false]
   refine zm (v:=.tuple #[z,.bool false]) ?_ (.tup _ [z,.bool false] rfl (zv.cons hzr (zv.cons (.bool _) zv.nil)).2)
   cases d<;>first|exact absurd rfl (hni _)|simp[execOp,ho,hv,Instr.typeAssert,run_underlying hd,Sem.run_bind,hty,hzv,Result.andThen]
theorem NL {P:Program} {o:Oper} {s:TypeId} {x:Operand} {x':zu} {i off:Nat} {fs:Array Field} {f:Field} {fi:TypeInfo} (ho:o.op=.fieldAddr s x i) (h:zl x x'=true) (hs:P.underlying s=some (.struct fs))
  (hf:fs[i]?=some f) (hoff:f.offset=off) (hi:P.info? f.type=some fi) (h0:fi.size≠0):zT P o (.fa off x'):=by
 intro γ w ρ a c he hc
 have r1:=ze h he
 simp only[zY] at hc
 have hrun:∀ b oo,a.eval x=.pointer (some ⟨b,oo,none⟩)→(execOp a.eval o).run P w=.ok (.value (.pointer (some ⟨b,oo+off,none⟩))) w:=by
  intro b oo hv
  simp[execOp,ho,hv,Instr.fieldAt,run_underlying hs,hf,Instr.sureAddr,fieldPlace,sizeOf,typeInfo,hi,h0,hoff,addr_add]
 cases hx:x'.ev ρ<;>simp only[hx] at hc r1<;>try (cases hc;done)
 ·rename_i b oo
  simp only[zx] at hc
  subst hc
  generalize hv:a.eval x=v at r1
  cases r1 with
  | ptr _ _ hlt=>exact zm (hrun b oo hv) (.ptr b _ hlt)
 ·rename_i cs
  simp only[zx] at hc
  subst hc
  generalize hv:a.eval x=v at r1
  cases r1 with
  | view cs b oo cv hcell hr =>
   refine zm (hrun b oo hv) (.view _ b (oo+off) (fun j=>cv (off+j)) (fun j hj=>?_) (fun j c hj=>?_))
   ·have:=hcell (off+j) (by simp at hj;omega)
    rwa [← Nat.add_assoc] at this
   ·rw[List.getElem?_drop] at hj
    exact hr (off+j) c hj
theorem UM (cs:List Value) (off n:Nat) (h:off+n≤cs.length):(cs.toArray.extract off (off+n))=((cs.drop off).take n).toArray:=by
 apply Array.ext'
 simp[List.extract_eq_take_drop]
theorem VD {γ:Gh} {w:World} {cs:List AV} {vs:List Value} (hl:cs.length=vs.length) (hr:∀(i:Nat) (c:AV) (v:Value),cs[i]?=some c→vs[i]?=some v→Rep γ w c v) (off n:Nat) :
  ((cs.drop off).take n).length=((vs.drop off).take n).length ∧
  ∀(i:Nat) (c:AV) (v:Value),((cs.drop off).take n)[i]?=some c→((vs.drop off).take n)[i]?=some v→Rep γ w c v:=by
 refine⟨by simp[hl],fun i c v hc hv=>?_⟩
 rw[Yj] at hc hv
 split at hc
 ·rename_i hi
  rw[if_pos hi] at hv
  rw[List.getElem?_drop] at hc hv
  exact hr _ c v hc hv
 ·cases hc
def YB:Option TypeDesc→Bool
 | some (.struct _)|some (.array _ _)=>true
 | _=>false
theorem YX {P:Program} {w:World} {t:TypeId} {d:TypeDesc} (h:P.underlying t=some d):(isAgg t).run P w=.ok (YB (P.underlying t)) w:=by
 unfold isAgg
 rw[Sem.run_bind,run_underlying h w,h]
 cases d<;>rfl
theorem Rn {γ:Gh} {w:World} {cs:List AV} {vs:List Value} (hl:cs.length=vs.length) (h1:∀(i:Nat) (v:Value),vs[i]?=some v→v.oneCell'=true)
  (hr:∀(i:Nat) (c:AV) (v:Value),cs[i]?=some c→vs[i]?=some v→Rep γ w c v) (off n:Nat) :
  Rep γ w (.agg ((cs.drop off).take n)) (.agg ((vs.drop off).take n).toArray):=by
 obtain⟨h2,h3⟩:=VD hl hr off n
 refine .agg _ _ h2 (fun i v hv=>?_) h3
 rw[Yj] at hv
 split at hv
 ·rw[List.getElem?_drop] at hv;exact h1 _ v hv
 ·cases hv
theorem Oi {P:Program} {o:Oper} {t:TypeId} {x:Operand} {x':zu} {i off n:Nat} {ag:Bool} {fs:Array Field} {f:Field} {fi:TypeInfo} {d:TypeDesc} (ho:o.op=.field t x i) (h:zl x x'=true)
  (ht:P.underlying t=some (.struct fs)) (hf:fs[i]?=some f) (hoff:f.offset=off) (hi:P.info? f.type=some fi) (hn:fi.size=n) (hd:P.underlying f.type=some d) (hag:YB (P.underlying f.type)=ag)
  (h1:ag=true∨n=1):zT P o (.fld off n ag x'):=by
 intro γ w ρ a c he hc
 have r1:=ze h he
 simp only[zY] at hc
 cases hx:x'.ev ρ<;>simp only[hx] at hc r1<;>try (cases hc;done)
 split at hc
 ·rename_i cs hle
  simp only[zx] at hc
  subst hc
  generalize hv:a.eval x=v at r1
  cases r1 with
  | agg _ vs hl ho1 hr =>
   cases ag with
   | true =>
    refine zm (v:=.agg ((vs.drop off).take n).toArray) ?_ (by simpa[mk] using Rn hl ho1 hr off n)
    have hex:=UM vs off n (by omega)
    simp only[execOp,ho,hv,Instr.field,Sem.run_bind,run_underlying ht,Result.andThen_ok,hf,asAgg,Sem.run_pure,part,YX hd,hag,if_true,sizeOf,typeInfo,run_program,hi,hoff,hn,hex]
   | false =>
    have hn1:n=1:=by rcases h1 with h1|h1<;>simp_all
    subst hn1
    have hlt:off<vs.length:=by omega
    have hlt':off<cs.length:=by omega
    have e1:mk false ((cs.drop off).take 1)=cs[off]:=by
     show (List.take 1 (List.drop off cs)).headD .any=_
     rw[List.drop_eq_getElem_cons hlt']
     rfl
    rw[e1]
    refine zm (v:=vs[off]) ?_ (hr off _ _ (Yx hlt') (Yx hlt))
    have e2:vs.toArray[off]?=some vs[off]:=by simp[hlt]
    simp only[execOp,ho,hv,Instr.field,Sem.run_bind,run_underlying ht,Result.andThen_ok,hf,asAgg,Sem.run_pure,part,YX hd,hag,V6,if_false,hoff,e2]
 ·cases hc
theorem Ng {P:Program} {o:Oper} {t e:TypeId} {x y:Operand} {x' y':zu} {sz:Nat} {ei:TypeInfo} (ho:o.op=.indexAddr t x y) (h:zl x x'=true) (h2:zl y y'=true)
  (ht:P.underlying t=some (.slice e)) (hi:P.info? e=some ei) (hsz:ei.size=sz):zT P o (.ia sz x' y'):=by
 intro γ w ρ a c he hc
 have r1:=ze h he
 have r2:=ze h2 he
 simp only[zY] at hc
 have hrun:∀ b oo len cap k (n:Int),a.eval x=.slice (some ⟨b,oo,none⟩) len cap→a.eval y=.int k n→0≤n→n<len→(execOp a.eval o).run P w=.ok (.value (.pointer (some ⟨b,oo+n.toNat*sz,none⟩))) w:=by
  intro b oo len cap k n hv hu h0 hlt
  have hcond:0≤n∧n<(len:Int):=⟨h0,hlt⟩
  simp[execOp,ho,hv,hu,Instr.indexAt,asIntOf,run_underlying ht,hcond,sizeOf,typeInfo,hi,hsz,addr_add]
 cases hx:x'.ev ρ<;>simp only[hx] at hc r1<;>try (cases hc;done)
 all_goals (cases hy:y'.ev ρ<;>simp only[hy] at hc r2<;>try (cases hc;done))
 ·rename_i own sz' xs k n
  split at hc
  ·rename_i hk
   obtain⟨rfl,h0,hlt⟩:=hk
   simp only[zx] at hc
   subst hc
   generalize hv:a.eval x=v at r1
   generalize hu:a.eval y=v' at r2
   cases r2
   cases r1 with
   | slnil _ _ _=>simp at hlt;omega
   | sl0 _ _ _ _=>simp at hlt;omega
   | sl _ _ _ b oo cap cv hcap hm huni hcell hr hown =>
    have hlt':n.toNat<xs.length:=by omega
    have hx':xs[n.toNat]?=some xs[n.toNat]:=Yx hlt'
    have hg:xs.getD n.toNat []=xs[n.toNat]:=by simp[List.getD,hx']
    rw[hg]
    have hlen:(xs[n.toNat]).length=sz':=huni _ (List.getElem_mem hlt')
    refine zm (hrun b oo _ cap k n hv hu h0 hlt) (.view _ b (oo+n.toNat*sz') (cv n.toNat) (fun j hj=>?_) (fun j c hj=>hr _ _ hx' j c hj))
    have:=hcell n.toNat _ hx' j (by omega)
    rwa [← Nat.add_assoc] at this
  ·cases hc
 ·rename_i b oo len cap k n
  split at hc
  ·rename_i hk
   obtain⟨h0,hlt⟩:=hk
   simp only[zx] at hc
   subst hc
   generalize hv:a.eval x=v at r1
   generalize hu:a.eval y=v' at r2
   cases r2
   cases r1 with
   | ms _ _ _ _ hb hcap hm=>exact zm (hrun b oo len cap k n hv hu h0 hlt) (.ptr b _ hb)
  ·cases hc
theorem PV {P:Program} {o:Oper} {t e:TypeId} {x y:Operand} {x' y':zu} {n sz:Nat} {ei:TypeInfo} (ho:o.op=.indexAddr t x y) (h:zl x x'=true) (h2:zl y y'=true)
  (ht:P.underlying t=some (.array n e)) (hi:P.info? e=some ei) (hsz:ei.size=sz):zT P o (.iar n sz x' y'):=by
 intro γ w ρ a c he hc
 have r1:=ze h he
 have r2:=ze h2 he
 simp only[zY] at hc
 have hrun:∀ b oo k (m:Int),a.eval x=.pointer (some ⟨b,oo,none⟩)→a.eval y=.int k m→0≤m→m<n→(execOp a.eval o).run P w=.ok (.value (.pointer (some ⟨b,oo+m.toNat*sz,none⟩))) w:=by
  intro b oo k m hv hu h0 hlt
  have hcond:0≤m∧m<(n:Int):=⟨h0,hlt⟩
  simp[execOp,ho,hv,hu,Instr.indexAt,Instr.sureAddr,asIntOf,run_underlying ht,hcond,sizeOf,typeInfo,hi,hsz,addr_add]
 cases hx:x'.ev ρ<;>simp only[hx] at hc r1<;>try (cases hc;done)
 cases hy:y'.ev ρ<;>simp only[hy] at hc r2<;>try (cases hc;done)
 rename_i b oo k m
 split at hc
 ·rename_i hk
  simp only[zx] at hc
  subst hc
  generalize hv:a.eval x=v at r1
  generalize hu:a.eval y=v' at r2
  cases r2
  cases r1 with
  | ptr _ _ hlt=>exact zm (hrun b oo k m hv hu hk.1 hk.2) (.ptr b _ hlt)
 ·cases hc
theorem PO {P:Program} {o:Oper} {t:TypeId} {x y:Operand} {x' y':zu} (ho:o.op=.index t x y) (h:zl x x'=true) (h2:zl y y'=true) (ht:P.underlying t=some .string):zT P o (.ixs x' y'):=by
 intro γ w ρ a c he hc
 have r1:=ze h he
 have r2:=ze h2 he
 simp only[zY] at hc
 cases hx:x'.ev ρ<;>simp only[hx] at hc r1<;>try (cases hc;done)
 cases hy:y'.ev ρ<;>simp only[hy] at hc r2<;>try (cases hc;done)
 rename_i s k n
 split at hc
 ·rename_i hk
  obtain⟨h0,hlt⟩:=hk
  simp only[zx] at hc
  subst hc
  generalize hv:a.eval x=v at r1
  generalize hu:a.eval y=v' at r2
  cases r1
  cases r2
  have hlt':n.toNat<s.length:=by omega
  have hb:(ByteArray.mk s.toArray)[n.toNat]?=some s[n.toNat]:=by
   rw[getElem?_pos _ _ (by rw[Y2];exact hlt')]
   rfl
  have hg:s.getD n.toNat 0=s[n.toNat]:=by simp[List.getD,hlt']
  rw[hg]
  refine zm (v:=.int .u8 _) ?_ (.int _ _)
  simp[execOp,ho,hv,hu,Instr.index,asIntOf,run_underlying ht,h0,hb]
 ·cases hc
theorem Tk (s:List UInt8) (l h:Nat) (hh:h≤s.length):(ByteArray.mk s.toArray).extract l h=ByteArray.mk ((s.take h).drop l).toArray:=by
 apply ByteArray.ext
 apply Array.ext'
 simp[ByteArray.data_extract,List.extract_eq_take_drop,List.drop_take]
theorem yG {P:Program} {w:World} {γ:Gh} {ρ:Env} {a:Act} {x:Operand} {y:zu} {d:Nat} {n:Int} (hr:Rep γ w (y.ev ρ) (a.eval x)) (h:bound d ρ (some y)=some n) :
  ∃ k,a.eval x=.int k n:=by
 unfold bound at h
 simp only at h
 cases hy:y.ev ρ<;>simp only[hy] at h hr<;>try (cases h;done)
 simp only[zx] at h
 subst h
 generalize hu:a.eval x=v at hr
 cases hr
 exact⟨_,rfl⟩
def Zg:Option Operand→Option zu→Bool
 | none,none=>true
 | some x,some y=>zl x y
 | _,_=>false
theorem yk {P:Program} {w:World} (k:IntKind) (n:Int) (y:Nat) (code:BoundsCode) (h0:0≤n) (h1:n≤y):(Instr.sliceBound (.int k n) y code).run P w=.ok n.toNat w:=by
 have hc:0≤n∧n≤(y:Int):=⟨h0,h1⟩
 simp[Instr.sliceBound,asIntOf,hc]
theorem YO {P:Program} {w:World} {γ:Gh} {ρ:Env} {a:Act} (isSlice:Bool) (len cap:Nat) {lo hi:Option Operand} {lo' hi':Option zu} (hlo:Zg lo lo'=true) (hhi:Zg hi hi'=true)
  (he:yj γ w ρ a.tmps) {l h:Int} (hl:bound 0 ρ lo'=some l) (hh:bound len ρ hi'=some h) (h0:0≤l) (h1:l≤h) (h2:h≤len) (hc:len≤cap) :
  (Instr.sliceBounds isSlice len cap (lo.map a.eval) (hi.map a.eval) none).run P w=.ok (l.toNat,h.toNat,cap) w:=by
 have e1:∀(v:Value),hi.map a.eval=some v→∃ k,v=.int k h:=by
  intro v hv
  cases hi with
  | none=>cases hv
  | some x =>
   cases hi' with
   | none=>cases hhi
   | some y =>
    simp only[yv,zx] at hv
    obtain⟨k,hk⟩:=yG (P:=P) (ze hhi he) hh
    exact⟨k,hv▸hk⟩
 have e2:∀(v:Value),lo.map a.eval=some v→∃ k,v=.int k l:=by
  intro v hv
  cases lo with
  | none=>cases hv
  | some x =>
   cases lo' with
   | none=>cases hlo
   | some y =>
    simp only[yv,zx] at hv
    obtain⟨k,hk⟩:=yG (P:=P) (ze hlo he) hl
    exact⟨k,hv▸hk⟩
 have e3:hi.map a.eval=none→h=len:=by
  intro hv
  cases hi with
  | some x=>cases hv
  | none =>
   cases hi' with
   | some y=>cases hhi
   | none=>simpa[bound] using hh.symm
 have e4:lo.map a.eval=none→l=0:=by
  intro hv
  cases lo with
  | some x=>cases hv
  | none =>
   cases lo' with
   | some y=>cases hlo
   | none=>simpa[bound] using hl.symm
 have b1:∀ k code,(Instr.sliceBound (.int k h) cap code).run P w=.ok h.toNat w:=fun k code=>yk k h cap code (by omega) (by omega)
 have b2:∀ k code,(Instr.sliceBound (.int k l) h.toNat code).run P w=.ok l.toNat w:=fun k code=>yk k l _ code h0 (by omega)
 unfold Instr.sliceBounds
 cases hh':hi.map a.eval with
 | none =>
  have:=e3 hh'
  subst this
  cases hl':lo.map a.eval with
  | none=>have:=e4 hl';subst this;simp
  | some v=>obtain⟨k,rfl⟩:=e2 v hl';simp at b2;simp[b2]
 | some u =>
  obtain⟨k',rfl⟩:=e1 u hh'
  cases hl':lo.map a.eval with
  | none=>have:=e4 hl';subst this;simp[b1]
  | some v=>obtain⟨k,rfl⟩:=e2 v hl';simp[b1,b2]
theorem Oa {P:Program} {o:Oper} {t:TypeId} {x:Operand} {lo hi:Option Operand} {x':zu} {lo' hi':Option zu} (ho:o.op=.slice t x lo hi none) (h:zl x x'=true) (hlo:Zg lo lo'=true) (hhi:Zg hi hi'=true)
  (ht:P.underlying t=some .string):zT P o (.sls x' lo' hi'):=by
 intro γ w ρ a c he hc
 have r1:=ze h he
 simp only[zY] at hc
 cases hx:x'.ev ρ<;>simp only[hx] at hc r1<;>try (cases hc;done)
 rename_i s
 cases hl:bound 0 ρ lo' with
 | none=>simp only[hl] at hc;cases hc
 | some l =>
  cases hh:bound s.length ρ hi' with
  | none=>simp only[hl,hh] at hc;cases hc
  | some hv =>
   simp only[hl,hh] at hc
   split at hc
   ·rename_i hk
    obtain⟨h0,h1,h2⟩:=hk
    simp only[zx] at hc
    subst hc
    generalize hv:a.eval x=v at r1
    cases r1
    refine zm (v:=.string _) ?_ (.str _)
    have hb:=YO (P:=P) false s.length s.length hlo hhi he hl hh h0 h1 h2 (yX _)
    simp only[execOp,ho,hv,Instr.sliceAt,Sem.run_bind,run_underlying ht,Result.andThen_ok,Instr.slice,Option.map_none,Option.isSome_none,V6,if_false,Sem.run_pure,Y2,hb]
    rw[Tk _ _ _ (by omega)]
   ·cases hc
theorem WS {P:Program} {w:World} {o:Oper} {a:Act} {ts:Array TypeId} {x:Operand} (ho:o.op=.call { callee:=.builtin .len,args:=#[x],argTypes:=ts }) {v:Value} {n:Int} (hv:a.eval x=v)
  (hr:(Builtin.len_ ts o.type #[v]).run P w=.ok (.int .i64 n) w):(execOp a.eval o).run P w=.ok (.value (.int .i64 n)) w:=by
 simp[execOp,ho,resolve,invoke,builtin,hv,hr]
theorem QZ {P:Program} {o:Oper} {t:TypeId} {ts:Array TypeId} {x:Operand} {x':zu} (ho:o.op=.call { callee:=.builtin .len,args:=#[x],argTypes:=ts }) (hts:ts[0]?=some t) (h:zl x x'=true)
  (ht:P.underlying t=some .string):zT P o (.lens x'):=by
 intro γ w ρ a c he hc
 have r1:=ze h he
 simp only[zY] at hc
 cases hx:x'.ev ρ<;>simp only[hx] at hc r1<;>try (cases hc;done)
 simp only[zx] at hc
 subst hc
 generalize hv:a.eval x=v at r1
 cases r1
 exact zm (WS ho hv (by simp[Builtin.len_,hts,run_underlying ht,goInt,Y2])) (.int _ _)
theorem P6 {P:Program} {o:Oper} {t e:TypeId} {ts:Array TypeId} {x:Operand} {x':zu} (ho:o.op=.call { callee:=.builtin .len,args:=#[x],argTypes:=ts }) (hts:ts[0]?=some t) (h:zl x x'=true)
  (ht:P.underlying t=some (.slice e)):zT P o (.len x'):=by
 intro γ w ρ a c he hc
 have r1:=ze h he
 simp only[zY] at hc
 cases hx:x'.ev ρ<;>simp only[hx] at hc r1<;>try (cases hc;done)
 all_goals simp only[zx] at hc
 all_goals subst hc
 all_goals generalize hv:a.eval x=v at r1
 all_goals cases r1
 all_goals exact zm (WS ho hv (by simp[Builtin.len_,hts,run_underlying ht,goInt])) (.int _ _)
theorem yp (F:Nat→Prop) (γ:Gh) (w:World) (k:BK) (c:Array Value) (t:TypeId) :
  yV F γ w (fun b=>if b=w.heap.size then k else γ b) (w.alloc (.cells c t)):=by
 have hne:∀ b,b<w.heap.size→b≠w.heap.size:=fun b h=>Nat.ne_of_lt h
 refine⟨⟨by simp,fun b o v hc hp=>?_,fun b arr E fr hb=>?_⟩,rfl,rfl,fun a _=>RowKit.frozen?_alloc_cells w c t a,fun b hb _=>⟨by simp[hne b hb],heap_alloc_old w _ hb⟩⟩
 ·have hlt:=World.block_lt_of_cell? w _ hc
  refine⟨by simpa[y8,hne b hlt] using hp,?_⟩
  rw[World.cell?_alloc_lt _ _ _ hlt];exact hc
 ·have hlt:=(Zj.1 hb).1
  exact⟨arr,by rw[heap_alloc_old w _ hlt];exact hb,rfl⟩
theorem yC (F:Nat→Prop) (γ:Gh) (w:World):yV F γ w γ w.drew :=
 ⟨⟨yX _,fun b o v hc hp=>⟨hp,hc⟩,fun b arr E fr hb=>⟨arr,hb,rfl⟩⟩,rfl,rfl,fun _ _=>rfl,fun b hb _=>⟨rfl,rfl⟩⟩
theorem QX {P:Program} {o:Oper} {t:TypeId} {x:Operand} {x':zu} (ho:o.op=.box t x) (h:zl x x'=true):zT P o (.boxv x'):=by
 intro γ w ρ a c he hc
 have r1:=ze h he
 simp only[zY] at hc
 split at hc
 ·rename_i hb
  simp only[zx] at hc
  subst hc
  obtain⟨hl,h1,hr⟩:=r1.cells hb
  have hext:=yp (fun _=>False) γ w .imm (a.eval x).cells t
  refine⟨.pointer (some ⟨w.heap.size,0,none⟩),_,_,?_,hext,?_⟩
  ·simp[execOp,ho,Instr.box,newVar,newRow]
  ·refine .view _ w.heap.size 0 (fun j=>(a.eval x).cells.toList.getD j undef) (fun j hj=>?_) (fun j d hd=>?_)
   ·rw[hl] at hj
    have hg:(a.eval x).cells.toList[j]?=some (a.eval x).cells.toList[j]:=Yx hj
    have hg':(a.eval x).cells.toList.getD j undef=(a.eval x).cells.toList[j]:=by simp[List.getD,hg]
    rw[hg']
    refine⟨?_,by simp[y8],h1 j _ hg⟩
    rw[World.cell?_alloc_new]
    simp
   ·have hj:j<(a.eval x).cells.toList.length:=by rw[← hl];exact(yK.1 hd).1
    have hg:(a.eval x).cells.toList[j]?=some (a.eval x).cells.toList[j]:=Yx hj
    have hg':(a.eval x).cells.toList.getD j undef=(a.eval x).cells.toList[j]:=by simp[List.getD,hg]
    rw[hg']
    exact(hr j d _ hd hg).mono hext.mono
 ·cases hc
theorem R3 {P:Program} {w:World} {γ:Gh} {ρ:Env} {a:Act} {mx:Bool} {k:IntKind} (he:yj γ w ρ a.tmps):∀(ys:List Operand) (ys':List zu) (n m:Int),y5 ys ys'=true→ZG mx k ρ n ys'=some m →
  ((ys.map a.eval).foldlM (if mx then Builtin.max2 else Builtin.min2) (.int k n)).run P w=.ok (.int k m) w
 | [],[],n,m,_,hm=>by simp only[ZG,zx] at hm;subst hm;rfl
 | [],_::_,_,_,h,_=>by simp[y5] at h
 | _::_,[],_,_,h,_=>by simp[y5] at h
 | y::ys,y'::ys',n,m,h,hm=>by
  simp only[y5,zH] at h
  have r:=ze h.1 he
  simp only[ZG] at hm
  cases hy:y'.ev ρ<;>simp only[hy] at hm r<;>try (cases hm;done)
  rename_i k' b
  split at hm
  ·rename_i hk
   subst hk
   generalize hu:a.eval y=v at r
   cases r
   have ih:=R3 (P:=P) he ys ys' _ m h.2 hm
   simp only[List.map_cons,List.foldlM_cons,hu]
   cases mx
   ·simp only[V6,if_false] at ih ⊢
    simp only[Sem.run_bind,Builtin.min2,Sem.run_pure,Result.andThen_ok]
    simpa[NI] using ih
   ·simp only[if_true] at ih ⊢
    simp only[Sem.run_bind,Builtin.max2,Sem.run_pure,Result.andThen_ok]
    simpa[NI] using ih
  ·cases hm
theorem NE {P:Program} {o:Oper} {ts:Array TypeId} {mx:Bool} {x:Operand} {ys:List Operand} {x':zu} {ys':List zu} {args:Array Operand}
  (ho:o.op=.call { callee:=.builtin (if mx then .max else .min),args:=args,argTypes:=ts }) (ha:args.toList=x::ys) (h:zl x x'=true) (h2:y5 ys ys'=true):zT P o (.mm mx x' ys'):=by
 intro γ w ρ a c he hc
 have r1:=ze h he
 simp only[zY] at hc
 cases hx:x'.ev ρ<;>simp only[hx] at hc r1<;>try (cases hc;done)
 rename_i k n
 generalize hv:a.eval x=v at r1
 cases r1
 cases hm:ZG mx k ρ n ys' with
 | none=>simp[hm] at hc
 | some m =>
  simp only[hm,yv,zx] at hc
  subst hc
  refine zm (v:=.int k m) ?_ (.int _ _)
  have hr:=R3 (P:=P) (mx:=mx) he ys ys' n m h2 hm
  have hargs:args.toList.map a.eval=.int k n::ys.map a.eval:=by rw[ha];simp[hv]
  cases mx
  ·simp only[V6,if_false] at ho hr
   simp[execOp,ho,resolve,invoke,builtin,Builtin.min_,hargs,hr]
  ·simp only[if_true] at ho hr
   simp[execOp,ho,resolve,invoke,builtin,Builtin.max_,hargs,hr]
def K1.isTy (P:Program) (k:K1) (t:TypeId):Bool :=
 match k,P.underlying t with
 | .b,some .bool=>true
 | .s,some .string=>true
 | .i k,some (.int k')=>decide (k=k')
 | _,_=>false
def ZK (P:Program):List Field→Nat→List K1→Bool
 | [],_,[]=>true
 | f :: fs, off, k :: ks => f.name != "_" && f.offset == off && k.isTy P f.type && ZK P fs (off + 1) ks
 | _,_,_=>false
theorem yu {P:Program} {k:K1} {t:TypeId} (h:k.isTy P t=true) (w:World):(isAgg t).run P w=.ok false w:=by
 cases hd:P.underlying t with
 | none=>cases k<;>simp[K1.isTy,hd] at h
 | some d =>
  rw[YX hd,hd]
  cases k<;>cases d<;>simp_all [K1.isTy,YB]
theorem XB {P:Program} {w:World} {γ:Gh} {k:K1} {t:TypeId} {c d:AV} {u v:Value} (hk:k.isTy P t=true) (hc:k.fits c=true) (hd:k.fits d=true) (rc:Rep γ w c u) (rd:Rep γ w d v) (n:Nat) :
  (Op.equalIn (n+1) t u v).run P w=.ok (c.keq1 d) w:=by
 cases k with
 | b =>
  have ht:P.underlying t=some .bool:=by
   cases hu:P.underlying t with
   | none=>simp[K1.isTy,hu] at hk
   | some x=>cases x<;>simp_all [K1.isTy]
  cases c<;>simp[K1.fits] at hc
  cases d<;>simp[K1.fits] at hd
  cases rc;cases rd
  rw[run_equalIn_bool' w n t _ _ ht];rfl
 | s =>
  have ht:P.underlying t=some .string:=by
   cases hu:P.underlying t with
   | none=>simp[K1.isTy,hu] at hk
   | some x=>cases x<;>simp_all [K1.isTy]
  cases c<;>simp[K1.fits] at hc
  cases d<;>simp[K1.fits] at hd
  cases rc;cases rd
  rw[run_equalIn_string w n t _ _ ht,YY,YY];rfl
 | i k =>
  have ht:P.underlying t=some (.int k):=by
   cases hu:P.underlying t with
   | none=>simp[K1.isTy,hu] at hk
   | some x=>cases x<;>simp_all [K1.isTy]
  cases c<;>simp[K1.fits] at hc
  cases d<;>simp[K1.fits] at hd
  subst hc;subst hd
  cases rc;cases rd
  rw[run_equalIn_int w n t _ _ _ _ ht];rfl
theorem Yl {P:Program} {w:World} {γ:Gh} (n:Nat) (xs ys:Array Value):∀(fs:List Field) (off:Nat) (ks:List K1) (as bs:List AV),ZK P fs off ks=true→zJ ks as=true→zJ ks bs=true →
  (∀ i c,as[i]?=some c→∃ v,xs[off+i]?=some v∧Rep γ w c v)→(∀ i c,bs[i]?=some c→∃ v,ys[off+i]?=some v∧Rep γ w c v) →
  (Op.eqFields (n+1) xs ys fs).run P w=.ok (Yh as bs) w
 | [],_,[],[],[],_,_,_,_,_=>rfl
 | [],_,[],_::_,_,_,h,_,_,_=>by simp[zJ] at h
 | [],_,[],[],_::_,_,_,h,_,_=>by simp[zJ] at h
 | [],_,_::_,_,_,h,_,_,_,_=>by simp[ZK] at h
 | _::_,_,[],_,_,h,_,_,_,_=>by simp[ZK] at h
 | _::_,_,_::_,[],_,_,h,_,_,_=>by simp[zJ] at h
 | _::_,_,_::_,_::_,[],_,_,h,_,_=>by simp[zJ] at h
 | f::fs,off,k::ks,a::as,b::bs,hf,ha,hb,hx,hy=>by
  simp only[ZK,zH,bne_iff_ne,ne_eq,beq_iff_eq] at hf
  obtain⟨⟨⟨hname,hoff⟩,hty⟩,hrest⟩:=hf
  simp only[zJ,zH] at ha hb
  obtain⟨u,hu,ru⟩:=hx 0 a rfl
  obtain⟨v,hv,rv⟩:=hy 0 b rfl
  simp only[Nat.add_zero] at hu hv
  have ih:=Yl n xs ys fs (off+1) ks as bs hrest ha.2 hb.2
   (fun i c hc=>by have:=hx (i+1) c (by simpa using hc);rwa [show off+(i+1)=off+1+i by omega] at this)
   (fun i c hc=>by have:=hy (i+1) c (by simpa using hc);rwa [show off+(i+1)=off+1+i by omega] at this)
  have p1:(part f.type xs f.offset).run P w=.ok u w:=by simp[part,yu hty,hoff,hu]
  have p2:(part f.type ys f.offset).run P w=.ok v w:=by simp[part,yu hty,hoff,hv]
  have e1:=XB hty ha.1 hb.1 ru rv n
  simp only[Op.eqFields,hname,not_false_eq_true,ne_eq,if_true,Sem.run_bind,p1,p2,e1,Result.andThen_ok]
  cases hab:a.keq1 b
  ·simp[Yh,hab]
  ·simp[Yh,hab,ih]
theorem Oe {P:Program} {o:Oper} {op:BinOp} {neg:Bool} {t u:TypeId} {x y:Operand} {x' y':zu} {ks:List K1} {fs:Array Field} (ho:o.op=.binOp op t x y u) (h:zl x x'=true) (h2:zl y y'=true)
  (hop:op=if neg then .neq else .eql) (ht:P.underlying t=some (.struct fs)) (hks:ZK P fs.toList 0 ks=true) (hp:P.stoodInHeld t=false) (hg:P.eqGuardType P.depth t=false):zT P o (.eqa neg ks x' y'):=by
 intro γ w ρ a c he hc
 have r1:=ze h he
 have r2:=ze h2 he
 simp only[zY] at hc
 cases hx:x'.ev ρ<;>simp only[hx] at hc r1<;>try (cases hc;done)
 cases hy:y'.ev ρ<;>simp only[hy] at hc r2<;>try (cases hc;done)
 rename_i as bs
 split at hc
 ·rename_i hk
  obtain⟨hk1,hk2⟩:=hk
  simp only[zx] at hc
  subst hc
  generalize hv:a.eval x=v at r1
  generalize hu:a.eval y=v' at r2
  cases r1 with
  | agg _ vs hl h1 hr =>
   cases r2 with
   | agg _ us hl' h1' hr' =>
    have hfo:P.fieldsOf t=fs:=by simp[Program.fieldsOf,ht]
    have hrun:(Op.equalIn 10000 t (.agg vs.toArray) (.agg us.toArray)).run P w=.ok (Yh as bs) w:=by
     rw[run_equalIn_struct w 9999 t _ _ (by rw[hfo];exact ht) hp,hfo]
     refine Yl (γ:=γ) 9998 _ _ fs.toList 0 ks as bs hks hk1 hk2 (fun i c hc=>?_) (fun i c hc=>?_)
     ·have hi:i<vs.length:=by rw[← hl];exact(yK.1 hc).1
      exact⟨vs[i],by simp[hi],hr i c _ hc (Yx hi)⟩
     ·have hi:i<us.length:=by rw[← hl'];exact(yK.1 hc).1
      exact⟨us[i],by simp[hi],hr' i c _ hc (Yx hi)⟩
    refine zm (v:=.bool (if neg=true then !Yh as bs else Yh as bs)) ?_ (.bool _)
    cases neg<;>simp only[V6,if_false,if_true] at hop ⊢<;>subst hop <;>
     simp only[execOp,ho,hv,hu,Sem.run_bind,run_eqGuard_agg w _ t x y _ _ hg,Result.andThen_ok,run_eql_struct,run_neq_struct,hrun,Sem.run_pure]
 ·cases hc
def VM (nk:NK) (d:Option TypeDesc) (y:Operand):Bool :=
 match nk,d,y with
 | .s,some (.slice _),.const (.slice none 0 0)=>true
 | .p,some (.pointer _),.const (.pointer none)=>true
 | .m,some (.map _ _),.const (.map none)=>true
 | .f,some (.func _ _ _),.const .nilFunc=>true
 | _,_,_=>false
theorem RY {P:Program} {o:Oper} {nk:NK} {t u:TypeId} {x y:Operand} {x':zu} (ho:o.op=.binOp .eql t x y u) (h:zl x x'=true) (ht:VM nk (P.underlying t) y=true):zT P o (.isnil nk x'):=by
 intro γ w ρ a c he hc
 have r1:=ze h he
 simp only[zY] at hc
 have fin:∀ v c b,a.eval x=v→(∀ cs,v≠.agg cs)→v≠.nilIface→(Op.equalIn 10000 t v (a.eval y)).run P w=.ok b w→(binOp .eql t v (a.eval y)=do pure (.bool (← Op.equal t v (a.eval y))))→Rep γ w c (.bool b) →
   ∃ v γ' w',(execOp a.eval o).run P w=.ok (.value v) w'∧yV (fun _=>False) γ w γ' w'∧Rep γ' w' c v:=by
  intro v c b hv hna hni hr hb hrep
  refine zm (v:=.bool b) ?_ hrep
  simp only[execOp,ho,hv,Sem.run_bind,yy _ t x y v _ hna hni,Result.andThen_ok,hb,Op.equal,Op.maxDepth,hr,Sem.run_pure]
 unfold VM at ht
 split at ht
 ·rename_i e hu
  cases hx:x'.ev ρ<;>simp only[hx] at hc r1<;>try (cases hc;done)
  rename_i own sz xs
  generalize hv:a.eval x=v at r1
  have hb:∀ b:Option Addr,∀ l k,(Op.equalIn 10000 t (.slice b l k) (.slice none 0 0)).run P w=.ok b.isNone w:=fun b l k=>by
   rw[Op.equalIn];cases b<;>simp[run_underlying hu]
  cases r1 with
  | slnil _ _ hown =>
   refine fin _ c true hv (by simp) (by simp) (hb none 0 0) rfl ?_
   cases own<;>simp only[zx] at hc<;>subst hc<;>first|exact .bool _|exact .ubool _ _ (by simp)
  | sl0 _ _ ad ho0 =>
   refine fin _ c false hv (by simp) (by simp) (hb (some ad) 0 0) rfl ?_
   rcases ho0 with rfl|rfl<;>simp only[zx] at hc<;>subst hc<;>exact .ubool _ _ (by simp)
  | sl _ _ _ b oo cap cv hcap hm huni hcell hr hown =>
   refine fin _ c false hv (by simp) (by simp) (hb (some ⟨b,oo,none⟩) xs.length cap) rfl ?_
   cases own<;>simp only[zx] at hc
   ·subst hc;exact .ubool _ _ (by simp)
   ·exact hown.elim
   ·subst hc;exact .ubool _ _ (by simp)
   ·subst hc;exact .ubool _ _ (by simp)
 ·rename_i e hu
  have hb:∀ b:Option Addr,(Op.equalIn 10000 t (.pointer b) (.pointer none)).run P w=.ok b.isNone w:=fun b=>by
   rw[Op.equalIn];cases b<;>simp[run_underlying hu]
  cases hx:x'.ev ρ<;>simp only[hx] at hc r1<;>try (cases hc;done)
  all_goals
   simp only[zx] at hc
   subst hc
   generalize hv:a.eval x=v at r1
   cases r1
   exact fin _ _ _ hv (by simp) (by simp) (hb _) rfl (.bool _)
 ·rename_i k e hu
  have hb:∀ b:Option Nat,(Op.equalIn 10000 t (.map b) (.map none)).run P w=.ok b.isNone w:=fun b=>by
   rw[Op.equalIn];cases b<;>simp[run_underlying hu]
  cases hx:x'.ev ρ<;>simp only[hx] at hc r1<;>try (cases hc;done)
  all_goals
   simp only[zx] at hc
   subst hc
   generalize hv:a.eval x=v at r1
   cases r1
   exact fin _ _ _ hv (by simp) (by simp) (hb _) rfl (.bool _)
 ·rename_i p q r hu
  cases hx:x'.ev ρ<;>simp only[hx] at hc r1<;>try (cases hc;done)
  ·simp only[zx] at hc
   subst hc
   generalize hv:a.eval x=v at r1
   cases r1
   refine fin _ _ false hv (by simp) (by simp) ?_ rfl (.bool _)
   show (Op.equalIn 10000 t _ .nilFunc).run P w=_
   rw[Op.equalIn];simp[run_underlying hu]
  ·rename_i v0
   cases v0<;>simp only[] at hc<;>try (cases hc;done)
   simp only[zx] at hc
   subst hc
   generalize hv:a.eval x=v at r1
   cases r1
   refine fin _ _ true hv (by simp) (by simp) ?_ rfl (.bool _)
   show (Op.equalIn 10000 t _ .nilFunc).run P w=_
   rw[Op.equalIn];simp[run_underlying hu]
 ·cases ht
theorem QM {P:Program} {o:Oper} {nk:NK} {t u:TypeId} {x y:Operand} {x':zu} (ho:o.op=.binOp .neq t x y u) (h:zl x x'=true) (ht:VM nk (P.underlying t) y=true):zT P o (.isnn nk x'):=by
 intro γ w ρ a c he hc
 have r1:=ze h he
 simp only[zY] at hc
 have fin:∀ v c b,a.eval x=v→(∀ cs,v≠.agg cs)→v≠.nilIface→(Op.equalIn 10000 t v (a.eval y)).run P w=.ok b w→(binOp .neq t v (a.eval y)=do pure (.bool (!(← Op.equal t v (a.eval y)))))→Rep γ w c (.bool !b) →
   ∃ v γ' w',(execOp a.eval o).run P w=.ok (.value v) w'∧yV (fun _=>False) γ w γ' w'∧Rep γ' w' c v:=by
  intro v c b hv hna hni hr hb hrep
  refine zm (v:=.bool !b) ?_ hrep
  simp only[execOp,ho,hv,Sem.run_bind,yy _ t x y v _ hna hni,Result.andThen_ok,hb,Op.equal,Op.maxDepth,hr,Sem.run_pure]
 unfold VM at ht
 split at ht
 ·rename_i e hu
  cases hx:x'.ev ρ<;>simp only[hx] at hc r1<;>try (cases hc;done)
 ·rename_i e hu
  have hb:∀ b:Option Addr,(Op.equalIn 10000 t (.pointer b) (.pointer none)).run P w=.ok b.isNone w:=fun b=>by
   rw[Op.equalIn];cases b<;>simp[run_underlying hu]
  cases hx:x'.ev ρ<;>simp only[hx] at hc r1<;>try (cases hc;done)
  all_goals
   simp only[zx] at hc
   subst hc
   generalize hv:a.eval x=v at r1
   cases r1
   exact fin _ _ _ hv (by simp) (by simp) (hb _) rfl (.bool _)
 ·rename_i k e hu
  have hb:∀ b:Option Nat,(Op.equalIn 10000 t (.map b) (.map none)).run P w=.ok b.isNone w:=fun b=>by
   rw[Op.equalIn];cases b<;>simp[run_underlying hu]
  cases hx:x'.ev ρ<;>simp only[hx] at hc r1<;>try (cases hc;done)
  all_goals
   simp only[zx] at hc
   subst hc
   generalize hv:a.eval x=v at r1
   cases r1
   exact fin _ _ _ hv (by simp) (by simp) (hb _) rfl (.bool _)
 ·rename_i p q r hu
  cases hx:x'.ev ρ<;>simp only[hx] at hc r1<;>try (cases hc;done)
  ·simp only[zx] at hc
   subst hc
   generalize hv:a.eval x=v at r1
   cases r1
   refine fin _ _ false hv (by simp) (by simp) ?_ rfl (.bool _)
   show (Op.equalIn 10000 t _ .nilFunc).run P w=_
   rw[Op.equalIn];simp[run_underlying hu]
  ·rename_i v0
   cases v0<;>simp only[] at hc<;>try (cases hc;done)
   simp only[zx] at hc
   subst hc
   generalize hv:a.eval x=v at r1
   cases r1
   refine fin _ _ true hv (by simp) (by simp) ?_ rfl (.bool _)
   show (Op.equalIn 10000 t _ .nilFunc).run P w=_
   rw[Op.equalIn];simp[run_underlying hu]
 ·cases ht
theorem Xy (vs:Array Value):∀(off:Nat) (cs:List Value),off+vs.size≤cs.length →
  (vs.zipIdx.foldl (fun cs (c,j)=>cs.setIfInBounds (off+j) c) cs.toArray)=(cs.take off++vs.toList++cs.drop (off+vs.size)).toArray:=by
 obtain⟨l⟩:=vs
 intro off cs h
 simp only[List.size_toArray] at h
 have key:∀(l:List Value) (k off:Nat) (cs:List Value),off+k+l.length≤cs.length →
   ((l.zipIdx k).foldl (fun(cs:Array Value) (x:Value×Nat)=>cs.setIfInBounds (off+x.2) x.1) cs.toArray)=(cs.take (off+k)++l++cs.drop (off+k+l.length)).toArray:=by
  intro l
  induction l with
  | nil=>intro k off cs h;simp
  | cons x l ih =>
   intro k off cs h
   simp only[NW] at h
   simp only[List.zipIdx_cons,List.foldl_cons,List.setIfInBounds_toArray]
   rw[ih (k+1) off _ (by simp;omega)]
   congr 1
   have h1:(cs.set (off+k) x).take (off+(k+1))=cs.take (off+k)++[x]:=by
    rw[show off+(k+1)=off+k+1 by omega,List.take_succ_eq_append_getElem (by simp;omega)]
    rw[List.take_set_of_le (by omega)]
    simp
   have h2:(cs.set (off+k) x).drop (off+(k+1)+l.length)=cs.drop (off+k+(l.length+1)):=by
    rw[List.drop_set_of_lt (by omega)]
    congr 1
    omega
   rw[h1,h2]
   simp
 have:=key l 0 off cs (by omega)
 have hz:(l.toArray.zipIdx)=(l.zipIdx 0).toArray:=by simp
 rw[hz,List.foldl_toArray']
 ·simpa using this
 ·simp
def zi (γ:Gh) (w:World) (cs:List AV) (vs:List Value):Prop :=
 cs.length=vs.length∧(∀(i:Nat) (v:Value),vs[i]?=some v→v.oneCell'=true)∧∀(i:Nat) (c:AV) (v:Value),cs[i]?=some c→vs[i]?=some v→Rep γ w c v
theorem zi.append {γ:Gh} {w:World} {cs ds:List AV} {vs us:List Value} (h:zi γ w cs vs) (h':zi γ w ds us):zi γ w (cs++ds) (vs++us) :=
 ⟨by simp[h.1,h'.1],fun i u hu=>by
   rcases Nat.lt_or_ge i vs.length with hi|hi
   ·rw[Y6 hi] at hu;exact h.2.1 i u hu
   ·rw[X4 hi] at hu;exact h'.2.1 _ u hu,
  fun i d u hd hu=>by
   rcases Nat.lt_or_ge i cs.length with hi|hi
   ·rw[Y6 hi] at hd
    rw[Y6 (by rw[← h.1];exact hi)] at hu
    exact h.2.2 i d u hd hu
   ·rw[X4 hi] at hd
    rw[X4 (by rw[← h.1];exact hi),← h.1] at hu
    exact h'.2.2 _ d u hd hu⟩
theorem zi.take {γ:Gh} {w:World} {cs:List AV} {vs:List Value} (h:zi γ w cs vs) (n:Nat):zi γ w (cs.take n) (vs.take n) :=
 ⟨by simp[h.1],fun i u hu=>(by
   rw[Yj] at hu
   split at hu
   ·exact h.2.1 i u hu
   ·cases hu),
  fun i d u hd hu=>by
   rw[Yj] at hd hu
   split at hd
   ·rename_i hi;rw[if_pos hi] at hu;exact h.2.2 i d u hd hu
   ·cases hd⟩
theorem zi.drop {γ:Gh} {w:World} {cs:List AV} {vs:List Value} (h:zi γ w cs vs) (n:Nat):zi γ w (cs.drop n) (vs.drop n) :=
 ⟨by simp[h.1],fun i u hu=>by rw[List.getElem?_drop] at hu;exact h.2.1 _ u hu,
  fun i d u hd hu=>by rw[List.getElem?_drop] at hd hu;exact h.2.2 _ d u hd hu⟩
theorem zi.splice {γ:Gh} {w:World} {cs ds:List AV} {vs us:List Value} (h:zi γ w cs vs) (h':zi γ w ds us) (off:Nat) :
  zi γ w (splice cs off ds) (vs.take off++us++vs.drop (off+us.length)):=by
 unfold Ab.splice
 rw[h'.1]
 exact((h.take off).append h').append (h.drop _)
def ZF (place:Nat→Option (Nat×Nat)):List (Nat×Operand)→List (Nat×Nat×zu)→Bool
 | [],[]=>true
 | (i,x)::r,(off,n,y)::s=>decide (place i=some (off,n))&&zl x y&&ZF place r s
 | _,_=>false
theorem UV {γ:Gh} {w:World} {ρ:Env} {a:Act} (place:Nat→Option (Nat×Nat)) (he:yj γ w ρ a.tmps):∀(ps:List (Nat×Operand)) (qs:List (Nat×Nat×zu)) (cs:List AV) (vs:List Value) (ds:List AV),
  ZF place ps qs=true→Zp ρ cs qs=some ds→zi γ w cs vs →
  ∃ us,Instr.fill place vs.toArray (ps.map fun(i,x)=>(i,a.eval x))=some us.toArray∧zi γ w ds us
 | [],[],cs,vs,ds,_,hd,hr=>by simp only[Zp,zx] at hd;subst hd;exact⟨vs,rfl,hr⟩
 | [],_::_,_,_,_,h,_,_=>by simp[ZF] at h
 | _::_,[],_,_,_,h,_,_=>by simp[ZF] at h
 | (i,x)::ps,(off,n,y)::qs,cs,vs,ds,h,hd,hr=>by
  simp only[ZF,zH,zU] at h
  obtain⟨⟨hp,hxy⟩,hrest⟩:=h
  simp only[Zp] at hd
  split at hd
  ·rename_i hc
   obtain⟨hlen,hle,hbox⟩:=hc
   obtain⟨hl,h1,h2⟩:=(ze hxy he).cells hbox
   have hsz:(a.eval x).cells.size=n:=by rw[← hlen,hl];simp
   obtain⟨us,hu,hru⟩:=UV place he ps qs _ _ ds hrest hd (hr.splice ⟨hl,h1,h2⟩ off)
   refine⟨us,?_,hru⟩
   simp only[List.map_cons,Instr.fill,hp]
   have hcond:¬ ((decide ((a.eval x).cells.size≠n)||decide (off+(a.eval x).cells.size > vs.toArray.size))=true):=by
    simp[hsz,← hr.1];omega
   rw[if_neg hcond,Xy _ off vs (by rw[hsz,← hr.1];omega)]
   simpa using hu
  ·cases hd
theorem zV (sz:Nat):∀(xs:List (List AV)),(∀ x∈xs,x.length=sz)→xs.flatten.length=xs.length*sz
 | [],_=>by simp
 | x::xs,h=>by
  have ih:=zV sz xs fun y hy=>h y (ZL _ hy)
  have hx:=h x (Zc ..)
  simp only[List.flatten_cons,Qn,ih,hx,NW,Nat.add_mul]
  omega
theorem YD (sz:Nat):∀(xs:List (List AV)) (i j:Nat),(∀ x∈xs,x.length=sz)→j<sz→xs.flatten[i*sz+j]?=(xs[i]?).bind (·[j]?)
 | [],i,j,_,_=>by simp
 | x::xs,0,j,h,hj=>by
  have hx:=h x (Zc ..)
  simp only[Nat.zero_mul,Nat.zero_add,List.flatten_cons,List.getElem?_cons_zero,Option.bind_some]
  rw[Y6 (by omega)]
 | x::xs,i+1,j,h,hj=>by
  have hx:=h x (Zc ..)
  have ih:=YD sz xs i j (fun y hy=>h y (ZL _ hy)) hj
  simp only[List.flatten_cons,List.getElem?_cons_succ]
  rw[X4 (by rw[hx,Nat.add_mul];omega),hx,← ih]
  congr 1
  rw[Nat.add_mul]
  omega
theorem Rep.sl_flat {γ:Gh} {w:World} {o:Own} {sz:Nat} {xs:List (List AV)} {us:List Value} {b off cap:Nat} (hu:∀ x∈xs,x.length=sz) (hl:xs.flatten.length=us.length)
  (hrow:∀(k:Nat) (u:Value),us[k]?=some u→CellIs γ w b (off+k) u) (hrel:∀(k:Nat) (c:AV) (u:Value),xs.flatten[k]?=some c→us[k]?=some u→Rep γ w c u)
  (hc:xs.length≤cap) (hm:cap≤maxLen) (ho:YM w o ⟨b,off,none⟩ xs.length cap sz):Rep γ w (.sl o sz xs) (.slice (some ⟨b,off,none⟩) xs.length cap):=by
 have hlen:=zV sz xs hu
 have hin:∀ i x,xs[i]?=some x→∀ j,j<sz→∃ u,us[i*sz+j]?=some u:=by
  intro i x hx j hj
  have hi:i<xs.length:=(yK.1 hx).1
  have h1:i*sz+j<us.length:=by
   rw[← hl,hlen]
   have:(i+1)*sz≤xs.length*sz:=Nat.mul_le_mul_right _ hi
   rw[Nat.add_mul] at this
   omega
  exact⟨us[i*sz+j],Yx h1⟩
 refine .sl o sz xs b off cap (fun i j=>us.getD (i*sz+j) undef) hc hm hu (fun i x hx j hj=>?_) (fun i x hx j c hj=>?_) ho
 ·obtain⟨u,hu'⟩:=hin i x hx j hj
  have:=hrow _ u hu'
  simpa[List.getD,hu'] using this
 ·have hj':j<sz:=by
   have:=(yK.1 hj).1
   rw[hu x (List.mem_of_getElem? hx)] at this
   exact this
  obtain⟨u,hu'⟩:=hin i x hx j hj'
  have:=hrel _ c u (by rw[YD sz xs i j hu hj',hx];exact hj) hu'
  simpa[List.getD,hu'] using this
theorem Rep.flat {γ:Gh} {w:World} {o:Own} {sz:Nat} {xs:List (List AV)} {b off n cap:Nat} (h:Rep γ w (.sl o sz xs) (.slice (some ⟨b,off,none⟩) n cap)) :
  n=xs.length∧(∀ x∈xs,x.length=sz)∧xs.length≤cap∧cap≤maxLen∧YM w o ⟨b,off,none⟩ xs.length cap sz ∧
  ∃ us:List Value,xs.flatten.length=us.length∧(∀(k:Nat) (u:Value),us[k]?=some u→CellIs γ w b (off+k) u) ∧
   ∀(k:Nat) (c:AV) (u:Value),xs.flatten[k]?=some c→us[k]?=some u→Rep γ w c u:=by
 cases h with
 | sl0 _ _ _ ho=>exact⟨rfl,by simp,yX _,Nat.zero_le _,by rcases ho with rfl|rfl<;>simp[YM],[],rfl,by simp,by simp⟩
 | sl _ _ _ _ _ _ cv hc hm hu hcell hr ho =>
  have hlen:=zV sz xs hu
  refine⟨rfl,hu,hc,hm,ho,(List.range (xs.length*sz)).map (fun k=>cv (k / sz) (k % sz)),by simp[hlen],fun k u hk=>?_,fun k c u hck hk=>?_⟩
  ·simp only[yr,Zh] at hk
   obtain⟨k',hk',rfl⟩:=hk
   obtain⟨hlt,rfl⟩:k<xs.length*sz∧k=k':=by
    obtain⟨h1,h2⟩:=yK.1 hk'
    simp at h1 h2
    exact⟨h1,h2⟩
   have hsz:0<sz:=by
    rcases Nat.eq_zero_or_pos sz with h|h;· simp[h] at hlt
    ·exact h
   have hdiv:k / sz<xs.length:=(Nat.div_lt_iff_lt_mul hsz).2 hlt
   have:=hcell (k / sz) _ (Yx hdiv) (k % sz) (Nat.mod_lt _ hsz)
   rwa [Nat.mul_comm,Nat.div_add_mod] at this
  ·simp only[yr,Zh] at hk
   obtain⟨k',hk',rfl⟩:=hk
   obtain⟨hlt,rfl⟩:k<xs.length*sz∧k=k':=by
    obtain⟨h1,h2⟩:=yK.1 hk'
    simp at h1 h2
    exact⟨h1,h2⟩
   have hsz:0<sz:=by
    rcases Nat.eq_zero_or_pos sz with h|h;· simp[h] at hlt
    ·exact h
   have hdiv:k / sz<xs.length:=(Nat.div_lt_iff_lt_mul hsz).2 hlt
   have hg:=YD sz xs (k / sz) (k % sz) hu (Nat.mod_lt _ hsz)
   rw[Nat.mul_comm,Nat.div_add_mod,hck,Yx hdiv] at hg
   exact hr (k / sz) _ (Yx hdiv) (k % sz) c hg.symm
def yq:List (Nat×Operand)→List (Nat×zu)→Bool
 | [],[]=>true
 | (i,x)::r,(k,y)::s=>i==k&&zl x y&&yq r s
 | _,_=>false
theorem YL (sz:Nat) (c:List AV) (hc:c.length=sz):∀(xs:List (List AV)) (i:Nat),(∀ x∈xs,x.length=sz)→i<xs.length→splice xs.flatten (i*sz) c=(xs.set i c).flatten
 | [],_,_,h=>by simp at h
 | x::xs,0,h,_=>by
  have hx:=h x (Zc ..)
  simp[splice,hc,← hx]
 | x::xs,i+1,h,hi=>by
  have hx:=h x (Zc ..)
  have ih:=YL sz c hc xs i (fun y hy=>h y (ZL _ hy)) (by simpa using hi)
  simp only[List.flatten_cons,List.set_cons_succ]
  rw[← ih]
  unfold splice
  have e1:(i+1)*sz=x.length+i*sz:=by rw[Nat.add_mul,hx];omega
  rw[e1,List.take_length_add_append,show x.length+i*sz+c.length=x.length+(i*sz+c.length) by omega,List.drop_length_add_append]
  simp
theorem Ye {γ:Gh} {w:World} {cs:List AV} {vs:List Value} (h:zi γ w cs vs):zi γ w (cs.map AV.strip1) vs :=
 ⟨by simpa using h.1,h.2.1,fun i c v hc hv=>by
  rw[yr] at hc
  cases hx:cs[i]? with
  | none=>simp[hx] at hc
  | some x=>simp only[hx,yv,zx] at hc;subst hc;exact(h.2.2 i x v hx hv).strip1⟩
theorem Ve {γ:Gh} {w:World} {cs:List AV} {vs:List Value} (h:zi γ w cs vs):zi γ w (cs.map AV.strip2) vs :=
 ⟨by simpa using h.1,h.2.1,fun i c v hc hv=>by
  rw[yr] at hc
  cases hx:cs[i]? with
  | none=>simp[hx] at hc
  | some x=>simp only[hx,yv,zx] at hc;subst hc;exact(h.2.2 i x v hx hv).strip2⟩
theorem Y1 {S:AV→AV} (hS:∀ {γ:Gh} {w:World} {cs:List AV} {vs:List Value},zi γ w cs vs→zi γ w (cs.map S) vs) {γ:Gh} {w:World} {ρ:Env} {a:Act} {sz:Nat} (he:yj γ w ρ a.tmps):∀(ps:List (Nat×Operand)) (qs:List (Nat×zu)) (xs:List (List AV)) (vs:List Value) (ys:List (List AV)),
  yq ps qs=true→yH S ρ sz xs qs=some ys→(∀ x∈xs,x.length=sz)→zi γ w xs.flatten vs →
  ∃ us:List Value,Instr.fill (fun i=>some (i*sz,sz)) vs.toArray (ps.map fun(i,x)=>(i,a.eval x))=some us.toArray∧zi γ w ys.flatten us∧(∀ y∈ys,y.length=sz)∧ys.length=xs.length
 | [],[],xs,vs,ys,_,hd,hu,hr=>by simp only[yH,zx] at hd;subst hd;exact⟨vs,rfl,hr,hu,rfl⟩
 | [],_::_,_,_,_,h,_,_,_=>by simp[yq] at h
 | _::_,[],_,_,_,h,_,_,_=>by simp[yq] at h
 | (i,x)::ps,(k,y)::qs,xs,vs,ys,h,hd,hu,hr=>by
  simp only[yq,zH,beq_iff_eq] at h
  obtain⟨⟨rfl,hxy⟩,hrest⟩:=h
  simp only[yH] at hd
  split at hd
  ·rename_i hc
   obtain⟨hlen,hlt,hbox⟩:=hc
   have hcells:zi γ w ((y.ev ρ).cells.map S) (a.eval x).cells.toList:=hS ((ze hxy he).cells hbox)
   have hlen':((y.ev ρ).cells.map S).length=sz:=by simpa using hlen
   have hsz:(a.eval x).cells.size=sz:=by rw[← hlen',hcells.1];simp
   have hfl:=zV sz xs hu
   have hfit:i*sz+sz≤vs.length:=by
    rw[← hr.1,hfl,← Nat.succ_mul]
    exact Nat.mul_le_mul_right _ hlt
   have hspl:=hr.splice hcells (i*sz)
   rw[YL sz _ hlen' xs i hu hlt] at hspl
   obtain⟨us,hus,hru,huy,hly⟩:=Y1 hS he ps qs _ _ ys hrest hd (fun z hz=>by
    rcases List.mem_or_eq_of_mem_set hz with hz|hz
    ·exact hu z hz
    ·rw[hz];exact hlen') hspl
   refine⟨us,?_,hru,huy,by rw[hly];simp⟩
   simp only[List.map_cons,Instr.fill]
   have hcond:¬ ((decide ((a.eval x).cells.size≠sz)||decide (i*sz+(a.eval x).cells.size > vs.toArray.size))=true):=by
    simp[hsz];omega
   rw[if_neg hcond,Xy _ (i*sz) vs (by rw[hsz];exact hfit)]
   simpa using hus
  ·cases hd
theorem y0 (zero:List AV) (n:Nat):∀(k:Nat),k<(List.replicate n zero).flatten.length→(List.replicate n zero).flatten[k]?=zero[k % zero.length]?:=by
 induction n with
 | zero=>simp
 | succ n ih =>
  intro k hk
  simp only[List.replicate_succ,List.flatten_cons,Qn] at hk ⊢
  rcases Nat.lt_or_ge k zero.length with h|h
  ·rw[Y6 h,Nat.mod_eq_of_lt h]
  ·rw[X4 h,ih (k-zero.length) (by omega)]
   congr 1
   rw[Nat.mod_eq_sub_mod h]
theorem Og {P:Program} {o:Oper} {t e:TypeId} {n sz:Nat} {parts:Array (Nat×Operand)} {qs:List (Nat×zu)} {zero:List AV} {ei:TypeInfo} {z:Value} (ho:o.op=.buildSlice t n parts)
  (ht:P.underlying t=some (.slice e)) (hi:P.info? e=some ei) (hz:ei.zero=some z) (hsz:ei.size=sz) (hpos:0<sz) (hsmall:n*sz≤2 ^ 24) (hzero:yB z.cells.toList zero=true)
  (hparts:yq parts.toList qs=true):zT P o (.bls sz n zero qs):=by
 intro γ w ρ a c he hc
 simp only[zY] at hc
 split at hc
 ·rename_i hzl
  cases hf:yH AV.strip1 ρ sz (List.replicate n zero) qs with
  | none=>simp[hf] at hc
  | some ys =>
   simp only[hf,yv,zx] at hc
   subst hc
   obtain⟨hz1,hz2,hz3⟩:=Zw hzero γ w
   have huni:∀ x∈List.replicate n zero,x.length=sz:=fun x hx=>by rw[(List.mem_replicate.1 hx).2];exact hzl
   have hfl:(List.replicate n zero).flatten.length=n*sz:=by rw[zV sz _ huni];simp
   have hzs:z.cells.size=sz:=by have:=hz1;simp at this;omega
   have hstart:zi γ w (List.replicate n zero).flatten ((List.range (n*sz)).map (fun k=>z.cells.toList.getD (k % sz) undef)):=by
    refine⟨by simp[hfl],fun i v hv=>?_,fun i c v hc hv=>?_⟩
    ·simp only[yr,Zh] at hv
     obtain⟨k,_,rfl⟩:=hv
     have hlt:k % sz<z.cells.toList.length:=by simp[hzs];exact Nat.mod_lt _ hpos
     exact hz2 (k % sz) _ (by rw[List.getD,Yx hlt];rfl)
    ·simp only[yr,Zh] at hv
     obtain⟨k,hk,rfl⟩:=hv
     obtain⟨h1,h2⟩:=yK.1 hk
     simp at h1 h2
     subst h2
     rw[y0 zero n i (by rw[hfl];exact h1),hzl] at hc
     have hlt:i % sz<z.cells.toList.length:=by simp[hzs];exact Nat.mod_lt _ hpos
     exact hz3 (i % sz) c _ hc (by rw[List.getD,Yx hlt];rfl)
   obtain⟨us,hus,hru,huy,hly⟩:=Y1 Ye he parts.toList qs _ _ ys hparts hf huni hstart
   have hlen:ys.length=n:=by rw[hly];simp
   have hext:=yp (fun _=>False) γ w .imm us.toArray e
   have hcells:∀ f:Nat→Value,((List.range (n*sz)).map f).toArray=(Array.range (n*sz)).map f:=fun f=>by apply Array.ext';simp
   refine⟨.slice (some ⟨w.heap.size,0,none⟩) n n,_,_,?_,hext,?_⟩
   ·have hstart':(Array.range (n*sz)).map (z.cells[· % z.cells.size]!)=((List.range (n*sz)).map (fun k=>z.cells.toList.getD (k % sz) undef)).toArray:=by
     rw[hcells]
     apply Array.map_congr_left
     intro k hk
     have hlt:k % sz<z.cells.size:=by rw[hzs];exact Nat.mod_lt _ hpos
     rw[hzs]
     simp[List.getD,hlt]
    have hmap:(parts.map fun(x:Nat×Operand)=>(x.1,a.eval x.2)).toList=parts.toList.map fun(i,x)=>(i,a.eval x):=by simp
    have hnot:¬ n*ei.size > 2 ^ 24:=by rw[hsz];omega
    simp only[execOp,ho,Instr.buildSlice,Sem.run_bind,run_underlying ht,Result.andThen_ok,sizeOf,typeInfo,run_program,hi,Sem.run_pure,hsz,zeroValue,hz]
    rw[hsz] at hnot
    rw[← hstart'] at hus
    by_cases hn:n*sz=0
    ·have h0:∀ f:Nat→Value,(Array.range 0).map f=#[]:=fun f=>by apply Array.ext';simp
     rw[hn,h0] at hus
     simp[hn,h0,hus,newRow]
    ·simp[hn,hnot,hus,newRow,zeroValue,typeInfo,hi,hz]
   ·rw[← hlen]
    refine Rep.sl_flat huy hru.1 (fun k u hk=>?_) (fun k c u hc hk=>(hru.2.2 k c u hc hk).mono hext.mono) (by omega) ?_ rfl
    ·refine⟨?_,by simp[y8],hru.2.1 k u hk⟩
     rw[Nat.zero_add,World.cell?_alloc_new]
     simpa using hk
    ·have:n*1≤n*sz:=Nat.mul_le_mul_left _ hpos
     unfold maxLen;omega
 ·cases hc
theorem Q3 {P:Program} {o:Oper} {t e:TypeId} {n sz:Nat} {parts:Array (Nat×Operand)} {qs:List (Nat×zu)} {zero:List AV} {ei:TypeInfo} {z:Value} (ho:o.op=.buildSlice t n parts)
  (ht:P.underlying t=some (.slice e)) (hi:P.info? e=some ei) (hz:ei.zero=some z) (hsz:ei.size=sz) (hpos:0<sz) (hsmall:n*sz≤2 ^ 24) (hzero:yB z.cells.toList zero=true)
  (hparts:yq parts.toList qs=true):zT P o (.bls2 sz n zero qs):=by
 intro γ w ρ a c he hc
 simp only[zY] at hc
 split at hc
 ·rename_i hzl
  cases hf:yH AV.strip2 ρ sz (List.replicate n zero) qs with
  | none=>simp[hf] at hc
  | some ys =>
   simp only[hf,yv,zx] at hc
   subst hc
   obtain⟨hz1,hz2,hz3⟩:=Zw hzero γ w
   have huni:∀ x∈List.replicate n zero,x.length=sz:=fun x hx=>by rw[(List.mem_replicate.1 hx).2];exact hzl
   have hfl:(List.replicate n zero).flatten.length=n*sz:=by rw[zV sz _ huni];simp
   have hzs:z.cells.size=sz:=by have:=hz1;simp at this;omega
   have hstart:zi γ w (List.replicate n zero).flatten ((List.range (n*sz)).map (fun k=>z.cells.toList.getD (k % sz) undef)):=by
    refine⟨by simp[hfl],fun i v hv=>?_,fun i c v hc hv=>?_⟩
    ·simp only[yr,Zh] at hv
     obtain⟨k,_,rfl⟩:=hv
     have hlt:k % sz<z.cells.toList.length:=by simp[hzs];exact Nat.mod_lt _ hpos
     exact hz2 (k % sz) _ (by rw[List.getD,Yx hlt];rfl)
    ·simp only[yr,Zh] at hv
     obtain⟨k,hk,rfl⟩:=hv
     obtain⟨h1,h2⟩:=yK.1 hk
     simp at h1 h2
     subst h2
     rw[y0 zero n i (by rw[hfl];exact h1),hzl] at hc
     have hlt:i % sz<z.cells.toList.length:=by simp[hzs];exact Nat.mod_lt _ hpos
     exact hz3 (i % sz) c _ hc (by rw[List.getD,Yx hlt];rfl)
   obtain⟨us,hus,hru,huy,hly⟩:=Y1 Ve he parts.toList qs _ _ ys hparts hf huni hstart
   have hlen:ys.length=n:=by rw[hly];simp
   have hext:=yp (fun _=>False) γ w .imm us.toArray e
   have hcells:∀ f:Nat→Value,((List.range (n*sz)).map f).toArray=(Array.range (n*sz)).map f:=fun f=>by apply Array.ext';simp
   refine⟨.slice (some ⟨w.heap.size,0,none⟩) n n,_,_,?_,hext,?_⟩
   ·have hstart':(Array.range (n*sz)).map (z.cells[· % z.cells.size]!)=((List.range (n*sz)).map (fun k=>z.cells.toList.getD (k % sz) undef)).toArray:=by
     rw[hcells]
     apply Array.map_congr_left
     intro k hk
     have hlt:k % sz<z.cells.size:=by rw[hzs];exact Nat.mod_lt _ hpos
     rw[hzs]
     simp[List.getD,hlt]
    have hmap:(parts.map fun(x:Nat×Operand)=>(x.1,a.eval x.2)).toList=parts.toList.map fun(i,x)=>(i,a.eval x):=by simp
    have hnot:¬ n*ei.size > 2 ^ 24:=by rw[hsz];omega
    simp only[execOp,ho,Instr.buildSlice,Sem.run_bind,run_underlying ht,Result.andThen_ok,sizeOf,typeInfo,run_program,hi,Sem.run_pure,hsz,zeroValue,hz]
    rw[hsz] at hnot
    rw[← hstart'] at hus
    by_cases hn:n*sz=0
    ·have h0:∀ f:Nat→Value,(Array.range 0).map f=#[]:=fun f=>by apply Array.ext';simp
     rw[hn,h0] at hus
     simp[hn,h0,hus,newRow]
    ·simp[hn,hnot,hus,newRow,zeroValue,typeInfo,hi,hz]
   ·rw[← hlen]
    refine Rep.sl_flat huy hru.1 (fun k u hk=>?_) (fun k c u hc hk=>(hru.2.2 k c u hc hk).mono hext.mono) (by omega) ?_ rfl
    ·refine⟨?_,by simp[y8],hru.2.1 k u hk⟩
     rw[Nat.zero_add,World.cell?_alloc_new]
     simpa using hk
    ·have:n*1≤n*sz:=Nat.mul_le_mul_left _ hpos
     unfold maxLen;omega
 ·cases hc
theorem yZ {γ:Gh} {w:World} {vs:List Value} {cs:List AV} (h:yB vs cs=true):zi γ w cs vs:=let ⟨a,b,c⟩:=Zw h γ w;⟨a,b,c⟩
def Uo (P:Program) (t:TypeId):Option (Nat→Option (Nat×Nat)) :=
 match P.underlying t with
 | some (.array _ e)=>(P.info? e).map fun ie=>fun i=>some (i*ie.size,ie.size)
 | some (.struct fields)=>(fields.toList.mapM (fun f=>(P.info? f.type).map fun i=>(f.offset,i.size))).map fun places=>fun i=>places.toArray[i]?
 | _=>none
theorem Ox {P:Program} {o:Oper} {t:TypeId} {parts:Array (Nat×Operand)} {qs:List (Nat×Nat×zu)} {zero:List AV} {ti:TypeInfo} {z:Value} {place:Nat→Option (Nat×Nat)} (ho:o.op=.build t parts)
  (hi:P.info? t=some ti) (hz:ti.zero=some z) (hzero:yB z.cells.toList zero=true) (hpl:Uo P t=some place) (hparts:ZF place parts.toList qs=true):zT P o (.bld zero qs):=by
 intro γ w ρ a c he hc
 simp only[zY] at hc
 cases hf:Zp ρ zero qs with
 | none=>simp[hf] at hc
 | some ds =>
  simp only[hf,yv,zx] at hc
  subst hc
  obtain⟨us,hus,hr⟩:=UV place he parts.toList qs zero z.cells.toList ds hparts hf (yZ hzero)
  refine zm (v:=.agg us.toArray) ?_ (.agg _ _ hr.1 hr.2.1 hr.2.2)
  have hbuilt:P.built t (parts.map fun(x:Nat×Operand)=>(x.1,a.eval x.2)).toList=some us.toArray:=by
   have hmap:(parts.map fun(x:Nat×Operand)=>(x.1,a.eval x.2)).toList=parts.toList.map fun(i,x)=>(i,a.eval x):=by simp
   rw[hmap]
   unfold Uo at hpl
   unfold Program.built
   cases hd:P.underlying t with
   | none=>simp[hd] at hpl
   | some d =>
    cases d<;>simp only[hd] at hpl<;>try (cases hpl;done)
    ·rename_i n e
     cases hie:P.info? e with
     | none=>simp[hie] at hpl
     | some ie =>
      simp only[hie,yv,zx] at hpl
      subst hpl
      simp only[hi,hz,hie]
      simpa using hus
    ·rename_i fields
     cases hm:fields.toList.mapM (fun f=>(P.info? f.type).map fun i=>(f.offset,i.size)) with
     | none=>simp[hm] at hpl
     | some places =>
      simp only[hm,yv,zx] at hpl
      subst hpl
      simp only[hi,hz,hm]
      simpa using hus
  simp only[execOp,ho,Sem.run_bind,run_build w t _ _ hbuilt,Result.andThen_ok,Sem.run_pure]
theorem Rep.cut {γ:Gh} {w:World} {o:Own} {sz:Nat} {xs:List (List AV)} {ad:Option Addr} {n cap:Nat} (hr:Rep γ w (.sl o sz xs) (.slice ad n cap)) {l h m:Nat} (h1:l≤h) (h2:h≤xs.length) (h3:h≤m) (h4:m≤cap)
  (o':Own) (ho':o'=.no∨(o'=.full∧m=h)∨(o'=o.cut l∧h=xs.length∧m=cap)):Rep γ w (.sl o' sz ((xs.take h).drop l)) (.slice (if m=l then ad else ad.map (·.add (l*sz))) (h-l) (m-l)):=by
 cases hr with
 | slnil _ _ hn =>
  simp only[N4] at h2
  have e1:m=0:=by omega
  have e2:h=0:=by omega
  have e3:l=0:=by omega
  subst e1;subst e2;subst e3
  simp only[List.take_nil,List.drop_nil,if_true,Nat.sub_self]
  exact .slnil o' sz (by
   rcases ho' with rfl|⟨rfl,_⟩|⟨rfl,_⟩
   ·simp
   ·simp
   ·cases o with
    | tip b d=>exact absurd rfl (hn b d)
    | _=>simp[Own.cut])
 | sl0 _ _ ad hn =>
  simp only[N4] at h2
  have e1:m=0:=by omega
  have e2:h=0:=by omega
  have e3:l=0:=by omega
  subst e1;subst e2;subst e3
  simp only[List.take_nil,List.drop_nil,if_true,Nat.sub_self]
  exact .sl0 o' sz ad (by
   rcases ho' with rfl|⟨rfl,_⟩|⟨rfl,_⟩
   ·simp
   ·simp
   ·rcases hn with rfl|rfl<;>simp[Own.cut])
 | sl _ _ _ b off _ cv hc hm hu hcell hrr ho =>
  have hlen:((xs.take h).drop l).length=h-l:=by simp;omega
  have hget:∀ i x,((xs.take h).drop l)[i]?=some x→xs[l+i]?=some x∧l+i<h:=by
   intro i x hx
   rw[List.getElem?_drop,Yj] at hx
   split at hx
   ·rename_i hlt;exact⟨hx,hlt⟩
   ·cases hx
  have hown:YM w o' ⟨b,off+l*sz,none⟩ ((xs.take h).drop l).length (m-l) sz:=by
   rcases ho' with rfl|⟨rfl,rfl⟩|⟨rfl,rfl,rfl⟩
   ·trivial
   ·simpa[YM] using hlen
   ·cases o with
    | no=>trivial
    | nil=>exact ho.elim
    | full =>
     have:xs.length=m:=ho
     show ((xs.take xs.length).drop l).length=m-l
     omega
    | tip b' d =>
     rcases ho with h0|⟨ha,arr,E,hb,hs⟩
     ·exact .inl (by omega)
     ·simp only[Addr.mk.injEq] at ha
      obtain⟨rfl,rfl,_⟩:=ha
      refine .inr ⟨by rw[Nat.add_mul],arr,E,hb,?_⟩
      rw[hs]
      congr 1
      omega
  have hown2:m=l→YM w o' ⟨b,off,none⟩ ((xs.take h).drop l).length (m-l) sz:=by
   intro hml
   rcases ho' with rfl|⟨rfl,rfl⟩|⟨rfl,rfl,rfl⟩
   ·trivial
   ·simpa[YM] using hlen
   ·cases o with
    | no=>trivial
    | nil=>exact ho.elim
    | full =>
     have:xs.length=m:=ho
     show ((xs.take xs.length).drop l).length=m-l
     omega
    | tip b' d=>exact .inl (by omega)
  rw[← hlen]
  split
  ·rename_i hml
   have hnil:(xs.take h).drop l=[]:=List.eq_nil_of_length_eq_zero (by omega)
   refine .sl o' sz _ b off (m-l) (fun _ _=>undef) (by omega) (by omega) (fun x hx=>by rw[hnil] at hx;cases hx) (fun i x hx=>by rw[hnil] at hx;simp at hx) (fun i x hx=>by rw[hnil] at hx;simp at hx) (hown2 hml)
  ·simp only[yv,addr_add]
   refine .sl o' sz _ b (off+l*sz) (m-l) (fun i j=>cv (l+i) j) (by omega) (by omega) (fun x hx=>?_) (fun i x hx j hj=>?_) (fun i x hx j c hj=>?_) hown
   ·exact hu x (List.mem_of_mem_take (List.mem_of_mem_drop hx))
   ·obtain⟨hx',_⟩:=hget i x hx
    have:=hcell (l+i) x hx' j hj
    rw[show off+l*sz+(i*sz+j)=off+((l+i)*sz+j) by rw[Nat.add_mul];omega]
    exact this
   ·obtain⟨hx',_⟩:=hget i x hx
    exact hrr (l+i) x hx' j c hj
theorem Ts {P:Program} {w:World} {γ:Gh} {ρ:Env} {a:Act} (len cap:Nat) {lo hi:Option Operand} {m0:Operand} {lo' hi':Option zu} {m0':zu} (hlo:Zg lo lo'=true) (hhi:Zg hi hi'=true) (hmx:zl m0 m0'=true)
  (he:yj γ w ρ a.tmps) {l h m:Int} (hl:bound 0 ρ lo'=some l) (hh:bound len ρ hi'=some h) (hm:bound 0 ρ (some m0')=some m) (hhs:hi'.isSome=true) (h0:0≤l) (h1:l≤h) (h2:h≤m) (h3:m≤cap) :
  (Instr.sliceBounds true len cap (lo.map a.eval) (hi.map a.eval) (some (a.eval m0))).run P w=.ok (l.toNat,h.toNat,m.toNat) w:=by
 obtain⟨km,hkm⟩:=yG (P:=P) (ze hmx he) hm
 cases hi with
 | none=>cases hi'<;>simp[Zg] at hhi hhs
 | some x =>
  cases hi' with
  | none=>cases hhi
  | some y =>
   obtain⟨kh,hkh⟩:=yG (P:=P) (ze hhi he) hh
   have b0:∀ k code,(Instr.sliceBound (.int k m) cap code).run P w=.ok m.toNat w:=fun k code=>yk k m cap code (by omega) (by omega)
   have b1:∀ k code,(Instr.sliceBound (.int k h) m.toNat code).run P w=.ok h.toNat w:=fun k code=>yk k h _ code (by omega) (by omega)
   have b2:∀ k code,(Instr.sliceBound (.int k l) h.toNat code).run P w=.ok l.toNat w:=fun k code=>yk k l _ code h0 (by omega)
   unfold Instr.sliceBounds
   cases lo with
   | none =>
    cases lo' with
    | some y=>cases hlo
    | none =>
     have:l=0:=by simpa[bound] using hl.symm
     subst this
     simp[hkm,hkh,b0,b1]
   | some x2 =>
    cases lo' with
    | none=>cases hlo
    | some y2 =>
     obtain⟨kl,hkl⟩:=yG (P:=P) (ze hlo he) hl
     simp[hkm,hkh,hkl,b0,b1,b2]
theorem Rep.slice_form {γ:Gh} {w:World} {o:Own} {sz:Nat} {xs:List (List AV)} {v:Value} (h:Rep γ w (.sl o sz xs) v):∃ ad cap,v=.slice ad xs.length cap∧xs.length≤cap:=by
 cases h with
 | slnil _ _ _=>exact⟨none,0,rfl,yX _⟩
 | sl0 _ _ ad _=>exact⟨some ad,0,rfl,yX _⟩
 | sl _ _ _ b off cap cv hc _ _ _ _ _=>exact⟨_,cap,rfl,hc⟩
theorem P8 {P:Program} {o:Oper} {t e:TypeId} {x:Operand} {lo hi mx:Option Operand} {x':zu} {lo' hi' mx':Option zu} {sz:Nat} {ei:TypeInfo} (ho:o.op=.slice t x lo hi mx) (h:zl x x'=true) (hlo:Zg lo lo'=true)
  (hhi:Zg hi hi'=true) (hmx:Zg mx mx'=true) (hsome:mx'.isSome=true→hi'.isSome=true) (ht:P.underlying t=some (.slice e)) (hei:P.info? e=some ei) (hsz:ei.size=sz):zT P o (.sll sz x' lo' hi' mx'):=by
 intro γ w ρ a c he hc
 have r1:=ze h he
 simp only[zY] at hc
 cases hx:x'.ev ρ<;>simp only[hx] at hc r1<;>try (cases hc;done)
 rotate_left
 ·rename_i b off len cap
  generalize hv:a.eval x=v at r1
  cases r1 with
  | ms _ _ _ _ hlt hcap hm =>
   cases mx' with
   | some _=>cases hc
   | none =>
    cases mx with
    | some y=>cases hmx
    | none =>
     cases hl:bound 0 ρ lo' with
     | none=>simp only[hl,W9] at hc;cases hc
     | some l =>
      cases hh:bound len ρ hi' with
      | none=>simp only[hl,hh,W9] at hc;cases hc
      | some hb =>
       simp only[hl,hh,W9] at hc
       split at hc
       ·rename_i hk
        obtain⟨h0,h1,h2⟩:=hk
        simp only[zx] at hc
        subst hc
        have hbnd:=YO (P:=P) true len cap hlo hhi he hl hh h0 h1 h2 hcap
        have hr:Rep γ w (.ms b (if cap=l.toNat then off else off+l.toNat*sz) (hb.toNat-l.toNat) (cap-l.toNat)) (.slice (if cap=l.toNat then some ⟨b,off,none⟩ else (some (⟨b,off,none⟩:Addr)).map (·.add (l.toNat*sz))) (hb.toNat-l.toNat) (cap-l.toNat)):=by
         by_cases h:cap=l.toNat
         ·rw[if_pos h,if_pos h];exact .ms b off _ _ hlt (by omega) (by omega)
         ·rw[if_neg h,if_neg h]
          simp only[yv,addr_add]
          exact .ms b _ _ _ hlt (by omega) (by omega)
        refine zm ?_ hr
        simp only[execOp,ho,hv,Instr.sliceAt,Sem.run_bind,run_underlying ht,Result.andThen_ok,Instr.slice,Option.map_none,hbnd,sizeOf,typeInfo,run_program,hei,Sem.run_pure,hsz]
       ·cases hc
 rename_i own sz' xs
 obtain⟨ad,cap,hv,hcap⟩:=r1.slice_form
 rw[hv] at r1
 cases hl:bound 0 ρ lo' with
 | none=>simp only[hl] at hc;cases hc
 | some l =>
  cases hh:bound xs.length ρ hi' with
  | none=>simp only[hl,hh] at hc;cases mx'<;>simp at hc
  | some hb =>
   cases mx' with
   | none =>
    cases mx with
    | some y=>cases hmx
    | none =>
     simp only[hl,hh] at hc
     split at hc
     ·rename_i hk
      obtain⟨rfl,h0,h1,h2⟩:=hk
      simp only[zx] at hc
      subst hc
      have hbnd:=YO (P:=P) true xs.length cap hlo hhi he hl hh h0 h1 h2 hcap
      refine zm ?_ (r1.cut (l:=l.toNat) (h:=hb.toNat) (m:=cap) (by omega) (by omega) (by omega) (yX _) _ (by
       cases hi' with
       | none=>simp only[bound,zx] at hh;subst hh;exact .inr (.inr ⟨by simp,by simp,rfl⟩)
       | some _=>exact .inl (by simp)))
      simp only[execOp,ho,hv,Instr.sliceAt,Sem.run_bind,run_underlying ht,Result.andThen_ok,Instr.slice,Option.map_none,hbnd,sizeOf,typeInfo,run_program,hei,Sem.run_pure,hsz]
     ·cases hc
   | some m' =>
    cases mx with
    | none=>cases hmx
    | some y =>
     simp only[hl,hh] at hc
     cases hm:m'.ev ρ<;>simp only[hm] at hc<;>try (cases hc;done)
     rename_i km m
     split at hc
     ·rename_i hk
      obtain⟨rfl,h0,h1,h2,h3⟩:=hk
      simp only[zx] at hc
      subst hc
      have hbnd:=Ts (P:=P) xs.length cap hlo hhi hmx he hl hh (m:=m) (by simp[bound,hm]) (hsome rfl) h0 h1 h2 (by omega)
      refine zm ?_ (r1.cut (l:=l.toNat) (h:=hb.toNat) (m:=m.toNat) (by omega) (by omega) (by omega) (by omega) _ ?_)
      ·simp only[execOp,ho,hv,Instr.sliceAt,Sem.run_bind,run_underlying ht,Result.andThen_ok,Instr.slice,yv,hbnd,sizeOf,typeInfo,run_program,hei,Sem.run_pure,hsz]
      ·split
       ·rename_i e;exact .inr (.inl ⟨rfl,by rw[e]⟩)
       ·exact .inl rfl
     ·cases hc
theorem SL (a:Addr) (sz:Nat):a.add (0*sz)=a:=by rw[Nat.zero_mul];cases a;rfl
theorem V5 (ad:Option Addr) (c sz:Nat):(if c=0 then ad else ad.map (·.add (0*sz)))=ad:=by
 split
 ·rfl
 ·cases ad with
  | none=>rfl
  | some a=>simp only[yv,SL]
theorem Ws {P:Program} {w:World} (len cap:Nat) (k:IntKind) (n:Int) (h0:0≤n) (h1:n≤cap):(Instr.sliceBounds true len cap none (some (.int k n)) none).run P w=.ok (0,n.toNat,cap) w:=by
 have b1:∀ code,(Instr.sliceBound (.int k n) cap code).run P w=.ok n.toNat w:=fun code=>yk k n _ code (by omega) (by omega)
 unfold Instr.sliceBounds
 simp[b1]
theorem QQ {P:Program} {o:Oper} {t e:TypeId} {x y:Operand} {x' y':zu} {sz:Nat} {ei:TypeInfo} (ho:o.op=.slice t x none (some y) none) (h:zl x x'=true) (hy:zl y y'=true)
  (ht:P.underlying t=some (.slice e)) (hei:P.info? e=some ei) (hsz:ei.size=sz):zT P o (.sllx sz x' y'):=by
 intro γ w ρ a c he hc
 have r1:=ze h he
 simp only[zY] at hc
 have hlo:Zg (none:Option Operand) (none:Option zu)=true:=rfl
 have hhi:Zg (some y) (some y')=true:=hy
 cases hx:x'.ev ρ<;>simp only[hx] at hc r1<;>try (cases hc;done)
 ·rename_i own sz' xs
  cases hyv:y'.ev ρ<;>simp only[hyv] at hc<;>try (cases hc;done)
  rename_i k n
  split at hc
  ·rename_i hk
   obtain⟨rfl,h0,h1⟩:=hk
   simp only[zx] at hc
   subst hc
   have r2:=r1.strip1
   obtain⟨ad,cap,hv,hcap⟩:=Rep.slice_form r2
   simp only[AV.strip1] at r2
   rw[hv] at r2
   obtain⟨ky,hky⟩:=yG (P:=P) (d:=0) (n:=n) (ze hy he) (by simp[bound,hyv])
   have hbnd:=Ws (P:=P) (w:=w) xs.length cap ky n h0 (by omega)
   have hlen:(xs.take n.toNat).length=n.toNat:=by simp;omega
   have hr:Rep γ w (.slx sz' (xs.take n.toNat) (xs.drop n.toNat)) (.slice ad n.toNat cap):=by
    have:=Rep.slx (γ:=γ) (w:=w) sz' (xs.take n.toNat) (xs.drop n.toNat) ad cap (by
     rw[List.take_append_drop]
     have e:(xs.take n.toNat).length+(xs.drop n.toNat).length=xs.length:=by simp;omega
     rw[e];exact r2)
    rwa [hlen] at this
   refine zm ?_ hr
   simp only[execOp,ho,hv,Instr.sliceAt,Sem.run_bind,run_underlying ht,Result.andThen_ok,Instr.slice,Option.map_none,yv,hky,hbnd,sizeOf,typeInfo,run_program,hei,Sem.run_pure,hsz]
   simp only[Nat.sub_zero,V5]
  ·cases hc
 ·rename_i sz' xs ys
  cases hyv:y'.ev ρ<;>simp only[hyv] at hc<;>try (cases hc;done)
  rename_i k n
  split at hc
  ·rename_i hk
   obtain⟨rfl,h0,h1⟩:=hk
   simp only[zx] at hc
   subst hc
   generalize hv:a.eval x=v at r1
   cases r1 with
   | slx _ _ _ ad cap r2 =>
    obtain⟨ad',cap',hv',hcap⟩:=Rep.slice_form r2
    simp only[Qn] at hv' hcap
    cases hv'
    obtain⟨ky,hky⟩:=yG (P:=P) (d:=0) (n:=n) (ze hy he) (by simp[bound,hyv])
    have hbnd:=Ws (P:=P) (w:=w) xs.length cap ky n h0 (by omega)
    have hlen:((xs++ys).take n.toNat).length=n.toNat:=by simp;omega
    have hr:Rep γ w (.sl .no sz' ((xs++ys).take n.toNat)) (.slice ad n.toNat cap):=by
     have:=Rep.front (xs:=(xs++ys).take n.toNat) r2 ⟨(xs++ys).drop n.toNat,(List.take_append_drop _ _).symm⟩
     rwa [hlen] at this
    refine zm ?_ hr
    simp only[execOp,ho,hv,Instr.sliceAt,Sem.run_bind,run_underlying ht,Result.andThen_ok,Instr.slice,Option.map_none,yv,hky,hbnd,sizeOf,typeInfo,run_program,hei,Sem.run_pure,hsz]
    simp only[Nat.sub_zero,V5]
  ·cases hc
theorem WY {γ:Gh} {w:World}:∀(xs:List (List AV)) (s:List UInt8) (us:List Value),Yw xs=some s→xs.flatten.length=us.length →
  (∀(k:Nat) (c:AV) (u:Value),xs.flatten[k]?=some c→us[k]?=some u→Rep γ w c u)→us=s.map fun c=>.int .u8 c.toNat
 | [],s,us,hb,hl,_=>by
  simp only[Yw,zx] at hb
  subst hb
  simp only[List.flatten_nil,N4] at hl
  simpa using List.eq_nil_of_length_eq_zero hl.symm
 | x::xs,s,us,hb,hl,hr=>by
  unfold Yw at hb
  split at hb
  ·rename_i e;cases e
  ·rename_i n r e
   simp only[List.cons.injEq] at e
   obtain⟨rfl,rfl⟩:=e
   split at hb
   ·rename_i hn
    cases hs:Yw xs with
    | none=>simp[hs] at hb
    | some s' =>
     simp only[hs,yv,zx] at hb
     subst hb
     cases us with
     | nil=>simp at hl
     | cons u us =>
      have h0:=hr 0 (.int .u8 n) u (by simp) (by simp)
      have ih:=WY xs s' us hs (by simpa using hl) (fun k c v hc hv=>hr (k+1) c v (by simpa using hc) (by simpa using hv))
      cases h0
      subst ih
      simp
      omega
   ·cases hb
  ·cases hb
theorem SZ (s:List UInt8):(s.map fun c=>(c.toNat:Int)).foldl (fun r n=>r.push (UInt8.ofNat n.toNat)) ByteArray.empty=⟨s.toArray⟩:=by
 have key:∀(s:List UInt8) (r:ByteArray),(s.map fun c=>(c.toNat:Int)).foldl (fun r n=>r.push (UInt8.ofNat n.toNat)) r=⟨(r.data.toList++s).toArray⟩:=by
  intro s
  induction s with
  | nil=>intro r;simp
  | cons x s ih =>
   intro r
   simp only[List.map_cons,List.foldl_cons,Int.toNat_natCast]
   rw[ih]
   congr 1
   simp[ByteArray.push]
 have:=key s ByteArray.empty
 simpa using this
theorem RF {P:Program} {o:Oper} {s d e:TypeId} {x:Operand} {x':zu} (ho:o.op=.convert s d x) (h:zl x x'=true) (hs:P.underlying s=some (.slice e)) (he8:P.underlying e=some (.int .u8)) (hd:P.underlying d=some .string) :
  zT P o (.cvb2s x'):=by
 intro γ w ρ a c he hc
 have r1:=ze h he
 simp only[zY] at hc
 cases hx:x'.ev ρ<;>simp only[hx] at hc r1<;>try (cases hc;done)
 rename_i own sz xs
 split at hc
 ·rename_i own1 sz1 xs1 heq
  simp only[AV.sl.injEq] at heq
  obtain⟨rfl,rfl,rfl⟩:=heq
  cases hb:Yw xs with
  | none=>simp[hb] at hc
  | some s =>
   simp only[hb,yv,zx] at hc
   subst hc
   have pre:∀ v,a.eval x=v→(∃ ad n k,v=.slice ad n k)→(Conv.bytesToString v).run P w=.ok (.string ⟨s.toArray⟩) w→(execOp a.eval o).run P w=.ok (.value (.string ⟨s.toArray⟩)) w:=by
    rintro v hv ⟨ad,n,k,rfl⟩ hr
    cases ad<;>simp[execOp,ho,hv,convert,run_underlying hs,run_underlying hd,run_underlying he8,hr]
   obtain⟨ad,cap,hv,hcap⟩:=r1.slice_form
   rw[hv] at r1
   refine zm (pre _ hv ⟨_,_,_,rfl⟩ ?_) (.str s)
   cases r1 with
   | slnil _ _ _ =>
    simp only[Yw,zx] at hb
    subst hb
    simp[Conv.bytesToString]
    rfl
   | sl0 _ _ ad _ =>
    simp only[Yw,zx] at hb
    subst hb
    have hld:(loadCells ad 0).run P w=.ok #[] w:=run_loadCells_list w ad [] (by simp)
    exact run_bytesToString w ad 0 0 [] (by rw[hld];rfl)
   | sl _ _ _ b off _ cv hc hm hu hcell hr ho' =>
    obtain⟨_,_,_,_,_,us,hul,hrow,hrel⟩:=(Rep.sl own 1 xs b off cap cv hc hm hu hcell hr ho').flat
    have hus:=WY xs s us hb hul hrel
    have hlen:xs.length=us.length:=by rw[← hul,zV 1 xs hu];omega
    have hld:(loadCells ⟨b,off,none⟩ xs.length).run P w=.ok us.toArray w:=by
     rw[hlen]
     exact run_loadCells_list w ⟨b,off,none⟩ us (fun j v hj=>by rw[addr_add];exact(hrow j v hj).1)
    rw[run_bytesToString w ⟨b,off,none⟩ xs.length cap (s.map fun c=>(c.toNat:Int)) (by rw[hld,hus];simp[Function.comp_def]),SZ]
 ·cases hc
def zG (H:zb) (w:World) (H':zb):Prop:=∀ b,(H' b).isSome=true→(H b).isSome=true∨w.heap.size≤b
def keysOf (H:zb):Nat→Prop:=fun b=>(H b).isSome=true
def Z7 (P:Program) (o:Oper) (ao:z6):Prop :=
 ∀(γ:Gh) (w:World) (H:zb) (ρ:Env) (a:Act) (K KP:AV→zb→Prop) (next:Act→World→Prop) (Q:Exit→Act→World→Prop),
  yj γ w ρ a.tmps→zn γ w H→Zr P KP ao ρ H K →
  (∀ γ' w' H' c v,yV (keysOf H) γ w γ' w'→zn γ' w' H'→zG H w H'→Rep γ' w' c v→K c H'→next (a.put o.dst v) w') →
  (∀ γ' w' H' c v,yV (keysOf H) γ w γ' w'→zn γ' w' H'→zG H w H'→Rep γ' w' c v→KP c H'→Q (.panic [{ v,recovered:=false }]) a w') →
  o.wp P a w next Q
theorem zG.refl (H:zb) (w:World):zG H w H:=fun _ h=>.inl h
theorem zB {P:Program} {o:Oper} {a:Act} {w w':World} {v:Value} {next:Act→World→Prop} {Q:Exit→Act→World→Prop} (h:(execOp a.eval o).run P w=.ok (.value v) w') (hn:next (a.put o.dst v) w'):o.wp P a w next Q:=by
 unfold Oper.wp
 rw[h]
 exact hn
theorem Xj {P:Program} {o:Oper} {a:Act} {w w':World} {next:Act→World→Prop} {Q:Exit→Act→World→Prop} (h:(execOp a.eval o).run P w=.ok .skip w') (hn:next (a.put o.dst undef) w'):o.wp P a w next Q:=by
 unfold Oper.wp
 rw[h]
 exact hn
theorem zo {P:Program} {o:Oper} {ao:z6} (hcls:ao.cls=.pure) (h:zT P o ao):Z7 P o ao:=by
 intro γ w H ρ a K KP next Q he hs hop hn hp
 unfold Zr at hop
 rw[hcls] at hop
 simp only at hop
 cases hv:zY ρ ao with
 | none=>simp[hv] at hop
 | some c =>
  simp only[hv] at hop
  obtain⟨v,γ',w',hr,hext,hrep⟩:=h γ w ρ a c he hv
  exact zB hr (hn γ' w' H c v (hext.weaken fun _ f=>f.elim) (hs.kept hext fun _ _ _ f=>f) (zG.refl _ _) hrep hop)
def Um (P:Program) (o:Oper) (ao:z6):Prop :=
 ∀(γ:Gh) (w:World) (H:zb) (ρ:Env) (a:Act) (c:AV),yj γ w ρ a.tmps→zn γ w H→rev ρ H ao=some c →
  ∃ v,(execOp a.eval o).run P w=.ok (.value v) w∧Rep γ w c v
theorem Xr {P:Program} {o:Oper} {ao:z6} (hcls:ao.cls=.read) (h:Um P o ao):Z7 P o ao:=by
 intro γ w H ρ a K KP next Q he hs hop hn hp
 unfold Zr at hop
 rw[hcls] at hop
 simp only at hop
 cases hv:rev ρ H ao with
 | none=>simp[hv] at hop
 | some c =>
  simp only[hv] at hop
  obtain⟨v,hr,hrep⟩:=h γ w H ρ a c he hs hv
  exact zB hr (hn γ w H c v (.refl _ _ _) hs (zG.refl _ _) hrep hop)
theorem Vf {P:Program} {w:World} {t:TypeId} {ti:TypeInfo} {d:TypeDesc} {n:Nat} {ag:Bool} (hi:P.info? t=some ti) (hn:ti.size=n) (hd:P.underlying t=some d) (hag:YB (P.underlying t)=ag) (h1:ag=true∨n=1)
  (b off:Nat) (us:List Value) (hlen:us.length=n) (hc:∀(j:Nat) (v:Value),us[j]?=some v→w.cell? ⟨b,off+j,none⟩=some v) :
  (loadVar t ⟨b,off,none⟩).run P w=.ok (if ag then .agg us.toArray else us.headD undef) w:=by
 unfold loadVar
 rw[Sem.run_bind,YX hd,hag]
 cases ag with
 | true =>
  have hl:(loadCells ⟨b,off,none⟩ us.length).run P w=.ok us.toArray w:=run_loadCells_list w _ us (fun j v hj=>by rw[addr_add];exact hc j v hj)
  rw[hlen] at hl
  simp[sizeOf,typeInfo,hi,hn,hl]
 | false =>
  have hn1:n=1:=by rcases h1 with h|h<;>simp_all
  subst hn1
  cases us with
  | nil=>simp at hlen
  | cons u us =>
   have h0:=hc 0 u rfl
   simp only[Nat.add_zero] at h0
   simp[h0]
theorem PR {γ:Gh} {w:World} {cs:List AV} {us:List Value} {n:Nat} {ag:Bool} (h1:ag=true∨n=1) (hl:cs.length=n) (h:zi γ w cs us):Rep γ w (mk ag cs) (if ag then .agg us.toArray else us.headD undef):=by
 cases ag with
 | true=>exact .agg _ _ h.1 h.2.1 h.2.2
 | false =>
  have hn1:n=1:=by rcases h1 with h|h<;>simp_all
  subst hn1
  cases cs with
  | nil=>simp at hl
  | cons c cs =>
   cases us with
   | nil=>simp[zi] at h
   | cons u us=>exact h.2.2 0 c u rfl rfl
theorem Pv {P:Program} {o:Oper} {t:TypeId} {x:Operand} {x':zu} {n:Nat} {ag:Bool} {ti:TypeInfo} {d:TypeDesc} (ho:o.op=.load t x) (h:zl x x'=true) (hi:P.info? t=some ti) (hn:ti.size=n) (hd:P.underlying t=some d)
  (hag:YB (P.underlying t)=ag) (h1:ag=true∨n=1):Um P o (.ld n ag x'):=by
 intro γ w H ρ a c he hs hc
 have r1:=ze h he
 simp only[rev] at hc
 have fin:∀ b off us cs,a.eval x=.pointer (some ⟨b,off,none⟩)→cs.length=n→zi γ w cs us→(∀(j:Nat) (v:Value),us[j]?=some v→w.cell? ⟨b,off+j,none⟩=some v)→c=mk ag cs →
   ∃ v,(execOp a.eval o).run P w=.ok (.value v) w∧Rep γ w c v:=by
  intro b off us cs hv hl hr hcell hceq
  subst hceq
  refine⟨_,?_,PR h1 hl hr⟩
  have hrun:=Vf hi hn hd hag h1 b off us (by rw[← hr.1];exact hl) hcell
  simp[execOp,ho,hv,Instr.loadAt,Instr.sureAddr,hrun]
 cases hx:x'.ev ρ<;>simp only[hx] at hc r1<;>try (cases hc;done)
 ·rename_i b off
  cases hb:H b with
  | none=>simp[hb] at hc
  | some ob =>
   cases ob<;>simp only[hb] at hc<;>try (cases hc;done)
   rename_i cs
   split at hc
   ·rename_i hle
    simp only[zx] at hc
    generalize hv:a.eval x=v at r1
    cases r1
    cases hs b _ hb with
    | cells _ vs E hk hbb hl hone hr =>
     have hfr:zi γ w ((cs.drop off).take n) ((vs.drop off).take n):=(zi.drop ⟨hl,hone,hr⟩ off).take n
     refine fin b off _ _ hv (by simp;omega) hfr (fun j u hj=>?_) hc.symm
     rw[Yj] at hj
     split at hj
     ·rw[List.getElem?_drop] at hj
      rw[cell_of_row w b _ _ _ _ hbb]
      simpa using hj
     ·cases hj
   ·cases hc
 ·rename_i cs
  split at hc
  ·rename_i hle
   simp only[zx] at hc
   generalize hv:a.eval x=v at r1
   cases r1 with
   | view _ b off cv hcell hr =>
    refine fin b off ((List.range n).map cv) (cs.take n) hv (by simp;omega) ⟨by simp;omega,fun i u hu=>?_,fun i c u hc hu=>?_⟩ (fun j u hj=>?_) hc.symm
    ·simp only[yr,Zh] at hu
     obtain⟨k,hk,rfl⟩:=hu
     obtain⟨h1,h2⟩:=yK.1 hk
     simp at h1 h2
     exact(hcell k (by omega)).2.2
    ·simp only[yr,Zh] at hu
     obtain⟨k,hk,rfl⟩:=hu
     obtain⟨h1,h2⟩:=yK.1 hk
     simp at h1 h2
     subst h2
     rw[Yj,if_pos h1] at hc
     exact hr i _ hc
    ·simp only[yr,Zh] at hj
     obtain⟨k,hk,rfl⟩:=hj
     obtain⟨h1,h2⟩:=yK.1 hk
     simp at h1 h2
     subst h2
     exact(hcell j (by omega)).1
  ·cases hc
theorem TG (F:Nat→Prop) (γ:Gh) (w:World) (k:BK) (es:Array MapEntry) (clock:Nat) :
  yV F γ w (fun b=>if b=w.heap.size then k else γ b) (w.alloc (.map es clock)):=by
 have hne:∀ b,b<w.heap.size→b≠w.heap.size:=fun b h=>Nat.ne_of_lt h
 have hold:∀ b,b<w.heap.size→(w.alloc (.map es clock)).heap[b]?=w.heap[b]?:=fun b hb=>heap_alloc_old w _ hb
 refine⟨⟨by simp,fun b o v hc hp=>?_,fun b arr E fr hb=>?_⟩,rfl,rfl,fun a _=>?_,fun b hb _=>⟨by simp[hne b hb],hold b hb⟩⟩
 ·have hlt:=World.block_lt_of_cell? w _ hc
  refine⟨by simpa[y8,hne b hlt] using hp,?_⟩
  rw[World.cell?_alloc_lt _ _ _ hlt];exact hc
 ·have hlt:=(Zj.1 hb).1
  exact⟨arr,by rw[hold b hlt];exact hb,rfl⟩
 ·by_cases h:a.block=w.heap.size
  ·have e1:(w.alloc (.map es clock)).heap[a.block]?=some (.map es clock):=by rw[h];exact heap_alloc_new w _
   have e2:w.heap[a.block]?=none:=by rw[h];simp
   simp[World.frozen?,e1,e2]
  ·exact World.frozen?_alloc_old _ _ _ h
theorem yo {γ γ':Gh} {w w':World} {H:zb} {x:yf} {F:Nat→Prop} (hs:zn γ w H) (hext:yV (fun _=>False) γ w γ' w') (hx:Zo γ' w' w.heap.size x):zn γ' w' (H.upd w.heap.size x):=by
 intro b o hb
 unfold zb.upd at hb
 split at hb
 ·rename_i e;subst e;simp only[zx] at hb;subst hb;exact hx
 ·exact hs.kept hext (fun _ _ _ f=>f) b o hb
theorem yc {H:zb} {w:World} {x:yf}:zG H w (H.upd w.heap.size x):=by
 intro b hb
 unfold zb.upd at hb
 split at hb
 ·rename_i e;exact .inr (by omega)
 ·exact .inl hb
theorem yd {γ:Gh} {w:World} {H:zb} (hs:zn γ w H):H w.heap.size=none:=by
 cases h:H w.heap.size with
 | none=>rfl
 | some o=>exact absurd (hs _ _ h).lt (Nat.lt_irrefl _)
theorem yP {γ:Gh} {w:World} {H:zb} (hs:zn γ w H):¬ Yo H:=fun⟨n,h⟩=>by
 cases hb:H (max n w.heap.size) with
 | none=>exact h _ (Nat.le_max_left ..) hb
 | some o=>have:=(hs _ _ hb).lt;omega
theorem Ql {P:Program} {o:Oper} {t:TypeId} {zero:List AV} {ti:TypeInfo} {z:Value} (ho:o.op=.alloc t) (hi:P.info? t=some ti) (hz:ti.zero=some z) (hzero:yB z.cells.toList zero=true):Z7 P o (.alloc zero):=by
 intro γ w H ρ a K KP next Q he hs hop hn hp
 simp only[Zr,z6.cls,ZN,ZC] at hop
 have hext:=yp (fun _=>False) γ w .own z.cells t
 have hf:=yZ (γ:=fun b=>if b=w.heap.size then BK.own else γ b) (w:=w.alloc (.cells z.cells t)) hzero
 refine zB (v:=.pointer (some ⟨w.heap.size,0,none⟩)) ?_ (hn _ _ _ _ _ (hext.weaken fun _ f=>f.elim) (yo (F:=fun _=>False) hs hext (.cells zero z.cells.toList t (by simp) ?_ hf.1 hf.2.1 hf.2.2)) yc (.ptr _ 0 (by simp)) (hop _ (yd hs)))
 ·simp[execOp,ho,Instr.alloc,zeroValue,typeInfo,hi,hz,newVar,newRow]
 ·rw[heap_alloc_new]
theorem On {P:Program} {o:Oper} {t:TypeId} {x:Operand} {x':zu} (ho:o.op=.box t x) (h:zl x x'=true):Z7 P o (.box x'):=by
 intro γ w H ρ a K KP next Q he hs hop hn hp
 simp only[Zr,z6.cls,ZN,ZC] at hop
 split at hop
 ·rename_i ob hob
  split at hob
  ·rename_i hbox
   simp only[zx] at hob
   subst hob
   have hext:=yp (fun _=>False) γ w .own (a.eval x).cells t
   obtain⟨hl,h1,hr⟩:=((ze h he).mono hext.mono).cells hbox
   refine zB (v:=.pointer (some ⟨w.heap.size,0,none⟩)) ?_ (hn _ _ _ _ _ (hext.weaken fun _ f=>f.elim) (yo (F:=fun _=>False) hs hext (.cells _ (a.eval x).cells.toList t (by simp) ?_ hl h1 hr)) yc (.ptr _ 0 (by simp)) (hop _ (yd hs)))
   ·simp[execOp,ho,Instr.box,newVar,newRow]
   ·rw[heap_alloc_new]
  ·cases hob
 ·exact(yP hs hop).elim
theorem OF {P:Program} {o:Oper} {t:TypeId} {kt:KT} (ho:o.op=.makeMap t none):Z7 P o (.mkm kt):=by
 intro γ w H ρ a K KP next Q he hs hop hn hp
 simp only[Zr,z6.cls,ZN,ZC] at hop
 have hext:=TG (fun _=>False) γ w .own #[] 0
 refine zB (v:=.map (some w.heap.size)) ?_ (hn _ _ _ _ _ (hext.weaken fun _ f=>f.elim) (yo (F:=fun _=>False) hs hext (.map kt [] [] 0 (by simp) (by simp) ?_ rfl (by simp))) yc (.mp _ (by simp)) (hop _ (yd hs)))
 ·simp[execOp,ho,Instr.makeMap]
 ·rw[heap_alloc_new]
theorem QJ {P:Program} {o:Oper} {f:FuncId} {args:Array Operand} {args':List zu} {ts:Array TypeId} (ho:o.op=.call { callee:=.value (.func f),args:=args,argTypes:=ts }) (h:y5 args.toList args'=true) (hf:Program.callable P f=true) :
  Z7 P o (.call f args'):=by
 intro γ w H ρ a K KP next Q he hs hop hn hp
 simp only[Zr,z6.cls,eff] at hop
 have hargs:=Z5 h he
 have hc:=hop γ w _ he.tab hs hargs
 unfold Program.callable at hf
 cases hfn:P.funcs[f]? with
 | none=>simp[hfn] at hf
 | some fn =>
  simp only[hfn,zH,bne_iff_ne,ne_eq] at hf
  obtain⟨hbody,hname⟩:=hf
  obtain⟨bd,hb⟩:=Yv.1 hbody
  have hmap:args.map a.eval=(args.toList.map a.eval).toArray:=by apply Array.ext';simp
  have hrun:(execOp a.eval o).run P w=.ok (.enter f (args.toList.map a.eval).toArray) w:=by
   simp[execOp,ho,resolve,Act.eval,Deferred.ofValue,invoke,callFunc,hfn,hname,hb,hmap]
  unfold Oper.wp
  rw[hrun]
  refine Calls.mono hc fun e w' ⟨γ',H',r,hext,hst,hnew,hend,hq⟩=>?_
  cases e with
  | returned v =>
   cases r with
   | ret c=>exact hn γ' w' H' c v hext hst hnew hend hq
   | pan c=>exact hend.elim
  | panicked ch =>
   cases r with
   | ret c=>exact hend.elim
   | pan c =>
    obtain⟨v,rfl,hrep⟩:=hend
    exact hp γ' w' H' c v hext hst hnew hrep hq
  | outgrown=>cases r<;>exact hend.elim
theorem R7 {P:Program} {o:Oper} {g:Operand} {g':zu} {args:Array Operand} {args':List zu} {ts:Array TypeId} (ho:o.op=.call { callee:=.value g,args:=args,argTypes:=ts }) (hg:zl g g'=true) (h:y5 args.toList args'=true) :
  Z7 P o (.callv g' args'):=by
 intro γ w H ρ a K KP next Q he hs hop hn hp
 simp only[Zr,z6.cls,eff] at hop
 have r1:=ze hg he
 cases hx:g'.ev ρ<;>simp only[hx] at hop r1<;>try (exact hop.elim)
 rename_i f first caps
 obtain⟨hf,hop⟩:=hop
 generalize hv:a.eval g=v at r1
 cases r1 with
 | clo _ _ _ vs us hl hl' hr hr' =>
  have hargs:=Z5 h he
  have hall:zv γ w (first++args'.map (zu.ev ρ)++caps) (vs++args.toList.map a.eval++us):=(zv.append ⟨hl,hr⟩ hargs).append ⟨hl',hr'⟩
  have hc:=hop γ w _ he.tab hs hall
  unfold Program.callable at hf
  cases hfn:P.funcs[f]? with
  | none=>simp[hfn] at hf
  | some fn =>
   simp only[hfn,zH,bne_iff_ne,ne_eq] at hf
   obtain⟨hbody,hname⟩:=hf
   obtain⟨bd,hb⟩:=Yv.1 hbody
   have hmap:vs.toArray++args.map a.eval++us.toArray=(vs++args.toList.map a.eval++us).toArray:=by apply Array.ext';simp
   have hrun:(execOp a.eval o).run P w=.ok (.enter f (vs++args.toList.map a.eval++us).toArray) w:=by
    rw[← hmap]
    simp only[execOp,ho,resolve,hv,Deferred.ofValue,Sem.run_bind,Sem.run_pure,Result.andThen_ok,invoke,callFunc,run_program,hfn]
    simp[hname,hb]
   unfold Oper.wp
   rw[hrun]
   refine Calls.mono hc fun e w' ⟨γ',H',r,hext,hst,hnew,hend,hq⟩=>?_
   cases e with
   | returned v =>
    cases r with
    | ret c=>exact hn γ' w' H' c v hext hst hnew hend hq
    | pan c=>exact hend.elim
   | panicked ch =>
    cases r with
    | ret c=>exact hend.elim
    | pan c =>
     obtain⟨v,rfl,hrep⟩:=hend
     exact hp γ' w' H' c v hext hst hnew hrep hq
   | outgrown=>cases r<;>exact hend.elim
theorem PF {P:Program} {o:Oper} {x:Operand} {x':zu} (ho:o.op=.panic x) (h:zl x x'=true):Z7 P o (.pan x'):=by
 intro γ w H ρ a K KP next Q he hs hop hn hp
 simp only[Zr,z6.cls,eff] at hop
 have r1:=ze h he
 cases hx:x'.ev ρ<;>simp only[hx] at hop r1<;>try (exact hop.elim)
 rename_i t y
 generalize hv:a.eval x=v at r1
 have r2:=r1
 cases r1 with
 | ifc _ _ u hr =>
  have hrun:(execOp a.eval o).run P w=.halt (.panic (.iface t u)) w:=by
   simp[execOp,ho,hv,Instr.panic]
  unfold Oper.wp
  rw[hrun]
  exact hp γ w H _ _ (.refl _ _ _) hs (zG.refl _ _) r2 hop
theorem ZB (w:World) (b:Nat) (cs:Array Value) (old:Array Value) (E:TypeId) (fr:Nat×Nat) (h:w.heap[b]?=some (.cells old E fr)):(w.setRow b cs).heap[b]?=some (.cells cs E fr):=setRow_heap w b old cs E fr h
theorem Yp {F:Nat→Prop} {γ γ':Gh} {w:World} {b:Nat} {old cs:Array Value} {E:TypeId} (hb:w.heap[b]?=some (.cells old E (0,0))) (hsz:cs.size=old.size) (hF:F b)
  (hk:∀ o,y8 γ b o→y8 γ' b o∧cs[o]?=old[o]?) (hg:∀ c,c≠b→γ' c=γ c):yV F γ w γ' (w.setRow b cs):=by
 have hother:∀ c,c≠b→(w.setRow b cs).heap[c]?=w.heap[c]?:=fun c hc=>setRow_other w b c cs (by omega)
 have hself:(w.setRow b cs).heap[b]?=some (.cells cs E (0,0)):=ZB w b cs old E _ hb
 refine⟨⟨by simp,fun c o v hc hp=>?_,fun c arr E' fr hc=>?_⟩,rfl,rfl,fun a _=>?_,fun c hc hn=>?_⟩
 ·by_cases hcb:c=b
  ·subst hcb
   obtain⟨h1,h2⟩:=hk o hp
   refine⟨h1,?_⟩
   rw[cell_of_row _ _ _ _ _ _ hself,h2]
   rw[cell_of_row _ _ _ _ _ _ hb] at hc
   exact hc
  ·refine⟨by simpa[y8,hg c hcb] using hp,?_⟩
   rw[World.cell?_of_block (w:=w) (hother c hcb)]
   exact hc
 ·by_cases hcb:c=b
  ·subst hcb
   rw[hb] at hc
   simp only[zx,Obj.cells.injEq] at hc
   obtain⟨rfl,rfl,rfl⟩:=hc
   exact⟨cs,hself,hsz⟩
  ·exact⟨arr,(hother c hcb).trans hc,rfl⟩
 ·by_cases hcb:a.block=b
  ·simp[World.frozen?,hcb,hself,hb]
  ·exact World.frozen?_of_block (hother _ hcb)
 ·have hcb:c≠b:=fun e=>hn (e▸hF)
  exact⟨hg c hcb,hother c hcb⟩
theorem Zu {γ γ':Gh} {w w':World} {H:zb} {b:Nat} {x:yf} (hs:zn γ w H) (hext:yV (fun c=>c=b) γ w γ' w') (hx:Zo γ' w' b x):zn γ' w' (H.upd b x):=by
 intro c o hc
 unfold zb.upd at hc
 split at hc
 ·rename_i e;subst e;simp only[zx] at hc;subst hc;exact hx
 ·rename_i hne
  have ho:=hs c o hc
  obtain⟨g,k⟩:=hext.frame c ho.lt hne
  exact ho.kept hext.mono g k
theorem y6 {H:zb} {w:World} {b:Nat} {x:yf} (hb:(H b).isSome=true):zG H w (H.upd b x):=by
 intro c hc
 unfold zb.upd at hc
 split at hc
 ·rename_i e;subst e;exact .inl hb
 ·exact .inl hc
theorem NB {P:Program} {o:Oper} {t:TypeId} {x y:Operand} {x' y':zu} {n:Nat} {ti:TypeInfo} (ho:o.op=.store t x y) (h:zl x x'=true) (h2:zl y y'=true) (hi:P.info? t=some ti) (hn0:ti.size=n):Z7 P o (.st n x' y'):=by
 intro γ w H ρ a K KP next Q he hs hop hn hp
 simp only[Zr,z6.cls,eff] at hop
 have r1:=ze h he
 have r2:=ze h2 he
 cases hx:x'.ev ρ<;>simp only[hx] at hop r1<;>try (exact hop.elim)
 rename_i b off
 cases hb:H b with
 | none=>simp[hb] at hop
 | some ob =>
  cases ob<;>simp only[hb] at hop<;>try (exact hop.elim)
  rename_i cs
  obtain⟨hlen,hle,hbox,hK⟩:=hop
  generalize hv:a.eval x=v at r1
  cases r1
  cases hs b _ hb with
  | cells _ vs E hk hbb hl hone hr =>
   obtain⟨cl,c1,c2⟩:=r2.cells hbox
   have hsz:(a.eval y).cells.size=n:=by rw[← hlen,cl];simp
   have hst:=run_storeCells_at P b off E (a.eval y).cells.toList 0 vs.toArray w hbb (by simp[hsz];omega) (fun u hu=>by
    obtain⟨i,hi⟩:=List.mem_iff_getElem?.1 hu
    exact c1 i u hi)
   simp only[Nat.add_zero] at hst
   have hrun:(execOp a.eval o).run P w=.ok .skip (w.setRow b (vs.take off++(a.eval y).cells.toList++vs.drop (off+(a.eval y).cells.toList.length)).toArray):=by
    simp[execOp,ho,hv,Instr.storeAt,Instr.sureAddr,storeVar,sizeOf,typeInfo,hi,hn0,hsz,hst]
   have hext:yV (fun c=>c=b) γ w γ (w.setRow b (vs.take off++(a.eval y).cells.toList++vs.drop (off+(a.eval y).cells.toList.length)).toArray) :=
    Yp hbb (by simp[hsz];omega) rfl (fun q hq=>by simp[y8,hk] at hq) (fun _ _=>rfl)
   have hf:zi γ w (splice cs off (y'.ev ρ).cells) (vs.take off++(a.eval y).cells.toList++vs.drop (off+(a.eval y).cells.toList.length)):=zi.splice ⟨hl,hone,hr⟩ ⟨cl,c1,c2⟩ off
   refine Xj hrun (hn γ _ _ _ _ (hext.weaken fun c e=>by subst e;simp[keysOf,hb]) (Zu hs hext (.cells _ _ E hk (ZB w b _ _ E _ hbb) hf.1 hf.2.1 fun i c v hc hv=>(hf.2.2 i c v hc hv).mono hext.mono))
    (y6 (by simp[hb])) (.tup [] [] rfl (by simp)) hK)
theorem Xt {P:Program} {γ:Gh} {w:World} {o:Own} {sz:Nat} {ys:List (List AV)} {v:Value} {tx e':TypeId} (hk:P.underlying tx=some (.slice e')) (h:Rep γ w (.sl o sz ys) v) :
  ∃ news,Src P sz tx v ys.length news w∧zi γ w ys.flatten news∧(ys≠[]→∀ y∈ys,y.length=sz):=by
 obtain⟨ad,cap,hv,hcap⟩:=h.slice_form
 subst hv
 cases h with
 | slnil _ _ _=>exact⟨[],Src.ofNil w hk 0,⟨rfl,by simp,by simp⟩,by simp⟩
 | sl0 _ _ ad _=>exact⟨[],Src.ofSlice w hk ad 0 0 [] (by simp) (by simp) (by simp),⟨rfl,by simp,by simp⟩,by simp⟩
 | sl _ _ _ b off _ cv hc hm hu hcell hr ho =>
  obtain⟨_,_,_,_,_,us,hul,hrow,hrel⟩:=(Rep.sl o sz ys b off cap cv hc hm hu hcell hr ho).flat
  refine⟨us,Src.ofSlice w hk _ _ _ us (by rw[← hul,zV sz ys hu]) (fun j u hj=>by rw[addr_add];exact(hrow j u hj).1) (fun u hu'=>?_),⟨hul,fun i u hi=>(hrow i u hi).2.2,hrel⟩,fun _=>hu⟩
  obtain⟨i,hi⟩:=List.mem_iff_getElem?.1 hu'
  exact(hrow i u hi).2.2
theorem TP {P:Program} {γ:Gh} {w:World} {tx:TypeId} (hk:P.underlying tx=some .string) (s:List UInt8) :
  ∃ news,Src P 1 tx (.string ⟨s.toArray⟩) (bytesOf s).length news w∧zi γ w (bytesOf s).flatten news∧(bytesOf s≠[]→∀ y∈bytesOf s,y.length=1):=by
 have hl:(bytesOf s).length=s.length:=by simp[bytesOf]
 have hfl:(bytesOf s).flatten=s.map fun c=>AV.int .u8 c.toNat:=by
  clear hl
  unfold bytesOf
  induction s with
  | nil=>rfl
  | cons x s ih=>rw[List.map_cons,List.flatten_cons,ih];rfl
 have hb:byteCells ⟨s.toArray⟩=s.map fun c=>Value.int .u8 c.toNat:=by simp[byteCells]
 have hsrc:=Src.ofString (P:=P) w hk ⟨s.toArray⟩
 rw[Y2,hb] at hsrc
 refine⟨_,by rw[hl];exact hsrc,⟨by rw[hfl,List.length_map,List.length_map],fun i u hu=>?_,fun i c u hc hu=>?_⟩,fun _ y hy=>?_⟩
 ·simp only[yr,Zh] at hu
  obtain⟨k,_,rfl⟩:=hu
  rfl
 ·rw[hfl] at hc
  simp only[yr,Zh] at hc hu
  obtain⟨k,hk1,rfl⟩:=hc
  obtain⟨k',hk2,rfl⟩:=hu
  rw[hk1] at hk2
  cases hk2
  exact .int _ _
 ·simp only[bytesOf,List.mem_map] at hy
  obtain⟨_,_,rfl⟩:=hy
  rfl
theorem Vz (ys:List (List AV)):(ys.map (·.map AV.strip1)).flatten=ys.flatten.map AV.strip1:=by
 induction ys with
 | nil=>rfl
 | cons y ys ih=>rw[List.map_cons,List.flatten_cons,List.flatten_cons,List.map_append,ih]
section
variable {P:Program} {w:World}
theorem yN (t tx ty e:TypeId) (i:TypeInfo) (ht:P.underlying t=some (.slice e)) (hi:P.info? e=some i) (x:Value) (news:List Value) (hs:Src P i.size tx x 0 news w) :
  (Builtin.append_ #[t,tx] ty #[.slice none 0 0,x]).run P w=.ok (.slice none 0 0) w:=by
 rcases hs.kind with ⟨e',hk⟩|hk<;>simp[Builtin.append_,run_underlying ht,run_underlying hk,sizeOf,typeInfo,hi,hs.len,hs.cells]
theorem Zz (t tx ty e:TypeId) (i:TypeInfo) (ht:P.underlying t=some (.slice e)) (hi:P.info? e=some i) (b off sLen sCap:Nat) (cur:Array Value) (E:TypeId) (hb:w.heap[b]?=some (.cells cur E (0,0)))
  (x:Value) (n:Nat) (news:List Value) (hs:Src P i.size tx x n news w) (hroom:sLen+n≤sCap) (hfit:off+sLen*i.size+news.length≤cur.size) :
  (Builtin.append_ #[t,tx] ty #[.slice (some ⟨b,off,none⟩) sLen sCap,x]).run P w =
   .ok (.slice (some ⟨b,off,none⟩) (sLen+n) sCap) (w.setRow b (cur.toList.take (off+sLen*i.size)++news++cur.toList.drop (off+sLen*i.size+news.length)).toArray):=by
 have hst:=run_storeCells_at P b (off+sLen*i.size) E news 0 cur w hb (by simpa using hfit) hs.one
 simp only[Nat.add_zero] at hst
 rcases hs.kind with ⟨e',hk⟩|hk<;>simp[Builtin.append_,run_underlying ht,run_underlying hk,sizeOf,typeInfo,hi,hs.len,hroom,hs.cells,Addr.add_lit,hst]
theorem Zm (t tx ty e:TypeId) (i:TypeInfo) (ht:P.underlying t=some (.slice e)) (hi:P.info? e=some i) (ad:Addr) (sLen:Nat)
  (x:Value) (news:List Value) (hs:Src P i.size tx x 0 news w) (hnews:news=[]) :
  (Builtin.append_ #[t,tx] ty #[.slice (some ad) sLen sLen,x]).run P w=.ok (.slice (some ad) sLen sLen) w:=by
 have h1:=hs.cells
 rw[hnews] at h1
 rcases hs.kind with ⟨e',hk⟩|hk<;>simp[Builtin.append_,run_underlying ht,run_underlying hk,sizeOf,typeInfo,hi,hs.len,h1,storeCells]
end
theorem Wu {H:zb} {w:World} {b:Nat} {x:yf} (hb:(H b).isSome=true) {b':Nat} (h':b'=b∨w.heap.size≤b'):zG H w ((H.del b).upd b' x):=by
 intro c hc
 unfold zb.upd at hc
 split at hc
 ·rename_i e
  subst e
  rcases h' with rfl|h'
  ·exact .inl hb
  ·exact .inr h'
 ·unfold zb.del at hc
  split at hc
  ·cases hc
  ·exact .inl hc
theorem YW {γ:Gh} {w:World} {H:zb} (hs:zn γ w H) (b:Nat):zn γ w (H.del b):=hs.sub fun c o hc=>by
 unfold zb.del at hc
 split at hc
 ·cases hc
 ·exact hc
theorem Vw {P:Program} {o:Oper} {a:Act} {γ:Gh} {w:World} {H:zb} {K:AV→zb→Prop} {next:Act→World→Prop} {Q:Exit→Act→World→Prop}
  {t tx e:TypeId} {i:TypeInfo} {z:Value} {sz bytes:Nat} (ht:P.underlying t=some (.slice e)) (hi:P.info? e=some i) (hz:i.zero=some z) (hsz:i.size=sz) (hby:i.bytes=bytes) (hzs:z.cells.size=sz) (hpos:0<sz)
  {own own':Own} {s1 s2:Nat} {xs ys:List (List AV)} {v x:Value} (hx:Rep γ w (.sl own s1 xs) v) {news:List Value} (hsrc:Src P sz tx x ys.length news w) (hnews:zi γ w ys.flatten news) (hys:ys≠[]→∀ y∈ys,y.length=sz)
  (hs:zn γ w H) (hop:UA sz bytes (.sl own s1 xs) (.sl own' s2 ys) H K)
  (hexec:∀ r w',(Builtin.append_ #[t,tx] o.type #[v,x]).run P w=.ok r w'→(execOp a.eval o).run P w=.ok (.value r) w')
  (hn:∀ γ' w' H' c v,yV (keysOf H) γ w γ' w'→zn γ' w' H'→zG H w H'→Rep γ' w' c v→K c H'→next (a.put o.dst v) w'):o.wp P a w next Q:=by
 obtain⟨e1,e2,hbytes,hmax,hK⟩:=hop
 subst e2
 subst e1
 have hys':∀ y∈ys.map (·.map AV.strip1),y.length=s1:=by
  intro y hy
  simp only[List.mem_map] at hy
  obtain⟨y',hy',rfl⟩:=hy
  rw[List.length_map]
  exact hys (List.ne_nil_of_mem hy') y' hy'
 have hnews':zi γ w (ys.map (·.map AV.strip1)).flatten news:=by rw[Vz];exact Ye hnews
 have hnl:news.length=ys.length*s1:=by rw[hsrc.newsLen]
 have hsrc':Src P i.size tx x ys.length news w:=by rw[hsz];exact hsrc
 have grown:∀(base:Option Addr) (cap:Nat) (olds:List Value) (H':zb),v=.slice base xs.length cap→(Builtin.firstCells i.size xs.length (.slice base xs.length cap)).run P w.drew=.ok olds.toArray w.drew →
   zi γ w xs.flatten olds→olds.length=xs.length*s1→(∀ y∈xs,y.length=s1)→cap<xs.length+ys.length→zn γ w H' →
   zG H w (H'.upd w.heap.size (.tip (xs.length+ys.length) s1)) →
   K (.sl (.tip w.heap.size 0) s1 (xs++ys.map (·.map AV.strip1))) (H'.upd w.heap.size (.tip (xs.length+ys.length) s1))→o.wp P a w next Q:=by
  intro base cap olds H' hv hold hfr holen hux hlt hs' hkeys hk
  have hr:=run_append_grow_src (P:=P) w t tx o.type e i z ht hi hz base xs.length cap olds hold x ys.length news hsrc' hlt (by simp only[maxLen] at hmax;omega) (growslice_fits hlt (by rw[hby];exact hbytes))
  rw[← hv] at hr
  generalize hcap:grownCap w (xs.length+ys.length) cap e=cap' at hr
  have hge:xs.length+ys.length≤cap':=hcap▸grownCap_ge w _ cap e
  have hle:cap'≤maxLen:=hcap▸grownCap_le_maxLen w _ cap e hmax
  generalize harr:(olds++news).toArray++Builtin.zeroCells z.cells (cap'-(xs.length+ys.length))=arr at hr
  have harrsz:arr.size=cap'*s1:=by
   rw[← harr]
   simp only[Array.size_append,List.size_toArray,Qn,size_zeroCells,hzs,holen,hnl,← Nat.add_mul]
   congr 1
   omega
  have hext:yV (fun _=>False) γ w (fun b=>if b=w.heap.size then .buf ((xs.length+ys.length)*s1) else γ b) (w.drew.alloc (.cells arr e)) :=
   (yC (fun _=>False) γ w).trans (yp (fun _=>False) γ w.drew (.buf ((xs.length+ys.length)*s1)) arr e) (fun _ _ f=>f)
  have hnewb:(w.drew.alloc (.cells arr e)).heap[w.heap.size]?=some (.cells arr e (0,0)):=heap_alloc_new w.drew _
  have hrel:zi (fun b=>if b=w.heap.size then .buf ((xs.length+ys.length)*s1) else γ b) (w.drew.alloc (.cells arr e)) (xs++ys.map (·.map AV.strip1)).flatten (olds++news):=by
   rw[List.flatten_append]
   have h0:=zi.append hfr hnews'
   exact⟨h0.1,h0.2.1,fun i c u hc hu=>(h0.2.2 i c u hc hu).mono hext.mono⟩
  have hlen:(xs++ys.map (·.map AV.strip1)).length=xs.length+ys.length:=by simp
  have huni:∀ y∈xs++ys.map (·.map AV.strip1),y.length=s1:=fun y hy=>by
   rcases List.mem_append.1 hy with h|h
   ·exact hux y h
   ·exact hys' y h
  refine zB (hexec _ _ hr) (hn _ _ _ _ _ (hext.weaken fun _ f=>f.elim) (yo (F:=fun _=>False) hs' hext (.tip _ _ arr e (by simp) hnewb (by rw[harrsz];exact Nat.mul_le_mul_right _ hge))) hkeys ?_ hk)
  rw[show (Value.slice (some ⟨w.heap.size,0,none⟩) (xs.length+ys.length) cap')=Value.slice (some ⟨w.heap.size,0,none⟩) (xs++ys.map (·.map AV.strip1)).length cap' from by rw[hlen]]
  refine Rep.sl_flat huni hrel.1 (fun k u hk=>?_) hrel.2.2 (by rw[hlen];exact hge) hle (.inr ⟨by rw[Nat.zero_mul],arr,e,hnewb,by rw[harrsz,Nat.zero_add]⟩)
  have hkl:k<(olds++news).length:=(yK.1 hk).1
  refine⟨?_,?_,hrel.2.1 k u hk⟩
  ·rw[Nat.zero_add,cell_of_row _ _ _ _ _ _ hnewb,← harr]
   rw[Array.getElem?_append_left (by simpa using hkl)]
   simpa using hk
  ·simp only[y8,if_true,Nat.zero_add]
   rw[Qn,holen,hnl,← Nat.add_mul] at hkl
   exact hkl
 obtain⟨ad,cap,hv,hcap⟩:=hx.slice_form
 cases own with
 | no=>exact hK.elim
 | nil =>
  obtain⟨hK1,hK2⟩:=hK
  rw[hv] at hx
  cases hx with
  | sl _ _ _ b off _ cv hc hm hu hcell hr ho=>exact ho.elim
  | sl0 _ _ _ ho=>simp at ho
  | slnil _ _ _ =>
   by_cases hy:ys=[]
   ·subst hy
    have hr:=yN (P:=P) t tx o.type e i ht hi x news hsrc'
    rw[hv] at hexec
    exact zB (hexec _ _ hr) (hn γ w H _ _ (.refl _ _ _) hs (zG.refl _ _) (.slnil .nil _ (by simp)) (hK1 rfl))
   ·have hp:0<ys.length:=List.length_pos_iff.2 hy
    refine grown none 0 [] H hv (run_firstCells_none _ _ _ _ _) ⟨rfl,by simp,by simp⟩ (by simp) (by simp) (by simpa using hp) hs yc (hK2 hy _ (yd hs))
 | full =>
  obtain⟨hK1,hK2⟩:=hK
  have hx0:=hx
  rw[hv] at hx
  cases hx with
  | slnil _ _ _ =>
   by_cases hy:ys=[]
   ·subst hy
    have hr:=yN (P:=P) t tx o.type e i ht hi x news hsrc'
    rw[hv] at hexec
    exact zB (hexec _ _ hr) (hn γ w H _ _ (.refl _ _ _) hs (zG.refl _ _) (.slnil .full _ (by simp)) (hK1 rfl))
   ·have hp:0<ys.length:=List.length_pos_iff.2 hy
    refine grown none 0 [] H hv (run_firstCells_none _ _ _ _ _) ⟨rfl,by simp,by simp⟩ (by simp) (by simp) (by simpa using hp) hs yc (hK2 hy _ (yd hs))
  | sl0 _ _ ad _ =>
   by_cases hy:ys=[]
   ·subst hy
    have hnil:news=[]:=List.eq_nil_of_length_eq_zero (by rw[hnl];simp)
    have hr:=Zm (P:=P) t tx o.type e i ht hi ad 0 x news hsrc' hnil
    rw[hv] at hexec hx0
    exact zB (hexec _ _ hr) (hn γ w H _ _ (.refl _ _ _) hs (zG.refl _ _) hx0 (hK1 rfl))
   ·have hp:0<ys.length:=List.length_pos_iff.2 hy
    refine grown (some ad) 0 [] H hv ?_ ⟨rfl,by simp,by simp⟩ (by simp) (by simp) (by simpa using hp) hs yc (hK2 hy _ (yd hs))
    exact run_firstCells_some w.drew i.size 0 ad 0 0 [] (by simp) (by simp)
  | sl _ _ _ b off _ cv hc hm hu hcell hr ho =>
   have hfull:xs.length=cap:=ho
   by_cases hy:ys=[]
   ·subst hy
    have hnil:news=[]:=List.eq_nil_of_length_eq_zero (by rw[hnl];simp)
    have hr:=Zm (P:=P) t tx o.type e i ht hi ⟨b,off,none⟩ xs.length x news hsrc' hnil
    rw[hv,← hfull] at hexec
    rw[hv,← hfull] at hx0
    exact zB (hexec _ _ hr) (hn γ w H _ _ (.refl _ _ _) hs (zG.refl _ _) hx0 (hK1 rfl))
   ·have hp:0<ys.length:=List.length_pos_iff.2 hy
    rw[hv] at hx0
    obtain⟨_,_,_,_,_,us,hul,hrow,hrel⟩:=hx0.flat
    have hulen:us.length=xs.length*s1:=by rw[← hul,zV s1 xs hu]
    refine grown (some ⟨b,off,none⟩) cap us H hv ?_ ⟨hul,fun i u hi=>(hrow i u hi).2.2,hrel⟩ hulen hu (by omega) hs yc (hK2 hy _ (yd hs))
    exact run_firstCells_some w.drew i.size xs.length ⟨b,off,none⟩ xs.length cap us (by rw[hsz];exact hulen) (fun j u hj=>by rw[addr_add];exact(hrow j u hj).1)
 | tip b d =>
  obtain⟨hHb,hK2⟩:=hK
  have hx0:=hx
  rw[hv] at hx
  cases hx with
  | slnil _ _ hno=>exact absurd rfl (hno b d)
  | sl0 _ _ _ ho=>simp at ho
  | sl _ _ _ b1 off _ cv hc hm hu hcell hr ho =>
   rw[hv] at hx0
   have hx1:=hx0
   obtain⟨_,_,_,_,_,us,hul,hrow,hrel⟩:=hx0.flat
   have hulen:us.length=xs.length*s1:=by rw[← hul,zV s1 xs hu]
   by_cases hroom:xs.length+ys.length≤cap
   ·rcases ho with hcap0|⟨hadr,arr,E,hb,hasz⟩
    ·-- nothing there,nothing new
     have hx00:xs.length=0:=by omega
     have hy00:ys.length=0:=by omega
     have hye:ys=[]:=List.eq_nil_of_length_eq_zero hy00
     have hxe:xs=[]:=List.eq_nil_of_length_eq_zero hx00
     subst hye
     subst hxe
     subst hcap0
     have hnil:news=[]:=List.eq_nil_of_length_eq_zero (by rw[hnl];simp)
     have hr:=Zm (P:=P) t tx o.type e i ht hi ⟨b1,off,none⟩ 0 x news hsrc' hnil
     rw[hv] at hexec
     have hup:(H.del b).upd b (.tip (d+(([]:List (List AV)).length+([]:List (List AV)).length)) s1)=H:=by
      funext c
      simp only[zb.upd,zb.del]
      split
      ·rename_i e;subst e;rw[hHb];simp
      ·rfl
     have hk:=hK2 b d (by simp[zb.del])
     rw[hup] at hk
     exact zB (hexec _ _ hr) (hn γ w H _ _ (.refl _ _ _) hs (zG.refl _ _) (by simpa using hx1) hk)
    simp only[Addr.mk.injEq] at hadr
    obtain⟨rfl,rfl,_⟩:=hadr
    have hfit:d*s1+xs.length*i.size+news.length≤arr.size:=by
     rw[hsz,hnl,hasz,← Nat.add_mul,← Nat.add_mul]
     exact Nat.mul_le_mul_right _ (by omega)
    have hrun:=Zz (P:=P) t tx o.type e i ht hi b1 (d*s1) xs.length cap arr E hb x ys.length news hsrc' hroom hfit
    rw[hv] at hexec
    rw[hsz] at hrun
    rw[hsz] at hfit
    generalize hoff:d*s1+xs.length*s1=off at hrun hfit
    generalize hrow':(arr.toList.take off++news++arr.toList.drop (off+news.length)).toArray=arr' at hrun
    have htl:(arr.toList.take off).length=off:=by simp;omega
    have hsz':arr'.size=arr.size:=by
     rw[← hrow']
     simp
     omega
    have hlow:∀ k,k<off→arr'[k]?=arr[k]?:=by
     intro k hk
     rw[← hrow',List.getElem?_toArray,O9,Y6 (by omega),Yj,if_pos hk]
     simp
    have hpre:∀ k,k<(us++news).length→arr'[d*s1+k]?=(us++news)[k]?:=by
     intro k hk
     rcases Nat.lt_or_ge k us.length with hku|hku
     ·rw[Y6 hku,hlow _ (by omega)]
      have:=(hrow k us[k] (Yx hku)).1
      rw[cell_of_row w b1 _ arr E _ hb] at this
      rw[Yx hku,← this]
     ·rw[Qn] at hk
      rw[X4 hku,← hrow',List.getElem?_toArray,O9,X4 (by omega),htl,Y6 (by omega)]
      congr 1
      omega
    have hk:γ b1=.buf ((d+xs.length)*s1):=by
     cases hs b1 _ hHb with
     | tip _ _ _ _ hk _ _=>exact hk
    have hext:yV (fun c=>c=b1) γ w (fun c=>if c=b1 then .buf ((d+(xs.length+ys.length))*s1) else γ c) (w.setRow b1 arr') :=
     Yp hb hsz' rfl (fun q hq=>by
      simp only[y8,hk] at hq
      rw[Nat.add_mul,hoff] at hq
      refine⟨?_,hlow q hq⟩
      simp only[y8,if_true]
      rw[Nat.add_mul,Nat.add_mul];omega) (fun c hc=>by simp[hc])
    have hself:=ZB w b1 arr' arr E _ hb
    have hrel':zi (fun c=>if c=b1 then .buf ((d+(xs.length+ys.length))*s1) else γ c) (w.setRow b1 arr') (xs++ys.map (·.map AV.strip1)).flatten (us++news):=by
     rw[List.flatten_append]
     have h0:=zi.append (γ:=γ) (w:=w) ⟨hul,fun i u hi=>(hrow i u hi).2.2,hrel⟩ hnews'
     exact⟨h0.1,h0.2.1,fun i c u hc hu=>(h0.2.2 i c u hc hu).mono hext.mono⟩
    have hlen:(xs++ys.map (·.map AV.strip1)).length=xs.length+ys.length:=by simp
    have huni:∀ y∈xs++ys.map (·.map AV.strip1),y.length=s1:=fun y hy=>by
     rcases List.mem_append.1 hy with h|h
     ·exact hu y h
     ·exact hys' y h
    refine zB (hexec _ _ hrun) (hn _ _ _ _ _ (hext.weaken fun c e=>by subst e;simp[keysOf,hHb])
     (Zu (YW hs b1) hext (.tip _ _ arr' E (by simp) hself (by rw[hsz',hasz];exact Nat.mul_le_mul_right _ (by omega)))) (Wu (by simp[hHb]) (.inl rfl)) ?_ (hK2 b1 d (by simp[zb.del])))
    rw[show (Value.slice (some ⟨b1,d*s1,none⟩) (xs.length+ys.length) cap)=Value.slice (some ⟨b1,d*s1,none⟩) (xs++ys.map (·.map AV.strip1)).length cap from by rw[hlen]]
    refine Rep.sl_flat huni hrel'.1 (fun k u hk'=>?_) hrel'.2.2 (by rw[hlen];exact hroom) hm (.inr ⟨rfl,arr',E,hself,by rw[hsz',hasz]⟩)
    have hkl:k<(us++news).length:=(yK.1 hk').1
    refine⟨?_,?_,hrel'.2.1 k u hk'⟩
    ·rw[cell_of_row _ _ _ _ _ _ hself,hpre k hkl]
     exact hk'
    ·simp only[y8,if_true]
     rw[Qn,hulen,hnl,← Nat.add_mul] at hkl
     rw[Nat.add_mul]
     omega
   ·have hk3:=hK2 w.heap.size 0 (by
     unfold zb.del;split
     ·rfl
     ·exact yd hs)
    rw[Nat.zero_add] at hk3
    refine grown (some ⟨b1,off,none⟩) cap us (H.del b) hv ?_ ⟨hul,fun i u hi=>(hrow i u hi).2.2,hrel⟩ hulen hu (by omega) (YW hs b) (Wu (by simp[hHb]) (.inr (yX _))) hk3
    exact run_firstCells_some w.drew i.size xs.length ⟨b1,off,none⟩ xs.length cap us (by rw[hsz];exact hulen) (fun j u hj=>by rw[addr_add];exact(hrow j u hj).1)
theorem PS {P:Program} {o:Oper} {t tx e ex:TypeId} {x y:Operand} {x' y':zu} {i:TypeInfo} {z:Value} {sz bytes:Nat} (ho:o.op=.call { callee:=.builtin .append,args:=#[x,y],argTypes:=#[t,tx] }) (h:zl x x'=true) (h2:zl y y'=true)
  (ht:P.underlying t=some (.slice e)) (htx:P.underlying tx=some (.slice ex)) (hi:P.info? e=some i) (hz:i.zero=some z) (hsz:i.size=sz) (hby:i.bytes=bytes) (hzs:z.cells.size=sz) (hpos:0<sz):Z7 P o (.app sz bytes x' y'):=by
 intro γ w H ρ a K KP next Q he hs hop hn hp
 simp only[Zr,z6.cls,eff] at hop
 have r1:=ze h he
 have r2:=ze h2 he
 cases hx:x'.ev ρ<;>rw[hx] at hop r1<;>try (exact False.elim hop)
 cases hy:y'.ev ρ<;>rw[hy] at hop r2<;>try (exact False.elim hop)
 rename_i own s1 xs own' s2 ys
 have hs2:s2=sz:=hop.2.1
 subst hs2
 obtain⟨news,hsrc,hnews,hys⟩:=Xt (P:=P) htx r2
 refine Vw ht hi hz hsz hby hzs hpos r1 hsrc hnews hys hs hop (fun r w' hr=>?_) hn
 simp[execOp,ho,resolve,invoke,builtin,hr]
theorem Pp {P:Program} {o:Oper} {t tx e:TypeId} {x y:Operand} {x' y':zu} {i:TypeInfo} {z:Value} (ho:o.op=.call { callee:=.builtin .append,args:=#[x,y],argTypes:=#[t,tx] }) (h:zl x x'=true) (h2:zl y y'=true)
  (ht:P.underlying t=some (.slice e)) (htx:P.underlying tx=some .string) (hi:P.info? e=some i) (hz:i.zero=some z) (hsz:i.size=1) (hby:i.bytes=1) (hzs:z.cells.size=1):Z7 P o (.apps x' y'):=by
 intro γ w H ρ a K KP next Q he hs hop hn hp
 simp only[Zr,z6.cls,eff] at hop
 have r1:=ze h he
 have r2:=ze h2 he
 cases hy:y'.ev ρ<;>rw[hy] at hop r2<;>try (exact False.elim hop)
 rename_i s
 simp only[] at hop
 generalize hv:a.eval y=v at r2
 cases r2
 cases hx:x'.ev ρ<;>rw[hx] at hop r1<;>try (exact False.elim hop)
 rename_i own s1 xs
 obtain⟨news,hsrc,hnews,hys⟩:=TP (P:=P) (γ:=γ) (w:=w) htx s
 refine Vw ht hi hz hsz hby hzs (by omega) r1 hsrc hnews hys hs hop (fun r w' hr=>?_) hn
 simp[execOp,ho,resolve,invoke,builtin,hv,hr]
def ZX (P:Program) (n:Nat) (e:TypeId) (ks:List K1):Bool :=
 match ks with
 | [k,k']=>decide (n=2)&&decide (k'=k)&&k.isTy P e&&(match P.info? e with|some i=>decide (i.size=1)|none=>false)
 | _=>false
theorem Yy {P:Program} {e:TypeId} (h:(match P.info? e with|some i=>decide (i.size=1)|none=>false)=true) (w:World):(sizeOf e).run P w=.ok 1 w:=by
 cases hi:P.info? e with
 | none=>simp[hi] at h
 | some i =>
  simp only[hi,zU] at h
  simp[sizeOf,typeInfo,Sem.run_bind,hi,h]
theorem Rk:List.range' 0 2 1=[0,1]:=rfl
theorem TJ {P:Program} {w:World} {γ:Gh} {t e:TypeId} {n:Nat} {ks:List K1} {as bs:List AV} {us vs:List Value} (ht:P.underlying t=some (.array n e)) (hk:ZX P n e ks=true) (ha:zJ ks as=true) (hb:zJ ks bs=true)
  (hl:as.length=us.length) (hl':bs.length=vs.length) (hr:∀(i:Nat) (c:AV) (v:Value),as[i]?=some c→us[i]?=some v→Rep γ w c v) (hr':∀(i:Nat) (c:AV) (v:Value),bs[i]?=some c→vs[i]?=some v→Rep γ w c v) (m:Nat) :
  (Op.equalIn (m+2) t (.agg us.toArray) (.agg vs.toArray)).run P w=.ok (Yh as bs) w:=by
 match ks,hk with
 | [k,k'],hk =>
  simp only[ZX,zH,zU] at hk
  obtain⟨⟨⟨rfl,rfl⟩,hty⟩,hsz⟩:=hk
  match as,us,hl with
  | [a0,a1],[u0,u1],_ =>
   match bs,vs,hl' with
   | [b0,b1],[v0,v1],_ =>
    simp only[zJ,zH,Bool.and_true] at ha hb
    have r0:=hr 0 a0 u0 rfl rfl
    have r1:=hr 1 a1 u1 rfl rfl
    have s0:=hr' 0 b0 v0 rfl rfl
    have s1:=hr' 1 b1 v1 rfl rfl
    have e0:=XB hty ha.1 hb.1 r0 s0 m
    have e1:=XB hty ha.2 hb.2 r1 s1 m
    have p0:(part e #[u0,u1] (0*1)).run P w=.ok u0 w:=by simp[part,yu hty]
    have p1:(part e #[u0,u1] (1*1)).run P w=.ok u1 w:=by simp[part,yu hty]
    have q0:(part e #[v0,v1] (0*1)).run P w=.ok v0 w:=by simp[part,yu hty]
    have q1:(part e #[v0,v1] (1*1)).run P w=.ok v1 w:=by simp[part,yu hty]
    rw[Op.equalIn]
    simp only[Sem.run_bind,run_underlying ht,Result.andThen_ok,Yy hsz]
    rw[Std.Legacy.Range.forIn_eq_forIn_range']
    simp only[Std.Legacy.Range.size,Nat.sub_zero,Nat.add_one_sub_one,Nat.div_one,Rk,List.forIn_cons,List.forIn_nil,Sem.run_bind,p0,q0,e0,Result.andThen_ok]
    cases h0:a0.keq1 b0
    ·simp[Yh,h0]
    ·simp only[Bool.not_true,V6,if_false,Sem.run_bind,Sem.run_pure,p1,q1,e1,Result.andThen_ok]
     cases h1:a1.keq1 b1
     ·simp[Yh,h0,h1]
     ·simp[Yh,h0,h1]
   | [],_,_=>simp[zJ] at hb
   | [_],_,_=>simp[zJ] at hb
   | _::_::_::_,_,_=>simp[zJ] at hb
  | [],_,_=>simp[zJ] at ha
  | [_],_,_=>simp[zJ] at ha
  | _::_::_::_,_,_=>simp[zJ] at ha
 | [],hk=>simp[ZX] at hk
 | [_],hk=>simp[ZX] at hk
 | _::_::_::_,hk=>simp[ZX] at hk
def Yq (P:Program) (t:TypeId) (kt:KT):Bool :=
 match kt with
 | .one k=>k.isTy P t
 | .agg ks=>match P.underlying t with
  | some (.struct fs)=>ZK P fs.toList 0 ks&&!P.stoodInHeld t
  | some (.array n e)=>ZX P n e ks
  | _=>false
theorem VZ {c:AV} {v:Value} (h:c.conc1=some v) (γ:Gh) (w:World):Rep γ w c v:=by
 cases c<;>simp only[AV.conc1,zx] at h<;>try (cases h;done)
 ·subst h;exact .bool _
 ·subst h;exact .int _ _
 ·subst h;exact .str _
theorem SV {c:AV} {v:Value} (h:c.conc1=some v):v.oneCell'=true:=by
 cases c<;>simp only[AV.conc1,zx] at h<;>first|(cases h;done)|(subst h;rfl)
theorem VL:∀ {cs:List AV} {vs:List Value},ZD cs=some vs→∀(γ:Gh) (w:World),zi γ w cs vs
 | [],vs,h,γ,w=>by simp only[ZD,zx] at h;subst h;exact⟨rfl,by simp,by simp⟩
 | c::cs,vs,h,γ,w=>by
  unfold ZD at h
  cases h1:c.conc1 with
  | none=>simp[h1] at h
  | some v =>
   cases h2:ZD cs with
   | none=>simp[h1,h2] at h
   | some us =>
    simp only[h1,h2,zx] at h
    subst h
    have ih:=VL h2 γ w
    have hone:zi γ w [c] [v]:=⟨rfl,fun i u hu=>by
     cases i with
     | zero=>simp at hu;subst hu;exact SV h1
     | succ i=>simp at hu,fun i d u hd hu=>by
     cases i with
     | zero=>simp at hd hu;subst hd;subst hu;exact VZ h1 γ w
     | succ i=>simp at hd⟩
    exact hone.append ih
theorem Tv {c:AV} {v:Value} (h:c.conc=some v) (γ:Gh) (w:World):Rep γ w c v:=by
 cases c with
 | agg cs =>
  simp only[AV.conc,Zh] at h
  obtain⟨vs,hvs,rfl⟩:=h
  have:=VL hvs γ w
  exact .agg _ _ this.1 this.2.1 this.2.2
 | _=>(simp only[AV.conc] at h;exact VZ h γ w)
theorem VY {c:AV} {v:Value} {k:K1} {γ:Gh} {w:World} (hf:k.fits c=true) (h:Rep γ w c v):c.conc1=some v:=by
 cases k<;>cases c<;>simp[K1.fits] at hf<;>cases h<;>rfl
theorem VS {γ:Gh} {w:World}:∀ {ks:List K1} {cs:List AV} {vs:List Value},zJ ks cs=true→cs.length=vs.length→(∀(i:Nat) (c:AV) (v:Value),cs[i]?=some c→vs[i]?=some v→Rep γ w c v)→ZD cs=some vs
 | _,[],[],_,_,_=>rfl
 | _,[],_::_,_,h,_=>by simp at h
 | _,_::_,[],_,h,_=>by simp at h
 | [],_::_,_::_,h,_,_=>by simp[zJ] at h
 | k::ks,c::cs,v::vs,hf,hl,hr=>by
  simp only[zJ,zH] at hf
  have h1:=VY hf.1 (hr 0 c v rfl rfl)
  have h2:=VS hf.2 (by simpa using hl) (fun i c v hc hv=>hr (i+1) c v (by simpa using hc) (by simpa using hv))
  simp[ZD,h1,h2]
theorem Vg {c:AV} {v:Value} {kt:KT} {γ:Gh} {w:World} (hf:kt.fits c=true) (h:Rep γ w c v):c.conc=some v:=by
 cases kt with
 | one k =>
  have:=VY (k:=k) hf h
  cases c<;>first|exact this|(cases k<;>simp[KT.fits,K1.fits] at hf)
 | agg ks =>
  cases c<;>simp[KT.fits] at hf
  cases h with
  | agg _ vs hl h1 hr=>simp[AV.conc,VS hf hl hr]
theorem Sd {c d:AV} {k:K1} (h:k.fits c=true):c.keq d=c.keq1 d:=by
 cases k<;>cases c<;>simp[K1.fits] at h<;>cases d<;>rfl
theorem Sc {P:Program} {w:World} {kt:KT} {t:TypeId} {c d:AV} {u v:Value} (hk:Yq P t kt=true) (hc:kt.fits c=true) (hd:kt.fits d=true) (hu:c.conc=some u) (hv:d.conc=some v) :
  (Op.equal t u v).run P w=.ok (c.keq d) w:=by
 have γ:Gh:=fun _=>.imm
 have rc:=Tv hu γ w
 have rd:=Tv hv γ w
 unfold Op.equal Op.maxDepth
 cases kt with
 | one k=>rw[Sd (k:=k) hc];exact XB hk hc hd rc rd 9999
 | agg ks =>
  cases c<;>simp[KT.fits] at hc
  cases d<;>simp[KT.fits] at hd
  rename_i as bs
  unfold Yq at hk
  simp only at hk
  cases hd':P.underlying t with
  | none=>simp[hd'] at hk
  | some ds =>
   cases ds<;>simp only[hd'] at hk<;>try (cases hk;done)
   case array n e =>
    cases rc with
    | agg _ vs hl h1 hr =>
     cases rd with
     | agg _ us hl' h1' hr'=>exact TJ (m:=9998) hd' hk hc hd hl hl' hr hr'
   rename_i fs
   simp only[zH,Bool.not_eq_true'] at hk
   cases rc with
   | agg _ vs hl h1 hr =>
    cases rd with
    | agg _ us hl' h1' hr' =>
     have hfo:P.fieldsOf t=fs:=by simp[Program.fieldsOf,hd']
     rw[run_equalIn_struct w 9999 t _ _ (by rw[hfo];exact hd') hk.2,hfo]
     exact Yl (γ:=γ) 9998 _ _ fs.toList 0 ks as bs hk.1 hc hd
      (fun i c hc=>by
       have hi:i<vs.length:=by rw[← hl];exact(yK.1 hc).1
       exact⟨vs[i],by simp[hi],hr i c _ hc (Yx hi)⟩)
      (fun i c hc=>by
       have hi:i<us.length:=by rw[← hl'];exact(yK.1 hc).1
       exact⟨us[i],by simp[hi],hr' i c _ hc (Yx hi)⟩)
def Zq (es:List (AV×AV)) (k:AV):Option Nat :=
 match es with
 | []=>none
 | (a,_)::r=>if k.keq a then some 0 else (Zq r k).map (·+1)
theorem YJ {P:Program} {w:World} {γ:Gh} {kt:KT} {t:TypeId} {k:AV} {kv:Value} (hk:Yq P t kt=true) (hf:kt.fits k=true) (hkv:k.conc=some kv):∀(es:List (AV×AV)) (cs:List MapEntry) (n:Nat),
  es.length=cs.length→(∀ x∈es,kt.fits x.1=true)→(∀(i:Nat) (x:AV×AV) (e:MapEntry),es[i]?=some x→cs[i]?=some e→ZI γ w x e) →
  (Instr.findAsking t kv cs n).run P w=.ok ((Zq es k).map fun i=>(n+i,(cs.getD i default).val)) w
 | [],[],n,_,_,_=>rfl
 | [],_::_,_,h,_,_=>by simp at h
 | _::_,[],_,h,_,_=>by simp at h
 | x::es,e::cs,n,hl,hfit,hr=>by
  have hx:=hr 0 x e rfl rfl
  have he:=Sc (w:=w) hk hf (hfit x (Zc ..)) hkv hx.key
  have ih:=YJ hk hf hkv es cs (n+1) (by simpa using hl) (fun y hy=>hfit y (ZL _ hy)) (fun i y e' hy he'=>hr (i+1) y e' (by simpa using hy) (by simpa using he'))
  simp only[Instr.findAsking,Sem.run_bind,he,Result.andThen_ok,Zq]
  cases hq:k.keq x.1
  ·simp only[V6,if_false,ih]
   cases Zq es k with
   | none=>rfl
   | some i=>simp;omega
  ·simp
theorem Ta {P:Program} {w:World} {t:TypeId} {d:TypeDesc} (hd:P.underlying t=some d) {u v:Value} {b:Bool} (hb:Instr.sameNow d u v=some b):(Op.equal t u v).run P w=.ok b w:=by
 unfold Instr.sameNow at hb
 unfold Op.equal Op.maxDepth
 rw[Op.equalIn]
 split at hb
 ·split at hb
  ·rename_i hkk
   simp only[zx] at hb
   simp[run_underlying hd,hkk,hb]
  ·cases hb
 ·simp only[zx] at hb
  simp[run_underlying hd,hb]
 ·simp only[zx] at hb
  simp[run_underlying hd,hb]
 ·cases hb
theorem Wg {P:Program} {w:World} {γ:Gh} {kt:KT} {t:TypeId} {d:TypeDesc} {k:AV} {kv:Value} (hd:P.underlying t=some d) (hk:Yq P t kt=true) (hf:kt.fits k=true) (hkv:k.conc=some kv):∀(es:List (AV×AV)) (cs:List MapEntry) (n:Nat) (r:Option (Nat×Value)),
  es.length=cs.length→(∀ x∈es,kt.fits x.1=true)→(∀(i:Nat) (x:AV×AV) (e:MapEntry),es[i]?=some x→cs[i]?=some e→ZI γ w x e) →
  Instr.findNow d kv cs n=some r→r=(Zq es k).map fun i=>(n+i,(cs.getD i default).val)
 | [],[],n,r,_,_,_,h=>by simp only[Instr.findNow,zx] at h;subst h;rfl
 | [],_::_,_,_,h,_,_,_=>by simp at h
 | _::_,[],_,_,h,_,_,_=>by simp at h
 | x::es,e::cs,n,r,hl,hfit,hr,h=>by
  have hx:=hr 0 x e rfl rfl
  have he:=Sc (w:=w) hk hf (hfit x (Zc ..)) hkv hx.key
  simp only[Instr.findNow] at h
  have hsame:∀ b,Instr.sameNow d kv e.key=some b→k.keq x.1=b:=by
   intro b hb
   have h2:=Ta (P:=P) (w:=w) hd hb
   rw[he] at h2
   simpa using h2
  cases hs:Instr.sameNow d kv e.key with
  | none=>simp[hs] at h
  | some b =>
   have hq:=hsame b hs
   cases b
   ·simp only[hs] at h
    have ih:=Wg hd hk hf hkv es cs (n+1) r (by simpa using hl) (fun y hy=>hfit y (ZL _ hy)) (fun i y e' hy he'=>hr (i+1) y e' (by simpa using hy) (by simpa using he')) h
    rw[ih]
    simp only[Zq,hq,V6,if_false]
    cases Zq es k with
    | none=>rfl
    | some i=>simp;omega
   ·simp only[hs,zx] at h
    subst h
    simp[Zq,hq]
theorem YG {P:Program} {w:World} {γ:Gh} {kt:KT} {t:TypeId} {d:TypeDesc} {k:AV} {kv:Value} (hd:P.underlying t=some d) (hk:Yq P t kt=true) (hf:kt.fits k=true) (hkv:k.conc=some kv) (es:List (AV×AV)) (cs:List MapEntry)
  (hl:es.length=cs.length) (hfit:∀ x∈es,kt.fits x.1=true) (hr:∀(i:Nat) (x:AV×AV) (e:MapEntry),es[i]?=some x→cs[i]?=some e→ZI γ w x e) :
  (Instr.findKey t kv cs).run P w=.ok ((Zq es k).map fun i=>(i,(cs.getD i default).val)) w:=by
 unfold Instr.findKey
 rw[Sem.run_bind,run_underlying hd w]
 simp only[Result.andThen_ok]
 cases h:Instr.findNow d kv cs 0 with
 | some r =>
  have:=Wg (γ:=γ) (w:=w) hd hk hf hkv es cs 0 r hl hfit hr h
  simp[this]
 | none =>
  have:=YJ (P:=P) (w:=w) (γ:=γ) hk hf hkv es cs 0 hl hfit hr
  simpa using this
theorem Xn:∀ {es:List (AV×AV)} {k:AV},Zq es k=none→WE es k=none∧∀ v,XX es k v=es++[(k,v)]
 | [],_,_=>⟨rfl,fun _=>rfl⟩
 | (a,u)::es,k,h=>by
  unfold Zq at h
  split at h
  ·cases h
  ·rename_i hq
   have ih:=Xn (es:=es) (k:=k) (by simpa using h)
   exact⟨by unfold WE;simp[hq,ih.1],fun v=>by unfold XX;simp[hq,ih.2 v]⟩
theorem Xk:∀ {es:List (AV×AV)} {k:AV} {i:Nat},Zq es k=some i→∃ x,es[i]?=some x∧WE es k=some x.2∧k.keq x.1=true∧∀ v,XX es k v=es.set i (k,v)
 | [],_,_,h=>by simp[Zq] at h
 | (a,u)::es,k,i,h=>by
  unfold Zq at h
  split at h
  ·rename_i hq
   simp only[zx] at h
   subst h
   exact⟨(a,u),rfl,by unfold WE;simp[hq],hq,fun v=>by unfold XX;simp[hq]⟩
  ·rename_i hq
   simp only[Zh] at h
   obtain⟨j,hj,rfl⟩:=h
   obtain⟨x,h1,h2,h3,h4⟩:=Xk (es:=es) (k:=k) hj
   exact⟨x,by simpa using h1,by unfold WE;simp[hq,h2],h3,fun v=>by unfold XX;simp[hq,h4 v]⟩
theorem Z0 {P:Program} {k:K1} {t:TypeId} (h:k.isTy P t=true) (empty:Bool) (n:Nat) (v:Value) (w:World):(Instr.checkKey empty (n+1) t v).run P w=.ok () w:=by
 cases hd:P.underlying t with
 | none=>cases k<;>simp[K1.isTy,hd] at h
 | some d =>
  unfold Instr.checkKey
  rw[Sem.run_bind,run_underlying hd w]
  cases k<;>cases d<;>simp_all [K1.isTy]
theorem Ys {P:Program} {w:World} {empty:Bool} (n:Nat) (xs:Array Value):∀(fs:List Field) (off:Nat) (ks:List K1),ZK P fs off ks=true→off+ks.length≤xs.size →
  (forIn fs PUnit.unit fun f _ => (if f.name ≠ "_" then do
    let __do_lift ← part f.type xs f.offset
    Instr.checkKey empty (n+1) f.type __do_lift
    pure (ForInStep.yield PUnit.unit)
   else pure (ForInStep.yield PUnit.unit):Sem (ForInStep PUnit))).run P w=.ok PUnit.unit w
 | [],_,_,_,_=>by simp
 | _::_,_,[],h,_=>by simp[ZK] at h
 | f::fs,off,k::ks,hf,hl=>by
  simp only[ZK,zH,bne_iff_ne,ne_eq,beq_iff_eq] at hf
  obtain⟨⟨⟨hname,hoff⟩,hty⟩,hrest⟩:=hf
  simp only[NW] at hl
  have ih:=Ys (P:=P) (w:=w) (empty:=empty) n xs fs (off+1) ks hrest (by omega)
  have hlt:off<xs.size:=by omega
  have p1:(part f.type xs f.offset).run P w=.ok xs[off] w:=by simp[part,yu hty,hoff,hlt]
  simp only[List.forIn_cons,ne_eq,hname,not_false_eq_true,if_true,Sem.run_bind,p1,Result.andThen_ok,Z0 hty empty n _ w,Sem.run_pure]
  simpa using ih
theorem Zx:∀ {ks:List K1} {cs:List AV},zJ ks cs=true→cs.length=ks.length
 | [],[],_=>rfl
 | [],_::_,h=>by simp[zJ] at h
 | _::_,[],h=>by simp[zJ] at h
 | _::ks,_::cs,h=>by simp only[zJ,zH] at h;simp[Zx h.2]
theorem XA {P:Program} {w:World} {γ:Gh} {kt:KT} {t:TypeId} {k:AV} {kv:Value} (hk:Yq P t kt=true) (hf:kt.fits k=true) (hkv:Rep γ w k kv) (empty:Bool):(Instr.checkKey empty 10000 t kv).run P w=.ok () w:=by
 cases kt with
 | one k1=>exact Z0 hk empty 9999 kv w
 | agg ks =>
  cases k<;>simp[KT.fits] at hf
  unfold Yq at hk
  simp only at hk
  cases hd:P.underlying t with
  | none=>simp[hd] at hk
  | some ds =>
   cases ds<;>simp only[hd] at hk<;>try (cases hk;done)
   case array n e =>
    match ks,hk with
    | [k,k'],hk =>
     simp only[ZX,zH,zU] at hk
     obtain⟨⟨⟨rfl,rfl⟩,hty⟩,hsz⟩:=hk
     cases hkv with
     | agg _ vs hl h1 hr =>
      have hlen:=Zx hf
      rw[hl] at hlen
      match vs,hlen with
      | [v0,v1],_ =>
       have p0:(part e #[v0,v1] (0*1)).run P w=.ok v0 w:=by simp[part,yu hty]
       have p1:(part e #[v0,v1] (1*1)).run P w=.ok v1 w:=by simp[part,yu hty]
       unfold Instr.checkKey
       rw[Sem.run_bind,run_underlying hd w]
       simp only[Result.andThen_ok]
       rw[Std.Legacy.Range.forIn_eq_forIn_range']
       simp only[Std.Legacy.Range.size,Nat.sub_zero,Nat.add_one_sub_one,Nat.div_one,Rk,List.forIn_cons,List.forIn_nil,Sem.run_bind,Yy hsz,Result.andThen_ok,p0,p1,Z0 hty empty 9998 _ w,Sem.run_pure]
    | [],hk=>simp[ZX] at hk
    | [_],hk=>simp[ZX] at hk
    | _::_::_::_,hk=>simp[ZX] at hk
   rename_i cs fs
   simp only[zH,Bool.not_eq_true'] at hk
   cases hkv with
   | agg _ vs hl h1 hr =>
    unfold Instr.checkKey
    rw[Sem.run_bind,run_underlying hd w]
    simp only[Result.andThen_ok]
    have:=Ys (P:=P) (w:=w) (empty:=empty) 9998 vs.toArray fs.toList 0 ks hk.1 (by simp[← hl,Zx hf])
    rw[← Array.forIn_toList]
    simpa using this
theorem P4 {P:Program} {o:Oper} {t key elem:TypeId} {m k:Operand} {m' k':zu} {ok:Bool} {kt:KT} {d:TypeDesc} {ei:TypeInfo} {z:Value} {zero:AV} (ho:o.op=.lookup t m k ok) (hm:zl m m'=true) (hk:zl k k'=true)
  (ht:P.underlying t=some (.map key elem)) (hkt:Yq P key kt=true) (hd:P.underlying key=some d) (hei:P.info? elem=some ei) (hz:ei.zero=some z) (hzero:TS z zero=true):Um P o (.lkp kt zero ok m' k'):=by
 intro γ w H ρ a c he hs hc
 have r1:=ze hm he
 have r2:=ze hk he
 simp only[rev] at hc
 split at hc
 ·rename_i hfit
  have hck:=fun empty=>XA (P:=P) hkt hfit r2 empty
  have hzr:=W0 hzero γ w
  cases hx:m'.ev ρ<;>simp only[hx] at hc r1<;>try (cases hc;done)
  ·simp only[zx] at hc
   subst hc
   generalize hv:a.eval m=v at r1
   cases r1
   have hfk:(Instr.findKey key (a.eval k) []).run P w=.ok none w:=YG (γ:=γ) hd hkt hfit (Vg hfit r2) [] [] rfl (by simp) (by simp)
   cases ok with
   | true =>
    refine⟨.tuple #[z,.bool false],?_,?_⟩
    ·simp[execOp,ho,hv,Instr.lookup,run_underlying ht,hck,hfk,zeroValue,typeInfo,hei,hz]
    ·simp only[Xa,if_true,Option.getD_none,Option.isSome_none]
     exact .tup _ [z,.bool false] rfl (zv.cons hzr (zv.cons (.bool _) zv.nil)).2
   | false =>
    refine⟨z,?_,?_⟩
    ·simp[execOp,ho,hv,Instr.lookup,run_underlying ht,hck,hfk,zeroValue,typeInfo,hei,hz]
    ·simpa[Xa] using hzr
  ·rename_i b
   cases hb:H b with
   | none=>simp[hb] at hc
   | some ob =>
    cases ob<;>simp only[hb] at hc<;>try (cases hc;done)
    rename_i kt' es
    split at hc
    ·rename_i hkk
     subst hkk
     simp only[zx] at hc
     subst hc
     generalize hv:a.eval m=v at r1
     cases r1
     cases hs b _ hb with
     | map _ _ cs clock hff hgk hbb hl hr =>
      have hfk:=YG (P:=P) (w:=w) (γ:=γ) hd hkt hfit (Vg hfit r2) es cs hl hff hr
      have hobj:(getObj b).run P w=.ok (.map cs.toArray clock) w:=by simp[getObj,Sem.run,hbb]
      cases hmf:Zq es (k'.ev ρ) with
      | none =>
       have hg:=(Xn hmf).1
       rw[hmf] at hfk
       simp only[Option.map_none] at hfk
       rw[hg]
       cases ok with
       | true =>
        refine⟨.tuple #[z,.bool false],?_,?_⟩
        ·simp[execOp,ho,hv,Instr.lookup,run_underlying ht,hobj,hck,hfk,zeroValue,typeInfo,hei,hz]
        ·simp only[Xa,if_true,Option.getD_none,Option.isSome_none]
         exact .tup _ [z,.bool false] rfl (zv.cons hzr (zv.cons (.bool _) zv.nil)).2
       | false =>
        refine⟨z,?_,?_⟩
        ·simp[execOp,ho,hv,Instr.lookup,run_underlying ht,hobj,hck,hfk,zeroValue,typeInfo,hei,hz]
        ·simpa[Xa] using hzr
      | some i =>
       obtain⟨x,hxi,hg,_,_⟩:=Xk hmf
       rw[hmf] at hfk
       simp only[yv] at hfk
       rw[hg]
       have hi:i<cs.length:=by rw[← hl];exact(yK.1 hxi).1
       have hci:cs[i]?=some cs[i]:=Yx hi
       have hgd:(cs.getD i default)=cs[i]:=by simp[List.getD,hci]
       rw[hgd] at hfk
       have hval:=(hr i x _ hxi hci).val
       cases ok with
       | true =>
        refine⟨.tuple #[cs[i].val,.bool true],?_,?_⟩
        ·simp[execOp,ho,hv,Instr.lookup,run_underlying ht,hobj,hck,hfk]
        ·simp only[Xa,if_true,Option.getD_some,Option.isSome_some]
         exact .tup _ [cs[i].val,.bool true] rfl (zv.cons hval (zv.cons (.bool _) zv.nil)).2
       | false =>
        refine⟨cs[i].val,?_,?_⟩
        ·simp[execOp,ho,hv,Instr.lookup,run_underlying ht,hobj,hck,hfk]
        ·simpa[Xa] using hval
    ·cases hc
 ·cases hc
theorem Qs {P:Program} {o:Oper} {t key elem:TypeId} {ts:Array TypeId} {x:Operand} {x':zu} (ho:o.op=.call { callee:=.builtin .len,args:=#[x],argTypes:=ts }) (hts:ts[0]?=some t) (h:zl x x'=true)
  (ht:P.underlying t=some (.map key elem)):Um P o (.lenm x'):=by
 intro γ w H ρ a c he hs hc
 have r1:=ze h he
 simp only[rev] at hc
 cases hx:x'.ev ρ<;>simp only[hx] at hc r1<;>try (cases hc;done)
 ·simp only[zx] at hc
  subst hc
  generalize hv:a.eval x=v at r1
  cases r1
  exact⟨.int .i64 0,WS ho hv (by simp[Builtin.len_,hts,run_underlying ht,goInt]),.int _ _⟩
 ·rename_i b
  cases hb:H b with
  | none=>simp[hb] at hc
  | some ob =>
   cases ob<;>simp only[hb] at hc<;>try (cases hc;done)
   rename_i kt es
   simp only[zx] at hc
   subst hc
   generalize hv:a.eval x=v at r1
   cases r1
   cases hs b _ hb with
   | map _ _ cs clock hff hgk hbb hl hr =>
    have hobj:(getObj b).run P w=.ok (.map cs.toArray clock) w:=by simp[getObj,Sem.run,hbb]
    exact⟨.int .i64 es.length,WS ho hv (by simp[Builtin.len_,hts,run_underlying ht,goInt,hobj,hl]),.int _ _⟩
theorem Ue {k:K1} {c d:AV} (hc:k.fits c=true) (hd:k.fits d=true) (h:c.keq1 d=true):c.conc1=d.conc1:=by
 cases k<;>cases c<;>simp[K1.fits] at hc<;>cases d<;>simp[K1.fits] at hd<;>simp[AV.keq1] at h
 ·subst h;rfl
 ·subst h;rfl
 ·subst h;subst hc;subst hd;rfl
theorem Vb:∀ {ks:List K1} {cs ds:List AV},zJ ks cs=true→zJ ks ds=true→Yh cs ds=true→ZD cs=ZD ds
 | [],[],[],_,_,_=>rfl
 | [],_::_,_,h,_,_=>by simp[zJ] at h
 | [],[],_::_,_,h,_=>by simp[zJ] at h
 | _::_,[],_,h,_,_=>by simp[zJ] at h
 | _::_,_::_,[],_,h,_=>by simp[zJ] at h
 | k::ks,c::cs,d::ds,hc,hd,h=>by
  simp only[zJ,zH] at hc hd
  simp only[Yh,zH] at h
  unfold ZD
  rw[Ue hc.1 hd.1 h.1,Vb hc.2 hd.2 h.2]
theorem Qe {kt:KT} {c d:AV} (hc:kt.fits c=true) (hd:kt.fits d=true) (h:c.keq d=true):c.conc=d.conc:=by
 cases kt with
 | one k =>
  rw[Sd (k:=k) hc] at h
  have:=Ue (k:=k) hc hd h
  cases k<;>cases c<;>simp[KT.fits,K1.fits] at hc<;>cases d<;>simp[KT.fits,K1.fits] at hd<;>exact this
 | agg ks =>
  cases c<;>simp[KT.fits] at hc
  cases d<;>simp[KT.fits] at hd
  simp only[AV.conc]
  rw[Vb hc hd h]
theorem YQ {c:AV} {v:Value} (h:c.conc1=some v) (n:Nat):Instr.sameBits n v v=true:=by
 cases c<;>simp only[AV.conc1,zx] at h<;>first|(cases h;done)|(subst h;cases n<;>simp[Instr.sameBits,beq_toListBytes])
theorem YA:∀ {cs:List AV} {vs:List Value},ZD cs=some vs→∀ n,(vs.zip vs).all (fun(x,y)=>Instr.sameBits n x y)=true
 | [],vs,h,n=>by simp only[ZD,zx] at h;subst h;rfl
 | c::cs,vs,h,n=>by
  unfold ZD at h
  cases h1:c.conc1 with
  | none=>simp[h1] at h
  | some v =>
   cases h2:ZD cs with
   | none=>simp[h1,h2] at h
   | some us =>
    simp only[h1,h2,zx] at h
    subst h
    simp only[List.zip_cons_cons,List.all_cons,YQ h1 n,Bool.true_and]
    exact YA h2 n
theorem Vy {c:AV} {v:Value} (h:c.conc=some v):Instr.sameBits 10000 v v=true:=by
 cases c with
 | agg cs =>
  simp only[AV.conc,Zh] at h
  obtain⟨vs,hvs,rfl⟩:=h
  have:=YA hvs 9999
  show (vs.toArray.size==vs.toArray.size&&(vs.toArray.toList.zip vs.toArray.toList).all fun(x,y)=>Instr.sameBits 9999 x y)=true
  simpa using this
 | _=>(simp only[AV.conc] at h;exact YQ h 10000)
theorem WZ {γ:Gh} {w:World} {b:Nat} {es es':Array MapEntry} {clock clock':Nat} (hb:w.heap[b]?=some (.map es clock)) :
  yV (fun c=>c=b) γ w γ { w with heap:=w.heap.setIfInBounds b (.map es' clock') }∧({ w with heap:=w.heap.setIfInBounds b (.map es' clock') }:World).heap[b]?=some (.map es' clock'):=by
 have hlt:b<w.heap.size:=(Zj.1 hb).1
 have hother:∀ c,c≠b→(w.heap.setIfInBounds b (.map es' clock'))[c]?=w.heap[c]?:=fun c hc=>by rw[Array.getElem?_setIfInBounds_ne (Ne.symm hc)]
 have hself:(w.heap.setIfInBounds b (.map es' clock'))[b]?=some (.map es' clock'):=by simp[hlt]
 refine⟨⟨⟨by simp,fun c o v hc hp=>⟨hp,?_⟩,fun c arr E fr hc=>?_⟩,rfl,rfl,fun a _=>?_,fun c hc hn=>⟨rfl,hother c hn⟩⟩,hself⟩
 ·have hcb:c≠b:=fun e=>by subst e;simp[World.cell?,hb] at hc
  simp only[World.cell?] at hc ⊢
  rw[hother c hcb];exact hc
 ·have hcb:c≠b:=fun e=>by subst e;rw[hb] at hc;simp at hc
  exact⟨arr,(hother c hcb).trans hc,rfl⟩
 ·by_cases hcb:a.block=b
  ·simp only[World.frozen?,hcb,hself,hb]
  ·simp only[World.frozen?,hother _ hcb]
theorem R6 {P:Program} {o:Oper} {t key elem:TypeId} {m k x:Operand} {m' k' x':zu} {kt:KT} {d:TypeDesc} (ho:o.op=.mapUpdate t m k x∨o.op=.insert t m k x) (hm:zl m m'=true) (hk:zl k k'=true) (hx':zl x x'=true)
  (ht:P.underlying t=some (.map key elem)) (hkt:Yq P key kt=true) (hd:P.underlying key=some d):Z7 P o (.mup kt m' k' x'):=by
 intro γ w H ρ a K KP next Q he hs hop hn hp
 simp only[Zr,z6.cls,eff] at hop
 have r1:=ze hm he
 have r2:=ze hk he
 have r3:=ze hx' he
 cases hx:m'.ev ρ<;>simp only[hx] at hop r1<;>try (exact False.elim hop)
 rename_i b
 cases hb:H b with
 | none=>simp[hb] at hop
 | some ob =>
  cases ob<;>simp only[hb] at hop<;>try (exact False.elim hop)
  rename_i kt' es
  obtain⟨rfl,hfit,hK⟩:=hop
  have hck:=fun empty=>XA (P:=P) hkt hfit r2 empty
  have hconc:=Vg hfit r2
  generalize hv:a.eval m=v at r1
  cases r1
  cases hs b _ hb with
  | map _ _ cs clock hff hgk hbb hl hr =>
   have hfk:=YG (P:=P) (w:=w) (γ:=γ) hd hkt hfit hconc es cs hl hff hr
   have hobj:(getObj b).run P w=.ok (.map cs.toArray clock) w:=by simp[getObj,Sem.run,hbb]
   have hset:∀ es' clock',(setObj b (.map es' clock')).run P w=.ok () { w with heap:=w.heap.setIfInBounds b (.map es' clock') }:=fun es' clock'=>by simp[setObj,Sem.run,hbb]
   have hexec:∀ w',(Instr.mapUpdate t (.map (some b)) (a.eval k) (a.eval x)).run P w=.ok () w'→(execOp a.eval o).run P w=.ok .skip w':=by
    intro w' hr
    rcases ho with ho|ho<;>simp[execOp,ho,hv,hr]
   cases hmf:Zq es (k'.ev ρ) with
   | none =>
    rw[hmf] at hfk
    simp only[Option.map_none] at hfk
    rw[(Xn hmf).2] at hK
    have hrun:(Instr.mapUpdate t (.map (some b)) (a.eval k) (a.eval x)).run P w=.ok () { w with heap:=w.heap.setIfInBounds b (.map (cs++[(⟨a.eval k,a.eval x,clock⟩:MapEntry)]).toArray (clock+1)) }:=by
     simp[Instr.mapUpdate,run_underlying ht,hobj,hck,hfk,hset]
    obtain⟨hext,hself⟩:=WZ (γ:=γ) (es':=(cs++[(⟨a.eval k,a.eval x,clock⟩:MapEntry)]).toArray) (clock':=clock+1) hbb
    refine Xj (hexec _ hrun) (hn _ _ _ _ _ (hext.weaken fun c e=>by subst e;simp[keysOf,hb]) (Zu hs hext (.map kt' _ _ _ (fun y hy=>?_) hgk hself (by simp[hl]) (fun i y e hy he=>?_))) (y6 (by simp[hb])) (.tup [] [] rfl (by simp)) hK)
    ·rcases List.mem_append.1 hy with h|h
     ·exact hff y h
     ·simp at h;subst h;exact hfit
    ·rcases Nat.lt_or_ge i es.length with hi|hi
     ·rw[Y6 hi] at hy
      rw[Y6 (by omega)] at he
      exact(hr i y e hy he).mono hext.mono
     ·rw[X4 hi] at hy
      rw[X4 (by omega),← hl] at he
      cases hj:i-es.length with
      | zero=>rw[hj] at hy he;simp at hy he;subst hy;subst he;exact⟨hconc,r3.mono hext.mono⟩
      | succ j=>rw[hj] at hy;simp at hy
   | some i =>
    obtain⟨y,hyi,_,hq,hms⟩:=Xk hmf
    rw[hmf] at hfk
    simp only[yv] at hfk
    rw[hms] at hK
    have hi:i<cs.length:=by rw[← hl];exact(yK.1 hyi).1
    have hci:cs[i]?=some cs[i]:=Yx hi
    have hkey:cs[i].key=a.eval k:=by
     have h1:=(hr i y _ hyi hci).key
     have h2:=Qe hfit (hff y (List.mem_of_getElem? hyi)) hq
     rw[hconc,h1] at h2
     exact(Option.some.inj h2).symm
    have hstay:(Instr.keyThatStays (((cs.toArray[i]?).map (·.key)).getD (a.eval k)) (a.eval k)).run P w=.ok (a.eval k) w:=by
     have e1:((cs.toArray[i]?).map (·.key)).getD (a.eval k)=a.eval k:=by simp[hci,hkey]
     rw[e1]
     simp[Instr.keyThatStays,Vy hconc]
    have hmod:(cs.toArray.modify i fun e=>{ e with key:=a.eval k,val:=a.eval x })=(cs.set i { cs[i] with key:=a.eval k,val:=a.eval x }).toArray:=by
     apply Array.ext'
     apply List.ext_getElem?
     intro j
     simp only[Array.getElem?_toList,Array.getElem?_modify,List.getElem?_set]
     by_cases hij:i=j
     ·subst hij;simp[hi]
     ·simp[hij]
    have hrun:(Instr.mapUpdate t (.map (some b)) (a.eval k) (a.eval x)).run P w=.ok () { w with heap:=w.heap.setIfInBounds b (.map (cs.set i { cs[i] with key:=a.eval k,val:=a.eval x }).toArray clock) }:=by
     simp only[Instr.mapUpdate,Sem.run_bind,run_underlying ht,Result.andThen_ok,hobj,hck,hfk,hstay,hmod,hset]
    obtain⟨hext,hself⟩:=WZ (γ:=γ) (es':=(cs.set i { cs[i] with key:=a.eval k,val:=a.eval x }).toArray) (clock':=clock) hbb
    refine Xj (hexec _ hrun) (hn _ _ _ _ _ (hext.weaken fun c e=>by subst e;simp[keysOf,hb]) (Zu hs hext (.map kt' _ _ _ (fun y hy=>?_) hgk hself (by simp[hl]) (fun j y e hy he=>?_))) (y6 (by simp[hb])) (.tup [] [] rfl (by simp)) hK)
    ·rcases List.mem_or_eq_of_mem_set hy with h|h
     ·exact hff y h
     ·rw[h];exact hfit
    ·rw[List.getElem?_set] at hy he
     by_cases hij:i=j
     ·subst hij
      have hi':i<es.length:=by omega
      simp only[if_true,hi,hi',zx] at hy he
      subst hy;subst he
      exact⟨hconc,r3.mono hext.mono⟩
     ·simp only[hij,if_false] at hy he
      exact(hr j y e hy he).mono hext.mono
theorem XD (zero:List AV) (n:Nat):(yL zero n).length=n*zero.length:=by
 induction n with
 | zero=>simp[yL]
 | succ n ih=>simp only[yL,Qn,ih,Nat.succ_mul];omega
theorem VU (zero:List AV) (n i:Nat) (h:i<n*zero.length):(yL zero n)[i]?=zero[i % zero.length]?:=by
 induction n generalizing i with
 | zero=>simp at h
 | succ n ih =>
  simp only[yL]
  rcases Nat.lt_or_ge i zero.length with hi|hi
  ·rw[Y6 hi,Nat.mod_eq_of_lt hi]
  ·rw[X4 hi,ih _ (by rw[Nat.succ_mul] at h;omega)]
   congr 1
   exact(Nat.mod_eq_sub_mod hi).symm
theorem Zf (z:Array Value) (n i:Nat) (h:i<n) (hz:i % z.size<z.size):(madeCells z n).toList[i]?=z.toList[i % z.size]?:=by
 simp only[madeCells,Array.toList_map,Array.toList_range,yr,List.getElem?_range h,yv]
 rw[Array.getElem?_toList,Array.getElem?_eq_getElem hz]
 simp[hz]
theorem Pc {P:Program} {o:Oper} {t e:TypeId} {x y:Operand} {x':zu} {zero:List AV} {i:TypeInfo} {z:Value} (ho:o.op=.makeSlice t x y) (hx:zl x x'=true) (hy:zl y x'=true)
  (ht:P.underlying t=some (.slice e)) (hi:P.info? e=some i) (hz:i.zero=some z) (hzero:yB z.cells.toList zero=true) (hs0:z.cells.size=i.size) (h0:0<i.size):Z7 P o (.mksn zero i.bytes x'):=by
 intro γ w H ρ a K KP next Q he hs hop hn hp
 simp only[Zr,z6.cls,ZN,ZC] at hop
 have r1:=ze hx he
 have r2:=ze hy he
 cases hv:x'.ev ρ<;>simp only[hv] at hop r1 r2<;>try (exact(yP hs hop).elim)
 rename_i k c
 by_cases hcnd:0≤c∧c*(i.bytes:Int)≤140737488355328∧c≤9223372036854775807
 case neg=>simp only[hcnd,if_false] at hop;exact(yP hs hop).elim
 simp only[hcnd,and_self,if_true] at hop
 obtain⟨h1,h2,h3⟩:=hcnd
 generalize hg1:a.eval x=v1 at r1
 generalize hg2:a.eval y=v2 at r2
 cases r1
 cases r2
 have hrun:=run_make (P:=P) w t e i z ht hi hz k k c c h1 (Int.le_refl _) (by rw[Int.mul_comm];omega) h3
 have hext:=yp (fun _=>False) γ w .own (madeCells z.cells (c.toNat*i.size)) e
 have hf:=yZ (γ:=fun b=>if b=w.heap.size then BK.own else γ b) (w:=w.alloc (.cells (madeCells z.cells (c.toNat*i.size)) e)) hzero
 have hzl:zero.length=i.size:=by rw[hf.1,← hs0];simp
 have hlen:(yL zero c.toNat).length=(madeCells z.cells (c.toNat*i.size)).toList.length:=by
  rw[XD,hzl,Array.length_toList,size_madeCells]
 have hmod:∀ j,j % z.cells.size<z.cells.size:=fun j=>Nat.mod_lt _ (by omega)
 refine zB (v:=.slice (some ⟨w.heap.size,0,none⟩) c.toNat c.toNat) ?_ (hn _ _ _ _ _ (hext.weaken fun _ f=>f.elim) (yo (F:=fun _=>False) hs hext (.cells _ (madeCells z.cells (c.toNat*i.size)).toList e (by simp) ?_ hlen (fun j v hj=>?_) (fun j d v hd hj=>?_))) yc (.ms _ 0 _ _ (by simp) (yX _) (by unfold maxLen;omega)) (hop _ (yd hs)))
 ·simp only[execOp,ho,hg1,hg2,Sem.run_bind,hrun,Result.andThen_ok,Sem.run_pure]
 ·rw[heap_alloc_new]
 ·have hjl:j<c.toNat*i.size:=by have:=(yK.1 hj).1;rw[Array.length_toList,size_madeCells] at this;exact this
  rw[Zf _ _ _ hjl (hmod j)] at hj
  exact hf.2.1 _ _ hj
 ·have hjl:j<c.toNat*i.size:=by have:=(yK.1 hj).1;rw[Array.length_toList,size_madeCells] at this;exact this
  rw[Zf _ _ _ hjl (hmod j)] at hj
  rw[VU _ _ _ (by rw[hzl];exact hjl),hzl,← hs0] at hd
  exact hf.2.2 _ _ _ hd hj
theorem OE {P:Program} {o:Oper} {t e:TypeId} {x y:Operand} {kx:IntKind} {x':zu} {i:TypeInfo} {z:Value} (ho:o.op=.makeSlice t x y) (hx:zl x (.k (.int kx 0))=true) (hy:zl y x'=true)
  (ht:P.underlying t=some (.slice e)) (hi:P.info? e=some i) (hz:i.zero=some z):Z7 P o (.mks i.size i.bytes x'):=by
 intro γ w H ρ a K KP next Q he hs hop hn hp
 simp only[Zr,z6.cls,ZN,ZC] at hop
 have r1:=ze hx he
 have r2:=ze hy he
 simp only[zu.ev] at r1
 cases hv:x'.ev ρ<;>simp only[hv] at hop r2<;>try (exact(yP hs hop).elim)
 rename_i k c
 by_cases hcnd:0≤c∧c*(i.bytes:Int)≤140737488355328∧c≤9223372036854775807
 case neg=>simp only[hcnd,if_false] at hop;exact(yP hs hop).elim
 simp only[hcnd,and_self,if_true] at hop
 obtain⟨h1,h2,h3⟩:=hcnd
 generalize hg1:a.eval x=v1 at r1
 generalize hg2:a.eval y=v2 at r2
 cases r1
 cases r2
 have hrun:=run_make (P:=P) w t e i z ht hi hz kx k 0 c (Int.le_refl _) h1 (by rw[Int.mul_comm];omega) h3
 have hext:=yp (fun _=>False) γ w (.buf 0) (madeCells z.cells (c.toNat*i.size)) e
 refine zB (v:=.slice (some ⟨w.heap.size,0,none⟩) 0 c.toNat) ?_ (hn _ _ _ _ _ (hext.weaken fun _ f=>f.elim) (yo (F:=fun _=>False) hs hext (.tip 0 i.size _ e (by simp) (by rw[heap_alloc_new]) (by simp))) yc
  (.sl (.tip w.heap.size 0) i.size [] w.heap.size 0 c.toNat (fun _ _=>undef) (by simp) (by unfold maxLen;omega) (by simp) (by simp) (by simp) (.inr ⟨by rw[Nat.zero_mul],madeCells z.cells (c.toNat*i.size),e,by rw[heap_alloc_new],by rw[size_madeCells,Nat.zero_add]⟩)) (hop _ (yd hs)))
 simp only[execOp,ho,hg1,hg2,Sem.run_bind,hrun,Result.andThen_ok,Sem.run_pure,Int.toNat_zero]
theorem U2 {γ:Gh} {w:World} {zero:List AV} {z:Value} (hzero:yB z.cells.toList zero=true) (hpos:0<z.cells.size) (k:Nat):zi γ w (yL zero k) (Builtin.zeroCells z.cells k).toList:=by
 have hf:=yZ (γ:=γ) (w:=w) hzero
 have hzl:zero.length=z.cells.size:=by rw[hf.1];simp
 have hmc:Builtin.zeroCells z.cells k=madeCells z.cells (k*z.cells.size):=rfl
 have hmod:∀ j,j % z.cells.size<z.cells.size:=fun j=>Nat.mod_lt _ hpos
 rw[hmc]
 refine⟨by rw[XD,hzl,Array.length_toList,size_madeCells],fun j v hj=>?_,fun j d v hd hj=>?_⟩
 ·have hjl:j<k*z.cells.size:=by have:=(yK.1 hj).1;rw[Array.length_toList,size_madeCells] at this;exact this
  rw[Zf _ _ _ hjl (hmod j)] at hj
  exact hf.2.1 _ _ hj
 ·have hjl:j<k*z.cells.size:=by have:=(yK.1 hj).1;rw[Array.length_toList,size_madeCells] at this;exact this
  rw[Zf _ _ _ hjl (hmod j)] at hj
  rw[VU _ _ _ (by rw[hzl];exact hjl),hzl] at hd
  exact hf.2.2 _ _ _ hd hj
theorem zi.mono {γ γ':Gh} {w w':World} (m:Z9 γ w γ' w') {cs:List AV} {vs:List Value} (h:zi γ w cs vs):zi γ' w' cs vs:=⟨h.1,h.2.1,fun i c v hc hv=>(h.2.2 i c v hc hv).mono m⟩
theorem QC {P:Program} {o:Oper} {t tx e ex:TypeId} {x y:Operand} {x' y':zu} {i:TypeInfo} {z:Value} {sz bytes:Nat} {zero:List AV} (ho:o.op=.call { callee:=.builtin .append,args:=#[x,y],argTypes:=#[t,tx] }) (h:zl x x'=true) (h2:zl y y'=true)
  (ht:P.underlying t=some (.slice e)) (htx:P.underlying tx=some (.slice ex)) (hi:P.info? e=some i) (hz:i.zero=some z) (hsz:i.size=sz) (hby:i.bytes=bytes) (hzs:z.cells.size=sz) (hpos:0<sz) (hzero:yB z.cells.toList zero=true):Z7 P o (.appm sz bytes zero x' y'):=by
 intro γ w H ρ a K KP next Q he hs hop hn hp
 simp only[Zr,z6.cls,eff] at hop
 have r1:=ze h he
 have r2:=ze h2 he
 cases hy:y'.ev ρ<;>rw[hy] at hop r2<;>try (exact False.elim hop)
 rename_i own' s2 ys
 obtain⟨rfl,hzl,hop⟩:=hop
 obtain⟨news,hsrc,hnews,hys⟩:=Xt (P:=P) htx r2
 have hnews1:zi γ w (ys.flatten.map AV.strip1) news:=Ye hnews
 have hnl:news.length=ys.length*s2:=by rw[hsrc.newsLen]
 have hsrc':Src P i.size tx (a.eval y) ys.length news w:=by rw[hsz];exact hsrc
 have hexec:∀ v r w',a.eval x=v→(Builtin.append_ #[t,tx] o.type #[v,a.eval y]).run P w=.ok r w'→(execOp a.eval o).run P w=.ok (.value r) w':=fun v r w' hv hr=>by
  rw[← hv] at hr
  simp[execOp,ho,resolve,invoke,builtin,hr]
 have grown:∀(base:Option Addr) (len cap:Nat) (os:List AV) (olds:List Value),a.eval x=.slice base len cap→(Builtin.firstCells i.size len (.slice base len cap)).run P w.drew=.ok olds.toArray w.drew →
   zi γ w os olds→olds.length=len*s2→cap<len+ys.length→(len+ys.length)*bytes≤140737488355328→len+ys.length≤maxLen →
   (∀ b' cap',H b'=none→len+ys.length≤cap'→cap'≤maxLen→K (.ms b' 0 (len+ys.length) cap') (H.upd b' (.cells (os++ys.flatten.map AV.strip1++yL zero (cap'-(len+ys.length))))))→o.wp P a w next Q:=by
  intro base len cap os olds hv hold hfr holen hlt hbytes hmax hk
  have hr:=run_append_grow_src (P:=P) w t tx o.type e i z ht hi hz base len cap olds hold (a.eval y) ys.length news hsrc' hlt (by simp only[maxLen] at hmax;omega) (growslice_fits hlt (by rw[hby];exact hbytes))
  rw[← hv] at hr
  generalize hcap:grownCap w (len+ys.length) cap e=cap' at hr
  have hge:len+ys.length≤cap':=hcap▸grownCap_ge w _ cap e
  have hle:cap'≤maxLen:=hcap▸grownCap_le_maxLen w _ cap e hmax
  generalize harr:(olds++news).toArray++Builtin.zeroCells z.cells (cap'-(len+ys.length))=arr at hr
  have hext:yV (fun _=>False) γ w (fun b=>if b=w.heap.size then .own else γ b) (w.drew.alloc (.cells arr e)) :=
   (yC (fun _=>False) γ w).trans (yp (fun _=>False) γ w.drew .own arr e) (fun _ _ f=>f)
  have hnewb:(w.drew.alloc (.cells arr e)).heap[w.heap.size]?=some (.cells arr e (0,0)):=heap_alloc_new w.drew _
  have hrel:zi (fun b=>if b=w.heap.size then .own else γ b) (w.drew.alloc (.cells arr e)) (os++ys.flatten.map AV.strip1++yL zero (cap'-(len+ys.length))) arr.toList:=by
   have earr:arr.toList=(olds++news)++(Builtin.zeroCells z.cells (cap'-(len+ys.length))).toList:=by rw[← harr];simp
   rw[earr]
   exact zi.append (zi.mono hext.mono (zi.append hfr hnews1)) (U2 hzero (by omega) _)
  refine zB (hexec _ _ _ rfl hr) (hn _ _ _ _ _ (hext.weaken fun _ f=>f.elim) (yo (F:=fun _=>False) hs hext (.cells _ arr.toList e (by simp) (by simpa using hnewb) hrel.1 hrel.2.1 hrel.2.2)) yc ?_ (hk _ _ (yd hs) hge hle))
  exact .ms _ 0 _ _ (Zj.1 hnewb).1 hge hle
 cases hx:x'.ev ρ<;>simp only[hx] at hop r1<;>try (exact False.elim hop)
 ·rename_i own s1 xs
  cases own<;>try (exact False.elim hop)
  obtain⟨rfl,rfl,hbytes,hmax,hK1,hK2⟩:=hop
  generalize hv:a.eval x=v at r1
  cases r1 with
  | sl _ _ _ b off _ cv hc hm hu hcell hr ho=>exact ho.elim
  | sl0 _ _ _ ho=>simp at ho
  | slnil _ _ _ =>
   by_cases hy0:ys=[]
   ·subst hy0
    have hr:=yN (P:=P) t tx o.type e i ht hi (a.eval y) news hsrc'
    exact zB (hexec _ _ _ hv hr) (hn γ w H _ _ (.refl _ _ _) hs (zG.refl _ _) (.slnil .nil _ (by simp)) (hK1 rfl))
   ·have hp:0<ys.length:=List.length_pos_iff.2 hy0
    refine grown none 0 0 [] [] hv (run_firstCells_none _ _ _ _ _) ⟨rfl,by simp,by simp⟩ (by simp) (by omega) (by simpa using hbytes) (by simpa using hmax) fun b' cap' hb hc hm=>?_
    have:=hK2 hy0 b' cap' hb (by omega) hm
    simpa using this
 ·rename_i b off len cap
  obtain⟨hbytes,hmax,hK⟩:=hop
  cases hb:H b with
  | none=>simp[hb] at hK
  | some ob =>
   cases ob<;>simp only[hb] at hK<;>try (exact False.elim hK)
   rename_i cs
   generalize hv:a.eval x=v at r1
   cases r1 with
   | ms _ _ _ _ hlt hc hm =>
    cases hs b _ hb with
    | cells _ vs E hk hbb hl hone hr =>
     by_cases hroom:len+ys.length≤cap
     ·obtain⟨hfit,hk2⟩:=hK.1 hroom
      have e1:(len+ys.length)*s2=len*s2+ys.length*s2:=Nat.add_mul _ _ _
      have hrun:=Zz (P:=P) t tx o.type e i ht hi b off len cap vs.toArray E hbb (a.eval y) ys.length news hsrc' hroom (by rw[hsz,hnl];simp;omega)
      rw[hsz] at hrun
      generalize harr:(vs.toArray.toList.take (off+len*s2)++news++vs.toArray.toList.drop (off+len*s2+news.length))=vs' at hrun
      have harr2:vs.take (off+len*s2)++news++vs.drop (off+len*s2+news.length)=vs':=by rw[← harr]
      have hext:yV (fun c=>c=b) γ w γ (w.setRow b vs'.toArray) :=
       Yp hbb (by rw[← harr2];simp;omega) rfl (fun q hq=>by simp[y8,hk] at hq) (fun _ _=>rfl)
      have hf:zi γ w (splice cs (off+len*s2) (ys.flatten.map AV.strip1)) vs':=by
       rw[← harr2];exact zi.splice ⟨hl,hone,hr⟩ hnews1 _
      exact zB (hexec _ _ _ hv hrun) (hn γ _ _ _ _ (hext.weaken fun c e=>by subst e;simp[keysOf,hb]) (Zu hs hext (.cells _ _ E hk (ZB w b _ _ E _ hbb) hf.1 hf.2.1 fun i c v hc hv=>(hf.2.2 i c v hc hv).mono hext.mono))
       (y6 (by simp[hb])) (.ms b off _ cap (by simpa using hlt) hroom hm) hk2)
     ·obtain⟨hfit,hk2⟩:=hK.2 (by omega)
      have hlen:((vs.drop off).take (len*s2)).length=len*s2:=by simp;omega
      refine grown (some ⟨b,off,none⟩) len cap ((cs.drop off).take (len*s2)) ((vs.drop off).take (len*s2)) hv ?_ ?_ hlen (by omega) hbytes hmax hk2
      ·refine run_firstCells_some w.drew i.size len ⟨b,off,none⟩ len cap _ (by rw[hsz];exact hlen) fun j u hj=>?_
       rw[addr_add,cell_of_row w.drew b _ _ E _ hbb]
       rw[Yj] at hj
       split at hj
       ·rw[List.getElem?_drop] at hj;simpa using hj
       ·cases hj
      ·refine⟨by simp[hl],fun j u hj=>?_,fun j c u hc hj=>?_⟩
       ·rw[Yj] at hj
        split at hj
        ·rw[List.getElem?_drop] at hj;exact hone _ _ hj
        ·cases hj
       ·rw[Yj] at hj hc
        split at hj
        ·rename_i hlt2
         rw[if_pos hlt2] at hc
         rw[List.getElem?_drop] at hj hc;exact hr _ _ _ hc hj
        ·cases hj
theorem S9 {P:Program} {o:Oper} {t tx e ex:TypeId} {x y:Operand} {x' y':zu} {i:TypeInfo} {z:Value} {sz bytes:Nat} {zero:List AV} (ho:o.op=.call { callee:=.builtin .append,args:=#[x,y],argTypes:=#[t,tx] }) (h:zl x x'=true) (h2:zl y y'=true)
  (ht:P.underlying t=some (.slice e)) (htx:P.underlying tx=some (.slice ex)) (hi:P.info? e=some i) (hz:i.zero=some z) (hsz:i.size=sz) (hby:i.bytes=bytes) (hzs:z.cells.size=sz) (hpos:0<sz) (hzero:yB z.cells.toList zero=true):Z7 P o (.appm2 sz bytes zero x' y'):=by
 intro γ w H ρ a K KP next Q he hs hop hn hp
 simp only[Zr,z6.cls,eff] at hop
 have r1:=ze h he
 have r2:=ze h2 he
 cases hy:y'.ev ρ<;>rw[hy] at hop r2<;>try (exact False.elim hop)
 rename_i own' s2 ys
 obtain⟨rfl,hzl,hop⟩:=hop
 obtain⟨news,hsrc,hnews,hys⟩:=Xt (P:=P) htx r2
 have hnews1:zi γ w (ys.flatten.map AV.strip2) news:=Ve hnews
 have hnl:news.length=ys.length*s2:=by rw[hsrc.newsLen]
 have hsrc':Src P i.size tx (a.eval y) ys.length news w:=by rw[hsz];exact hsrc
 have hexec:∀ v r w',a.eval x=v→(Builtin.append_ #[t,tx] o.type #[v,a.eval y]).run P w=.ok r w'→(execOp a.eval o).run P w=.ok (.value r) w':=fun v r w' hv hr=>by
  rw[← hv] at hr
  simp[execOp,ho,resolve,invoke,builtin,hr]
 have grown:∀(base:Option Addr) (len cap:Nat) (os:List AV) (olds:List Value),a.eval x=.slice base len cap→(Builtin.firstCells i.size len (.slice base len cap)).run P w.drew=.ok olds.toArray w.drew →
   zi γ w os olds→olds.length=len*s2→cap<len+ys.length→(len+ys.length)*bytes≤140737488355328→len+ys.length≤maxLen →
   (∀ b' cap',H b'=none→len+ys.length≤cap'→cap'≤maxLen→K (.ms b' 0 (len+ys.length) cap') (H.upd b' (.cells (os++ys.flatten.map AV.strip2++yL zero (cap'-(len+ys.length))))))→o.wp P a w next Q:=by
  intro base len cap os olds hv hold hfr holen hlt hbytes hmax hk
  have hr:=run_append_grow_src (P:=P) w t tx o.type e i z ht hi hz base len cap olds hold (a.eval y) ys.length news hsrc' hlt (by simp only[maxLen] at hmax;omega) (growslice_fits hlt (by rw[hby];exact hbytes))
  rw[← hv] at hr
  generalize hcap:grownCap w (len+ys.length) cap e=cap' at hr
  have hge:len+ys.length≤cap':=hcap▸grownCap_ge w _ cap e
  have hle:cap'≤maxLen:=hcap▸grownCap_le_maxLen w _ cap e hmax
  generalize harr:(olds++news).toArray++Builtin.zeroCells z.cells (cap'-(len+ys.length))=arr at hr
  have hext:yV (fun _=>False) γ w (fun b=>if b=w.heap.size then .own else γ b) (w.drew.alloc (.cells arr e)) :=
   (yC (fun _=>False) γ w).trans (yp (fun _=>False) γ w.drew .own arr e) (fun _ _ f=>f)
  have hnewb:(w.drew.alloc (.cells arr e)).heap[w.heap.size]?=some (.cells arr e (0,0)):=heap_alloc_new w.drew _
  have hrel:zi (fun b=>if b=w.heap.size then .own else γ b) (w.drew.alloc (.cells arr e)) (os++ys.flatten.map AV.strip2++yL zero (cap'-(len+ys.length))) arr.toList:=by
   have earr:arr.toList=(olds++news)++(Builtin.zeroCells z.cells (cap'-(len+ys.length))).toList:=by rw[← harr];simp
   rw[earr]
   exact zi.append (zi.mono hext.mono (zi.append hfr hnews1)) (U2 hzero (by omega) _)
  refine zB (hexec _ _ _ rfl hr) (hn _ _ _ _ _ (hext.weaken fun _ f=>f.elim) (yo (F:=fun _=>False) hs hext (.cells _ arr.toList e (by simp) (by simpa using hnewb) hrel.1 hrel.2.1 hrel.2.2)) yc ?_ (hk _ _ (yd hs) hge hle))
  exact .ms _ 0 _ _ (Zj.1 hnewb).1 hge hle
 cases hx:x'.ev ρ<;>simp only[hx] at hop r1<;>try (exact False.elim hop)
 ·rename_i own s1 xs
  cases own<;>try (exact False.elim hop)
  obtain⟨rfl,rfl,hbytes,hmax,hK1,hK2⟩:=hop
  generalize hv:a.eval x=v at r1
  cases r1 with
  | sl _ _ _ b off _ cv hc hm hu hcell hr ho=>exact ho.elim
  | sl0 _ _ _ ho=>simp at ho
  | slnil _ _ _ =>
   by_cases hy0:ys=[]
   ·subst hy0
    have hr:=yN (P:=P) t tx o.type e i ht hi (a.eval y) news hsrc'
    exact zB (hexec _ _ _ hv hr) (hn γ w H _ _ (.refl _ _ _) hs (zG.refl _ _) (.slnil .nil _ (by simp)) (hK1 rfl))
   ·have hp:0<ys.length:=List.length_pos_iff.2 hy0
    refine grown none 0 0 [] [] hv (run_firstCells_none _ _ _ _ _) ⟨rfl,by simp,by simp⟩ (by simp) (by omega) (by simpa using hbytes) (by simpa using hmax) fun b' cap' hb hc hm=>?_
    have:=hK2 hy0 b' cap' hb (by omega) hm
    simpa using this
 ·rename_i b off len cap
  obtain⟨hbytes,hmax,hK⟩:=hop
  cases hb:H b with
  | none=>simp[hb] at hK
  | some ob =>
   cases ob<;>simp only[hb] at hK<;>try (exact False.elim hK)
   rename_i cs
   generalize hv:a.eval x=v at r1
   cases r1 with
   | ms _ _ _ _ hlt hc hm =>
    cases hs b _ hb with
    | cells _ vs E hk hbb hl hone hr =>
     by_cases hroom:len+ys.length≤cap
     ·obtain⟨hfit,hk2⟩:=hK.1 hroom
      have e1:(len+ys.length)*s2=len*s2+ys.length*s2:=Nat.add_mul _ _ _
      have hrun:=Zz (P:=P) t tx o.type e i ht hi b off len cap vs.toArray E hbb (a.eval y) ys.length news hsrc' hroom (by rw[hsz,hnl];simp;omega)
      rw[hsz] at hrun
      generalize harr:(vs.toArray.toList.take (off+len*s2)++news++vs.toArray.toList.drop (off+len*s2+news.length))=vs' at hrun
      have harr2:vs.take (off+len*s2)++news++vs.drop (off+len*s2+news.length)=vs':=by rw[← harr]
      have hext:yV (fun c=>c=b) γ w γ (w.setRow b vs'.toArray) :=
       Yp hbb (by rw[← harr2];simp;omega) rfl (fun q hq=>by simp[y8,hk] at hq) (fun _ _=>rfl)
      have hf:zi γ w (splice cs (off+len*s2) (ys.flatten.map AV.strip2)) vs':=by
       rw[← harr2];exact zi.splice ⟨hl,hone,hr⟩ hnews1 _
      exact zB (hexec _ _ _ hv hrun) (hn γ _ _ _ _ (hext.weaken fun c e=>by subst e;simp[keysOf,hb]) (Zu hs hext (.cells _ _ E hk (ZB w b _ _ E _ hbb) hf.1 hf.2.1 fun i c v hc hv=>(hf.2.2 i c v hc hv).mono hext.mono))
       (y6 (by simp[hb])) (.ms b off _ cap (by simpa using hlt) hroom hm) hk2)
     ·obtain⟨hfit,hk2⟩:=hK.2 (by omega)
      have hlen:((vs.drop off).take (len*s2)).length=len*s2:=by simp;omega
      refine grown (some ⟨b,off,none⟩) len cap ((cs.drop off).take (len*s2)) ((vs.drop off).take (len*s2)) hv ?_ ?_ hlen (by omega) hbytes hmax hk2
      ·refine run_firstCells_some w.drew i.size len ⟨b,off,none⟩ len cap _ (by rw[hsz];exact hlen) fun j u hj=>?_
       rw[addr_add,cell_of_row w.drew b _ _ E _ hbb]
       rw[Yj] at hj
       split at hj
       ·rw[List.getElem?_drop] at hj;simpa using hj
       ·cases hj
      ·refine⟨by simp[hl],fun j u hj=>?_,fun j c u hc hj=>?_⟩
       ·rw[Yj] at hj
        split at hj
        ·rw[List.getElem?_drop] at hj;exact hone _ _ hj
        ·cases hj
       ·rw[Yj] at hj hc
        split at hj
        ·rename_i hlt2
         rw[if_pos hlt2] at hc
         rw[List.getElem?_drop] at hj hc;exact hr _ _ _ hc hj
        ·cases hj
theorem Yc (sz:Nat):∀(n:Nat) (cs:List AV),(ZT sz n cs).length=n
 | 0,_=>rfl
 | n+1,cs=>by simp[ZT,Yc sz n]
theorem Xh (sz:Nat):∀(n:Nat) (cs:List AV),n*sz≤cs.length→∀ x∈ZT sz n cs,x.length=sz
 | 0,_,_,x,hx=>by cases hx
 | n+1,cs,h,x,hx=>by
  rw[Nat.succ_mul] at h
  rcases List.mem_cons.1 hx with rfl|hx
  ·simp;omega
  ·exact Xh sz n (cs.drop sz) (by simp;omega) x hx
theorem ZZ (sz:Nat):∀(n:Nat) (cs:List AV),n*sz≤cs.length→(ZT sz n cs).flatten=(cs.take (n*sz)).map AV.strip1
 | 0,_,_=>by simp[ZT]
 | n+1,cs,h=>by
  rw[Nat.succ_mul] at h
  rw[ZT,List.flatten_cons,ZZ sz n (cs.drop sz) (by simp;omega),← List.map_append,Nat.succ_mul,Nat.add_comm,List.take_add]
theorem RB {P:Program} {o:Oper} {x:Operand} {x':zu} {sz:Nat} (ho:o.op=.move x∨o.op=.assign x) (h:zl x x'=true):Z7 P o (.frz sz x'):=by
 intro γ w H ρ a K KP next Q he hs hop hn hp
 simp only[Zr,z6.cls,eff] at hop
 have r1:=ze h he
 cases hx:x'.ev ρ<;>simp only[hx] at hop r1<;>try (exact False.elim hop)
 rename_i b off len cap
 simp only[WG] at hop
 cases hb:H b with
 | none=>simp[hb] at hop
 | some ob =>
  cases ob<;>simp only[hb] at hop<;>try (exact False.elim hop)
  rename_i cs
  obtain⟨hpos,hfit,hK⟩:=hop
  generalize hv:a.eval x=v at r1
  cases r1 with
  | ms _ _ _ _ hlt hc hm =>
   cases hs b _ hb with
   | cells _ vs E hk hbb hl hone hr =>
    have hext:yV (fun c=>c=b) γ w (fun c=>if c=b then .imm else γ c) w:=by
     refine⟨⟨yX _,fun c q u hu hp=>⟨?_,hu⟩,fun c arr E fr hc=>⟨arr,hc,rfl⟩⟩,rfl,rfl,fun _ _=>rfl,fun c _ hc=>⟨by simp[hc],rfl⟩⟩
     by_cases e:c=b
     ·simp[y8,e]
     ·simpa[y8,e] using hp
    have hrun:(execOp a.eval o).run P w=.ok (.value (.slice (some ⟨b,off,none⟩) len cap)) w:=by
     rcases ho with ho|ho<;>simp[execOp,ho,hv]
    have hfit2:len*sz≤(cs.drop off).length:=by simp;omega
    refine zB hrun (hn _ _ (H.del b) _ _ (hext.weaken fun c e=>by subst e;simp[keysOf,hb]) ((YW hs b).kept hext fun c oo hc e=>by subst e;simp[zb.del] at hc) (fun c hc=>?_) ?_ hK)
    ·unfold zb.del at hc
     split at hc
     ·cases hc
     ·exact .inl hc
    ·have hrl:=Yc sz len (cs.drop off)
     have hfl:=ZZ sz len (cs.drop off) hfit2
     have key:Rep (fun c=>if c=b then .imm else γ c) w (.sl .no sz (ZT sz len (cs.drop off))) (.slice (some ⟨b,off,none⟩) (ZT sz len (cs.drop off)).length cap):=by
      refine Rep.sl_flat (us:=(vs.drop off).take (len*sz)) (Xh sz len _ hfit2) (by rw[hfl];simp[hl]) (fun j u hj=>?_) (fun j c u hc hj=>?_) (by rw[hrl];exact hc) hm trivial
      ·rw[Yj] at hj
       split at hj
       ·rw[List.getElem?_drop] at hj
        refine⟨?_,by simp[y8],hone _ _ hj⟩
        rw[cell_of_row w b _ _ E _ hbb];simpa using hj
       ·cases hj
      ·rw[hfl,yr] at hc
       rw[Yj] at hj hc
       split at hj
       ·rename_i hlt2
        rw[if_pos hlt2] at hc
        rw[List.getElem?_drop] at hj hc
        cases hcc:cs[off+j]? with
        | none=>simp[hcc] at hc
        | some d=>simp only[hcc,yv,zx] at hc;subst hc;exact((hr _ _ _ hcc hj).mono hext.mono).strip1
       ·cases hj
     rwa [hrl] at key
theorem Tq {P:Program} {w:World} (n:Nat) (k:IntKind) (h:Int) (h0:0≤h) (h1:h≤n):(Instr.sliceBounds false n n none (some (.int k h)) none).run P w=.ok (0,h.toNat,n) w:=by
 have b1:∀ code,(Instr.sliceBound (.int k h) n code).run P w=.ok h.toNat w:=fun code=>yk k h _ code (by omega) (by omega)
 unfold Instr.sliceBounds
 simp[b1]
theorem Te {P:Program} {o:Oper} {t e:TypeId} {x y:Operand} {n b off:Nat} {k:IntKind} {h:Int} {ei:TypeInfo} {a:Act} {w:World} (ho:o.op=.slice t x none (some y) none) (ht:P.underlying t=some (.array n e)) (hei:P.info? e=some ei)
  (hx:a.eval x=.pointer (some ⟨b,off,none⟩)) (hy:a.eval y=.int k h) (h0:0≤h) (h1:h≤n):(execOp a.eval o).run P w=.ok (.value (.slice (some ⟨b,off,none⟩) h.toNat n)) w:=by
 simp only[execOp,ho,hx,Instr.sliceAt,Sem.run_bind,run_underlying ht,Result.andThen_ok,Instr.sureAddr,Option.map_none,yv,hy,Tq n k h h0 h1,sizeOf,typeInfo,run_program,hei,Sem.run_pure]
 by_cases hn:n=0<;>simp[hn,Addr.add]
theorem QL {P:Program} {o:Oper} {t e:TypeId} {x y:Operand} {x' y':zu} {n:Nat} {ei:TypeInfo} (ho:o.op=.slice t x none (some y) none) (h:zl x x'=true) (hy:zl y y'=true)
  (ht:P.underlying t=some (.array n e)) (hei:P.info? e=some ei) (hm:n≤maxLen):zT P o (.slar n x' y'):=by
 intro γ w ρ a c he hc
 have r1:=ze h he
 simp only[zY] at hc
 cases hx:x'.ev ρ<;>simp only[hx] at hc r1<;>try (cases hc;done)
 rename_i b off
 cases hyv:y'.ev ρ<;>simp only[hyv] at hc<;>try (cases hc;done)
 rename_i k h'
 split at hc
 ·rename_i hk
  simp only[zx] at hc
  subst hc
  obtain⟨ky,hky⟩:=yG (P:=P) (w:=w) (d:=0) (n:=h') (ze hy he) (by simp[bound,hyv])
  generalize hv:a.eval x=v at r1
  cases r1 with
  | ptr _ _ hlt=>exact zm (Te ho ht hei hv hky hk.1 hk.2) (.ms b off h'.toNat n hlt (by omega) hm)
 ·cases hc
theorem Pl {P:Program} {o:Oper} {t e:TypeId} {x y:Operand} {x' y':zu} {n sz:Nat} {ei:TypeInfo} (ho:o.op=.slice t x none (some y) none) (h:zl x x'=true) (hy:zl y y'=true)
  (ht:P.underlying t=some (.array n e)) (hei:P.info? e=some ei) (hm:n≤maxLen):Z7 P o (.slaf n sz x' y'):=by
 intro γ w H ρ a K KP next Q he hs hop hn hp
 simp only[Zr,z6.cls,eff] at hop
 have r1:=ze h he
 cases hx:x'.ev ρ<;>simp only[hx,VI] at hop r1<;>try (exact False.elim hop)
 rename_i b off
 cases hyv:y'.ev ρ<;>simp only[hyv] at hop<;>try (exact False.elim hop)
 rename_i k h'
 obtain⟨h0,h1,hop⟩:=hop
 simp only[WG] at hop
 obtain⟨ky,hky⟩:=yG (P:=P) (w:=w) (d:=0) (n:=h') (ze hy he) (by simp[bound,hyv])
 have hcap:h'.toNat≤n:=by omega
 cases hb:H b with
 | none=>simp[hb] at hop
 | some ob =>
  cases ob<;>simp only[hb] at hop<;>try (exact False.elim hop)
  rename_i cs
  obtain⟨hpos,hfit,hK⟩:=hop
  generalize hv:a.eval x=v at r1
  cases r1 with
  | ptr _ _ hlt =>
   cases hs b _ hb with
   | cells _ vs E hk hbb hl hone hr =>
    have hext:yV (fun c=>c=b) γ w (fun c=>if c=b then .imm else γ c) w:=by
     refine⟨⟨yX _,fun c q u hu hp=>⟨?_,hu⟩,fun c arr E fr hc=>⟨arr,hc,rfl⟩⟩,rfl,rfl,fun _ _=>rfl,fun c _ hc=>⟨by simp[hc],rfl⟩⟩
     by_cases e:c=b
     ·simp[y8,e]
     ·simpa[y8,e] using hp
    have hrun:=Te (w:=w) ho ht hei hv hky h0 h1
    have hfit2:h'.toNat*sz≤(cs.drop off).length:=by simp;omega
    refine zB hrun (hn _ _ (H.del b) _ _ (hext.weaken fun c e=>by subst e;simp[keysOf,hb]) ((YW hs b).kept hext fun c oo hc e=>by subst e;simp[zb.del] at hc) (fun c hc=>?_) ?_ hK)
    ·unfold zb.del at hc
     split at hc
     ·cases hc
     ·exact .inl hc
    ·have hrl:=Yc sz h'.toNat (cs.drop off)
     have hfl:=ZZ sz h'.toNat (cs.drop off) hfit2
     have key:Rep (fun c=>if c=b then .imm else γ c) w (.sl .no sz (ZT sz h'.toNat (cs.drop off))) (.slice (some ⟨b,off,none⟩) (ZT sz h'.toNat (cs.drop off)).length n):=by
      refine Rep.sl_flat (us:=(vs.drop off).take (h'.toNat*sz)) (Xh sz h'.toNat _ hfit2) (by rw[hfl];simp[hl]) (fun j u hj=>?_) (fun j c u hc hj=>?_) (by rw[hrl];exact hcap) hm trivial
      ·rw[Yj] at hj
       split at hj
       ·rw[List.getElem?_drop] at hj
        refine⟨?_,by simp[y8],hone _ _ hj⟩
        rw[cell_of_row w b _ _ E _ hbb];simpa using hj
       ·cases hj
      ·rw[hfl,yr] at hc
       rw[Yj] at hj hc
       split at hj
       ·rename_i hlt2
        rw[if_pos hlt2] at hc
        rw[List.getElem?_drop] at hj hc
        cases hcc:cs[off+j]? with
        | none=>simp[hcc] at hc
        | some d=>simp only[hcc,yv,zx] at hc;subst hc;exact((hr _ _ _ hcc hj).mono hext.mono).strip1
       ·cases hj
     rwa [hrl] at key
theorem Pm {P:Program} {o:Oper} {t e:TypeId} {n sz:Nat} {parts:Array (Nat×Operand)} {qs:List (Nat×zu)} {zero:List AV} {ei:TypeInfo} {z:Value} (ho:o.op=.buildSlice t n parts)
  (ht:P.underlying t=some (.slice e)) (hi:P.info? e=some ei) (hz:ei.zero=some z) (hsz:ei.size=sz) (hpos:0<sz) (hsmall:n*sz≤2 ^ 24) (hzero:yB z.cells.toList zero=true)
  (hparts:yq parts.toList qs=true):Z7 P o (.blsm sz n zero qs):=by
 intro γ w H ρ a K KP next Q he hs hop hn hp
 simp only[Zr,z6.cls,ZN,ZC] at hop
 by_cases hzl:zero.length=sz
 case neg=>simp only[hzl,if_false] at hop;exact(yP hs hop).elim
 simp only[hzl,if_true] at hop
 cases hf:yH AV.strip1 ρ sz (List.replicate n zero) qs with
 | none=>simp only[hf,Option.map_none] at hop;exact(yP hs hop).elim
 | some ys =>
  simp only[hf,yv] at hop
  obtain⟨hz1,hz2,hz3⟩:=Zw hzero γ w
  have huni:∀ x∈List.replicate n zero,x.length=sz:=fun x hx=>by rw[(List.mem_replicate.1 hx).2];exact hzl
  have hfl:(List.replicate n zero).flatten.length=n*sz:=by rw[zV sz _ huni];simp
  have hzs:z.cells.size=sz:=by have:=hz1;simp at this;omega
  have hstart:zi γ w (List.replicate n zero).flatten ((List.range (n*sz)).map (fun k=>z.cells.toList.getD (k % sz) undef)):=by
   refine⟨by simp[hfl],fun i v hv=>?_,fun i c v hc hv=>?_⟩
   ·simp only[yr,Zh] at hv
    obtain⟨k,_,rfl⟩:=hv
    have hlt:k % sz<z.cells.toList.length:=by simp[hzs];exact Nat.mod_lt _ hpos
    exact hz2 (k % sz) _ (by rw[List.getD,Yx hlt];rfl)
   ·simp only[yr,Zh] at hv
    obtain⟨k,hk,rfl⟩:=hv
    obtain⟨h1,h2⟩:=yK.1 hk
    simp at h1 h2
    subst h2
    rw[y0 zero n i (by rw[hfl];exact h1),hzl] at hc
    have hlt:i % sz<z.cells.toList.length:=by simp[hzs];exact Nat.mod_lt _ hpos
    exact hz3 (i % sz) c _ hc (by rw[List.getD,Yx hlt];rfl)
  obtain⟨us,hus,hru,huy,hly⟩:=Y1 Ye he parts.toList qs _ _ ys hparts hf huni hstart
  have hext:=yp (fun _=>False) γ w .own us.toArray e
  have hcells:∀ f:Nat→Value,((List.range (n*sz)).map f).toArray=(Array.range (n*sz)).map f:=fun f=>by apply Array.ext';simp
  have hrun:(execOp a.eval o).run P w=.ok (.value (.slice (some ⟨w.heap.size,0,none⟩) n n)) (w.alloc (.cells us.toArray e)):=by
   have hstart':(Array.range (n*sz)).map (z.cells[· % z.cells.size]!)=((List.range (n*sz)).map (fun k=>z.cells.toList.getD (k % sz) undef)).toArray:=by
    rw[hcells]
    apply Array.map_congr_left
    intro k hk
    have hlt:k % sz<z.cells.size:=by rw[hzs];exact Nat.mod_lt _ hpos
    rw[hzs]
    simp[List.getD,hlt]
   have hmap:(parts.map fun(x:Nat×Operand)=>(x.1,a.eval x.2)).toList=parts.toList.map fun(i,x)=>(i,a.eval x):=by simp
   have hnot:¬ n*ei.size > 2 ^ 24:=by rw[hsz];omega
   simp only[execOp,ho,Instr.buildSlice,Sem.run_bind,run_underlying ht,Result.andThen_ok,sizeOf,typeInfo,run_program,hi,Sem.run_pure,hsz,zeroValue,hz]
   rw[hsz] at hnot
   rw[← hstart'] at hus
   by_cases hn:n*sz=0
   ·have h0:∀ f:Nat→Value,(Array.range 0).map f=#[]:=fun f=>by apply Array.ext';simp
    rw[hn,h0] at hus
    simp[hn,h0,hus,newRow]
   ·simp[hn,hnot,hus,newRow,zeroValue,typeInfo,hi,hz]
  have hnm:n≤maxLen:=by
   have:n*1≤n*sz:=Nat.mul_le_mul_left _ hpos
   unfold maxLen;omega
  have hru':=zi.mono hext.mono hru
  exact zB hrun (hn _ _ _ _ _ (hext.weaken fun _ f=>f.elim) (yo (F:=fun _=>False) hs hext (.cells _ us e (by simp) (heap_alloc_new w _) hru'.1 hru'.2.1 hru'.2.2)) yc (.ms _ 0 n n (by simp) (yX _) hnm) (hop _ (yd hs)))
end Go.Ab
