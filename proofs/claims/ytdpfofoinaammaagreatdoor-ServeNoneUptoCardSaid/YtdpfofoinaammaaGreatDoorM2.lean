import Derived.RangeFuncSeq
import Derived.Below
import Derived.RangeFuncLeaves
import Derived.ProofKit
import Derived.SizedLaws
import Derived.WideKeyArgs
import Derived.Recover
import Derived.Test.YtdpfofoinaammaaGreatDoorM1
set_option maxRecDepth 100000
set_option linter.all false
namespace Go.Ab
def yh (P:Program) (t:TypeId):Option TypeInfo :=
 match P.underlying t with
 | some (.slice e)=>P.info? e
 | _=>none
def zM (P:Program) (o:Oper):z6→Bool
 | .mv y=>match o.op with
  | .move x=>zl x y
  | .assign x=>zl x y
  | _=>false
 | .pick a b c=>match o.op with
  | .pick x y z=>zl x a&&zl y b&&zl z c
  | _=>false
 | .nilchk y=>match o.op with
  | .nilCheck x=>zl x y
  | _=>false
 | .bi op k a b=>match o.op with
  | .binOp op' _ x y _=>decide (op'=op)&&decide (op≠.shl)&&decide (op≠.shr)&&zl x a&&zl y b
  | _=>false
 | .shf op a b=>match o.op with
  | .binOp op' _ x y _=>decide (op'=op)&&zl x a&&zl y b
  | _=>false
 | .bs op a b=>match o.op with
  | .binOp op' _ x y _=>decide (op'=op)&&zl x a&&zl y b
  | _=>false
 | .bb neg a b=>match o.op with
  | .binOp op' t x y _=>decide (op'=if neg then .neq else .eql)&&zl x a&&zl y b&&(match P.underlying t with|some .bool=>true|_=>false)
  | _=>false
 | .eqa neg ks a b=>match o.op with
  | .binOp op' t x y _=>decide (op'=if neg then .neq else .eql)&&zl x a&&zl y b&&(match P.underlying t with|some (.struct fs)=>ZK P fs.toList 0 ks|_=>false)&&!P.stoodInHeld t&&!P.eqGuardType P.depth t
  | _=>false
 | .isnil nk a=>match o.op with
  | .binOp .eql t x y _=>zl x a&&VM nk (P.underlying t) y
  | _=>false
 | .isnn nk a=>match o.op with
  | .binOp .neq t x y _=>zl x a&&VM nk (P.underlying t) y
  | _=>false
 | .ifnil neg a=>match o.op with
  | .binOp op' t x y _=>decide (op'=if neg then .neq else .eql)&&zl x a&&(match y with|.const .nilIface=>true|_=>false)&&isIface (P.underlying t)
  | _=>false
 | .tas t zero a=>match o.op with
  | .typeAssert x _ t' true=>decide (t'=t)&&zl x a&&Zl (P.underlying t)&&((P.info? t).any fun ti=>ti.zero.any fun z=>TS z zero)
  | _=>false
 | .ineg a=>match o.op with
  | .unOp .neg _ x=>zl x a
  | _=>false
 | .not a=>match o.op with
  | .unOp .not _ x=>zl x a
  | _=>false
 | .cvi k a=>match o.op with
  | .convert s d x=>zl x a&&(P.underlying s).isSome&&(match P.underlying d with|some (.int k')=>decide (k'=k)|_=>false)
  | _=>false
 | .cvid a=>match o.op with
  | .convert s d x=>zl x a&&(P.underlying s).isSome&&(match P.underlying d with|some .string=>true|_=>false)
  | _=>false
 | .cvb2s a=>match o.op with
  | .convert s d x=>zl x a&&(match P.underlying s with|some (.slice e)=>(match P.underlying e with|some (.int .u8)=>true|_=>false)|_=>false)&&(match P.underlying d with|some .string=>true|_=>false)
  | _=>false
 | .bld zero qs=>match o.op with
  | .build t parts=>((P.info? t).any fun ti=>ti.zero.any fun z=>yB z.cells.toList zero)&&((Uo P t).any fun place=>ZF place parts.toList qs)
  | _=>false
 | .bls sz n zero qs=>match o.op with
  | .buildSlice t n' parts=>decide (n'=n)&&((yh P t).any fun ei=>decide (ei.size=sz)&&ei.zero.any fun z=>yB z.cells.toList zero)&&decide (0<sz)&&decide (n*sz≤2 ^ 24)&&yq parts.toList qs
  | _=>false
 | .bls2 sz n zero qs=>match o.op with
  | .buildSlice t n' parts=>decide (n'=n)&&((yh P t).any fun ei=>decide (ei.size=sz)&&ei.zero.any fun z=>yB z.cells.toList zero)&&decide (0<sz)&&decide (n*sz≤2 ^ 24)&&yq parts.toList qs
  | _=>false
 | .mkfn f first caps=>match o.op with
  | .makeFunc (.func f') a b=>decide (f'=f)&&y5 a.toList first&&y5 b.toList caps
  | _=>false
 | .ext a i=>match o.op with
  | .extract x i'=>decide (i'=i)&&zl x a
  | _=>false
 | .mki t a=>match o.op with
  | .makeInterface t' x=>decide (t'=t)&&zl x a&&Zl (P.underlying t)
  | _=>false
 | .fa off a=>match o.op with
  | .fieldAddr s x i=>zl x a&&(match P.underlying s with
    | some (.struct fs)=>(fs[i]?.any fun f=>decide (f.offset=off)&&(P.info? f.type).any fun fi=>decide (fi.size≠0))
    | _=>false)
  | _=>false
 | .fld off n ag a=>match o.op with
  | .field t x i=>zl x a&&(match P.underlying t with
    | some (.struct fs)=>(fs[i]?.any fun f=>decide (f.offset=off)&&((P.info? f.type).any fun fi=>decide (fi.size=n))&&(P.underlying f.type).isSome&&decide (YB (P.underlying f.type)=ag)&&(ag||decide (n=1)))
    | _=>false)
  | _=>false
 | .ia sz a i=>match o.op with
  | .indexAddr t x y=>zl x a&&zl y i&&((yh P t).any fun ei=>decide (ei.size=sz))
  | _=>false
 | .iar n sz a i=>match o.op with
  | .indexAddr t x y=>zl x a&&zl y i&&(match P.underlying t with|some (.array n' e)=>decide (n'=n)&&((P.info? e).any fun ei=>decide (ei.size=sz))|_=>false)
  | _=>false
 | .ixs a i=>match o.op with
  | .index t x y=>zl x a&&zl y i&&(match P.underlying t with|some .string=>true|_=>false)
  | _=>false
 | .sls a lo hi=>match o.op with
  | .slice t x l h none=>zl x a&&Zg l lo&&Zg h hi&&(match P.underlying t with|some .string=>true|_=>false)
  | _=>false
 | .sll sz a lo hi mx=>match o.op with
  | .slice t x l h m=>zl x a&&Zg l lo&&Zg h hi&&Zg m mx&&(!mx.isSome||hi.isSome)&&((yh P t).any fun ei=>decide (ei.size=sz))
  | _=>false
 | .sllx sz a hi=>match o.op with
  | .slice t x none (some h) none=>zl x a&&zl h hi&&((yh P t).any fun ei=>decide (ei.size=sz))
  | _=>false
 | .len a=>match o.op with
  | .call { callee:=.builtin .len,args:=as,argTypes:=ts }=>match as.toList with
   | [x]=>zl x a&&(ts[0]?.any fun t=>match P.underlying t with|some (.slice _)=>true|_=>false)
   | _=>false
  | _=>false
 | .lens a=>match o.op with
  | .call { callee:=.builtin .len,args:=as,argTypes:=ts }=>match as.toList with
   | [x]=>zl x a&&(ts[0]?.any fun t=>match P.underlying t with|some .string=>true|_=>false)
   | _=>false
  | _=>false
 | .lenm a=>match o.op with
  | .call { callee:=.builtin .len,args:=as,argTypes:=ts }=>match as.toList with
   | [x]=>zl x a&&(ts[0]?.any fun t=>match P.underlying t with|some (.map _ _)=>true|_=>false)
   | _=>false
  | _=>false
 | .mm mx a ys=>match o.op with
  | .call { callee:=.builtin b,args:=args,argTypes:=_ }=>decide (b=if mx then .max else .min)&&(match args.toList with|x::r=>zl x a&&y5 r ys|[]=>false)
  | _=>false
 | .boxv a=>match o.op with
  | .box _ x=>zl x a
  | _=>false
 | .ld n ag a=>match o.op with
  | .load t x=>zl x a&&((P.info? t).any fun ti=>decide (ti.size=n))&&(P.underlying t).isSome&&decide (YB (P.underlying t)=ag)&&(ag||decide (n=1))
  | _=>false
 | .lkp kt zero ok m k=>match o.op with
  | .lookup t m' k' ok'=>decide (ok'=ok)&&zl m' m&&zl k' k&&(match P.underlying t with
    | some (.map key elem)=>Yq P key kt&&(P.underlying key).isSome&&((P.info? elem).any fun ei=>ei.zero.any fun z=>TS z zero)
    | _=>false)
  | _=>false
 | .alloc zero=>match o.op with
  | .alloc t=>((P.info? t).any fun ti=>ti.zero.any fun z=>yB z.cells.toList zero)
  | _=>false
 | .box a=>match o.op with
  | .box _ x=>zl x a
  | _=>false
 | .mkm _=>match o.op with
  | .makeMap _ none=>true
  | _=>false
 | .st n a b=>match o.op with
  | .store t x y=>zl x a&&zl y b&&((P.info? t).any fun ti=>decide (ti.size=n))
  | _=>false
 | .mup kt m k v=>match o.op with
  | .mapUpdate t m' k' v'=>zl m' m&&zl k' k&&zl v' v&&(match P.underlying t with|some (.map key _)=>Yq P key kt&&(P.underlying key).isSome|_=>false)
  | .insert t m' k' v'=>zl m' m&&zl k' k&&zl v' v&&(match P.underlying t with|some (.map key _)=>Yq P key kt&&(P.underlying key).isSome|_=>false)
  | _=>false
 | .app sz bytes a b=>match o.op with
  | .call { callee:=.builtin .append,args:=as,argTypes:=ts }=>match as.toList,ts.toList with
   | [x,y],[t,tx]=>zl x a&&zl y b&&((yh P t).any fun ei=>decide (ei.size=sz)&&decide (ei.bytes=bytes)&&ei.zero.any fun z=>decide (z.cells.size=sz))&&decide (0<sz)&&(match P.underlying tx with|some (.slice _)=>true|_=>false)
   | _,_=>false
  | _=>false
 | .appm sz bytes zero a b=>match o.op with
  | .call { callee:=.builtin .append,args:=as,argTypes:=ts }=>match as.toList,ts.toList with
   | [x,y],[t,tx]=>zl x a&&zl y b&&((yh P t).any fun ei=>decide (ei.size=sz)&&decide (ei.bytes=bytes)&&ei.zero.any fun z=>decide (z.cells.size=sz)&&yB z.cells.toList zero)&&decide (0<sz)&&(match P.underlying tx with|some (.slice _)=>true|_=>false)
   | _,_=>false
  | _=>false
 | .appm2 sz bytes zero a b=>match o.op with
  | .call { callee:=.builtin .append,args:=as,argTypes:=ts }=>match as.toList,ts.toList with
   | [x,y],[t,tx]=>zl x a&&zl y b&&((yh P t).any fun ei=>decide (ei.size=sz)&&decide (ei.bytes=bytes)&&ei.zero.any fun z=>decide (z.cells.size=sz)&&yB z.cells.toList zero)&&decide (0<sz)&&(match P.underlying tx with|some (.slice _)=>true|_=>false)
   | _,_=>false
  | _=>false
 | .slar n a hi=>match o.op with
  | .slice t x none (some h) none=>zl x a&&zl h hi&&(match P.underlying t with|some (.array n' e)=>decide (n'=n)&&decide (n≤maxLen)&&(P.info? e).isSome|_=>false)
  | _=>false
 | .slaf n _ a hi=>match o.op with
  | .slice t x none (some h) none=>zl x a&&zl h hi&&(match P.underlying t with|some (.array n' e)=>decide (n'=n)&&decide (n≤maxLen)&&(P.info? e).isSome|_=>false)
  | _=>false
 | .frz _ y=>match o.op with
  | .move x=>zl x y
  | .assign x=>zl x y
  | _=>false
 | .blsm sz n zero qs=>match o.op with
  | .buildSlice t n' parts=>decide (n'=n)&&((yh P t).any fun ei=>decide (ei.size=sz)&&ei.zero.any fun z=>yB z.cells.toList zero)&&decide (0<sz)&&decide (n*sz≤2 ^ 24)&&yq parts.toList qs
  | _=>false
 | .apps a b=>match o.op with
  | .call { callee:=.builtin .append,args:=as,argTypes:=ts }=>match as.toList,ts.toList with
   | [x,y],[t,tx]=>zl x a&&zl y b&&((yh P t).any fun ei=>decide (ei.size=1)&&decide (ei.bytes=1)&&ei.zero.any fun z=>decide (z.cells.size=1))&&(match P.underlying tx with|some .string=>true|_=>false)
   | _,_=>false
  | _=>false
 | .mks sz bytes n=>match o.op with
  | .makeSlice t x y=>zl x (.k (.int .i64 0))&&zl y n&&((yh P t).any fun ei=>decide (ei.size=sz)&&decide (ei.bytes=bytes)&&ei.zero.isSome)
  | _=>false
 | .mksn zero bytes n=>match o.op with
  | .makeSlice t x y=>zl x n&&zl y n&&((yh P t).any fun ei=>decide (ei.bytes=bytes)&&decide (0<ei.size)&&ei.zero.any fun z=>yB z.cells.toList zero&&decide (z.cells.size=ei.size))
  | _=>false
 | .call f args=>match o.op with
  | .call { callee:=.value (.func f'),args:=as,argTypes:=_ }=>decide (f'=f)&&y5 as.toList args&&Program.callable P f
  | _=>false
 | .callv g args=>match o.op with
  | .call { callee:=.value g',args:=as,argTypes:=_ }=>zl g' g&&y5 as.toList args
  | _=>false
 | .pan a=>match o.op with
  | .panic x=>zl x a
  | _=>false
theorem zR {P:Program} {t:TypeId} {ei:TypeInfo} (h:yh P t=some ei):∃ e,P.underlying t=some (.slice e)∧P.info? e=some ei:=by
 unfold yh at h
 split at h
 ·rename_i e he;exact⟨e,he,h⟩
 ·cases h
theorem zw {α:Type} {x:Option α} {p:α→Bool} (h:x.any p=true):∃ y,x=some y∧p y=true:=by
 cases x with
 | none=>simp at h
 | some y=>exact⟨y,rfl,by simpa using h⟩
theorem ZE {α:Type} {a:Array α} {l:List α} (h:a.toList=l):a=l.toArray:=by
 apply Array.ext';simpa using h
theorem Tm {P:Program} {o:Oper} {ao:z6} (h:zM P o ao=true):Z7 P o ao:=by
 cases ao with
 | mv y =>
  simp only[zM] at h
  split at h
  ·rename_i ho;exact zo rfl (PB (.inl ho) h)
  ·rename_i ho;exact zo rfl (PB (.inr ho) h)
  ·cases h
 | pick a b c =>
  simp only[zM] at h
  split at h
  ·rename_i ho;simp only[zH] at h;exact zo rfl (Qu ho h.1.1 h.1.2 h.2)
  ·cases h
 | nilchk y =>
  simp only[zM] at h
  split at h
  ·rename_i ho;exact zo rfl (SP ho h)
  ·cases h
 | bi op k a b =>
  simp only[zM] at h
  split at h
  ·rename_i ho
   simp only[zH,zU] at h
   obtain⟨⟨⟨⟨rfl,h1⟩,h2⟩,h3⟩,h4⟩:=h
   exact zo rfl (Nd ho h3 h4 h1 h2)
  ·cases h
 | shf op a b =>
  simp only[zM] at h
  split at h
  ·rename_i ho
   simp only[zH,zU] at h
   obtain⟨⟨rfl,h3⟩,h4⟩:=h
   exact zo rfl (OC ho h3 h4)
  ·cases h
 | bs op a b =>
  simp only[zM] at h
  split at h
  ·rename_i ho
   simp only[zH,zU] at h
   obtain⟨⟨rfl,h3⟩,h4⟩:=h
   exact zo rfl (NA ho h3 h4)
  ·cases h
 | bb neg a b =>
  simp only[zM] at h
  split at h
  ·rename_i ho
   simp only[zH,zU] at h
   obtain⟨⟨⟨h1,h3⟩,h4⟩,h5⟩:=h
   split at h5
   ·rename_i ht;exact zo rfl (Nv ho h3 h4 h1 ht)
   ·cases h5
  ·cases h
 | eqa neg ks a b =>
  simp only[zM] at h
  split at h
  ·rename_i ho
   simp only[zH,zU,Bool.not_eq_true'] at h
   obtain⟨⟨⟨⟨⟨h1,h3⟩,h4⟩,h5⟩,h6⟩,h7⟩:=h
   split at h5
   ·rename_i ht;exact zo rfl (Oe ho h3 h4 h1 ht h5 h6 h7)
   ·cases h5
  ·cases h
 | isnil nk a =>
  simp only[zM] at h
  split at h
  ·rename_i ho
   simp only[zH] at h
   exact zo rfl (RY ho h.1 h.2)
  ·cases h
 | isnn nk a =>
  simp only[zM] at h
  split at h
  ·rename_i ho
   simp only[zH] at h
   exact zo rfl (QM ho h.1 h.2)
  ·cases h
 | ifnil neg a =>
  simp only[zM] at h
  split at h
  ·rename_i ho
   simp only[zH,zU] at h
   obtain⟨⟨⟨h1,h2⟩,h3⟩,h4⟩:=h
   split at h3
   ·exact zo rfl (Rc ho h1 h2 rfl h4)
   ·cases h3
  ·cases h
 | tas t zero a =>
  simp only[zM] at h
  split at h
  ·rename_i ho
   simp only[zH,zU] at h
   obtain⟨⟨⟨h1,h2⟩,h3⟩,h4⟩:=h
   obtain⟨ti,hti,h5⟩:=zw h4
   obtain⟨z,hz,h6⟩:=zw h5
   subst h1
   exact zo rfl (PJ ho h2 h3 hti hz h6)
  ·cases h
 | ineg a =>
  simp only[zM] at h
  split at h
  ·rename_i ho;exact zo rfl (Pg ho h)
  ·cases h
 | not a =>
  simp only[zM] at h
  split at h
  ·rename_i ho;exact zo rfl (Oq ho h)
  ·cases h
 | cvi k a =>
  simp only[zM] at h
  split at h
  ·rename_i ho
   simp only[zH] at h
   obtain⟨⟨h1,h2⟩,h3⟩:=h
   obtain⟨ds,hds⟩:=Yv.1 h2
   split at h3
   ·rename_i hd;simp only[zU] at h3;subst h3;exact zo rfl (Ok ho h1 hds hd)
   ·cases h3
  ·cases h
 | cvid a =>
  simp only[zM] at h
  split at h
  ·rename_i ho
   simp only[zH] at h
   obtain⟨⟨h1,h2⟩,h3⟩:=h
   obtain⟨ds,hds⟩:=Yv.1 h2
   split at h3
   ·rename_i hd;exact zo rfl (QO ho h1 hds hd)
   ·cases h3
  ·cases h
 | cvb2s a =>
  simp only[zM] at h
  split at h
  ·rename_i ho
   simp only[zH] at h
   obtain⟨⟨h1,h2⟩,h3⟩:=h
   split at h2
   ·rename_i e he
    split at h2
    ·rename_i he8
     split at h3
     ·rename_i hd;exact zo rfl (RF ho h1 he he8 hd)
     ·cases h3
    ·cases h2
   ·cases h2
  ·cases h
 | bld zero qs =>
  simp only[zM] at h
  split at h
  ·rename_i ho
   simp only[zH] at h
   obtain⟨h1,h2⟩:=h
   obtain⟨ti,hti,h1⟩:=zw h1
   obtain⟨z,hz,h1⟩:=zw h1
   obtain⟨pl,hpl,h2⟩:=zw h2
   exact zo rfl (Ox ho hti hz h1 hpl h2)
  ·cases h
 | bls sz n zero qs =>
  simp only[zM] at h
  split at h
  ·rename_i ho
   simp only[zH,zU] at h
   obtain⟨⟨⟨⟨rfl,h1⟩,h2⟩,h3⟩,h4⟩:=h
   obtain⟨ei,hei,h1⟩:=zw h1
   simp only[zH,zU] at h1
   obtain⟨h1,h5⟩:=h1
   obtain⟨z,hz,h5⟩:=zw h5
   obtain⟨e,he,hi⟩:=zR hei
   exact zo rfl (Og ho he hi hz h1 h2 h3 h5 h4)
  ·cases h
 | bls2 sz n zero qs =>
  simp only[zM] at h
  split at h
  ·rename_i ho
   simp only[zH,zU] at h
   obtain⟨⟨⟨⟨rfl,h1⟩,h2⟩,h3⟩,h4⟩:=h
   obtain⟨ei,hei,h1⟩:=zw h1
   simp only[zH,zU] at h1
   obtain⟨h1,h5⟩:=h1
   obtain⟨z,hz,h5⟩:=zw h5
   obtain⟨e,he,hi⟩:=zR hei
   exact zo rfl (Q3 ho he hi hz h1 h2 h3 h5 h4)
  ·cases h
 | mkfn f first caps =>
  simp only[zM] at h
  split at h
  ·rename_i ho
   simp only[zH,zU] at h
   obtain⟨⟨rfl,h1⟩,h2⟩:=h
   exact zo rfl (Qt ho h1 h2)
  ·cases h
 | ext a i =>
  simp only[zM] at h
  split at h
  ·rename_i ho
   simp only[zH,zU] at h
   obtain⟨rfl,h1⟩:=h
   exact zo rfl (P5 ho h1)
  ·cases h
 | mki t a =>
  simp only[zM] at h
  split at h
  ·rename_i ho
   simp only[zH,zU] at h
   obtain⟨⟨rfl,h1⟩,h2⟩:=h
   exact zo rfl (OG ho h1 h2)
  ·cases h
 | fa off a =>
  simp only[zM] at h
  split at h
  ·rename_i ho
   simp only[zH] at h
   obtain⟨h1,h2⟩:=h
   split at h2
   ·rename_i fs hfs
    obtain⟨f,hf,h2⟩:=zw h2
    simp only[zH,zU] at h2
    obtain⟨h2,h3⟩:=h2
    obtain⟨fi,hfi,h3⟩:=zw h3
    exact zo rfl (NL ho h1 hfs hf h2 hfi (by simpa using h3))
   ·cases h2
  ·cases h
 | fld off n ag a =>
  simp only[zM] at h
  split at h
  ·rename_i ho
   simp only[zH] at h
   obtain⟨h1,h2⟩:=h
   split at h2
   ·rename_i fs hfs
    obtain⟨f,hf,h2⟩:=zw h2
    simp only[zH,zU,UK] at h2
    obtain⟨⟨⟨⟨h2,h3⟩,h4⟩,h5⟩,h6⟩:=h2
    obtain⟨fi,hfi,h3⟩:=zw h3
    obtain⟨d,hd⟩:=Yv.1 h4
    exact zo rfl (Oi ho h1 hfs hf h2 hfi (by simpa using h3) hd h5 h6)
   ·cases h2
  ·cases h
 | ia sz a i =>
  simp only[zM] at h
  split at h
  ·rename_i ho
   simp only[zH] at h
   obtain⟨⟨h1,h2⟩,h3⟩:=h
   obtain⟨ei,hei,h3⟩:=zw h3
   obtain⟨e,he,hi⟩:=zR hei
   exact zo rfl (Ng ho h1 h2 he hi (by simpa using h3))
  ·cases h
 | iar n sz a i =>
  simp only[zM] at h
  split at h
  ·rename_i ho
   simp only[zH] at h
   obtain⟨⟨h1,h2⟩,h3⟩:=h
   split at h3
   ·rename_i ht
    simp only[zH,zU] at h3
    obtain⟨rfl,h3⟩:=h3
    obtain⟨ei,hei,h3⟩:=zw h3
    exact zo rfl (PV ho h1 h2 ht hei (by simpa using h3))
   ·cases h3
  ·cases h
 | ixs a i =>
  simp only[zM] at h
  split at h
  ·rename_i ho
   simp only[zH] at h
   obtain⟨⟨h1,h2⟩,h3⟩:=h
   split at h3
   ·rename_i ht;exact zo rfl (PO ho h1 h2 ht)
   ·cases h3
  ·cases h
 | sls a lo hi =>
  simp only[zM] at h
  split at h
  ·rename_i ho
   simp only[zH] at h
   obtain⟨⟨⟨h1,h2⟩,h3⟩,h4⟩:=h
   split at h4
   ·rename_i ht;exact zo rfl (Oa ho h1 h2 h3 ht)
   ·cases h4
  ·cases h
 | sll sz a lo hi mx =>
  simp only[zM] at h
  split at h
  ·rename_i ho
   simp only[zH,UK,Bool.not_eq_true'] at h
   obtain⟨⟨⟨⟨⟨h1,h2⟩,h3⟩,h4⟩,h5⟩,h6⟩:=h
   obtain⟨ei,hei,h6⟩:=zw h6
   obtain⟨e,he,hi⟩:=zR hei
   exact zo rfl (P8 ho h1 h2 h3 h4 (fun hs=>by rcases h5 with h5|h5<;>simp_all) he hi (by simpa using h6))
  ·cases h
 | sllx sz a hi =>
  simp only[zM] at h
  split at h
  ·rename_i ho
   simp only[zH] at h
   obtain⟨⟨h1,h2⟩,h6⟩:=h
   obtain⟨ei,hei,h6⟩:=zw h6
   obtain⟨e,he,hi⟩:=zR hei
   exact zo rfl (QQ ho h1 h2 he hi (by simpa using h6))
  ·cases h
 | len a =>
  simp only[zM] at h
  split at h
  ·rename_i ho
   split at h
   ·rename_i hl
    simp only[zH] at h
    obtain⟨h1,h2⟩:=h
    obtain⟨t,ht,h2⟩:=zw h2
    split at h2
    ·rename_i hu;exact zo rfl (P6 (by rw[ho,ZE hl]) ht h1 hu)
    ·cases h2
   ·cases h
  ·cases h
 | lens a =>
  simp only[zM] at h
  split at h
  ·rename_i ho
   split at h
   ·rename_i hl
    simp only[zH] at h
    obtain⟨h1,h2⟩:=h
    obtain⟨t,ht,h2⟩:=zw h2
    split at h2
    ·rename_i hu;exact zo rfl (QZ (by rw[ho,ZE hl]) ht h1 hu)
    ·cases h2
   ·cases h
  ·cases h
 | lenm a =>
  simp only[zM] at h
  split at h
  ·rename_i ho
   split at h
   ·rename_i hl
    simp only[zH] at h
    obtain⟨h1,h2⟩:=h
    obtain⟨t,ht,h2⟩:=zw h2
    split at h2
    ·rename_i hu;exact Xr rfl (Qs (by rw[ho,ZE hl]) ht h1 hu)
    ·cases h2
   ·cases h
  ·cases h
 | mm mx a ys =>
  simp only[zM] at h
  split at h
  ·rename_i ho
   simp only[zH,zU] at h
   obtain⟨rfl,h2⟩:=h
   split at h2
   ·rename_i ha
    simp only[zH] at h2
    exact zo rfl (NE ho ha h2.1 h2.2)
   ·cases h2
  ·cases h
 | boxv a =>
  simp only[zM] at h
  split at h
  ·rename_i ho;exact zo rfl (QX ho h)
  ·cases h
 | ld n ag a =>
  simp only[zM] at h
  split at h
  ·rename_i ho
   simp only[zH,zU,UK] at h
   obtain⟨⟨⟨⟨h1,h3⟩,h4⟩,h5⟩,h6⟩:=h
   obtain⟨ti,hti,h3⟩:=zw h3
   obtain⟨d,hd⟩:=Yv.1 h4
   exact Xr rfl (Pv ho h1 hti (by simpa using h3) hd h5 h6)
  ·cases h
 | lkp kt zero ok m k =>
  simp only[zM] at h
  split at h
  ·rename_i ho
   simp only[zH,zU] at h
   obtain⟨⟨⟨rfl,h1⟩,h2⟩,h3⟩:=h
   split at h3
   ·rename_i ht
    simp only[zH] at h3
    obtain⟨⟨h3,h4⟩,h5⟩:=h3
    obtain⟨d,hd⟩:=Yv.1 h4
    obtain⟨ei,hei,h5⟩:=zw h5
    obtain⟨z,hz,h5⟩:=zw h5
    exact Xr rfl (P4 ho h1 h2 ht h3 hd hei hz h5)
   ·cases h3
  ·cases h
 | alloc zero =>
  simp only[zM] at h
  split at h
  ·rename_i ho
   obtain⟨ti,hti,h⟩:=zw h
   obtain⟨z,hz,h⟩:=zw h
   exact Ql ho hti hz h
  ·cases h
 | box a =>
  simp only[zM] at h
  split at h
  ·rename_i ho;exact On ho h
  ·cases h
 | mkm kt =>
  simp only[zM] at h
  split at h
  ·rename_i ho;exact OF ho
  ·cases h
 | st n a b =>
  simp only[zM] at h
  split at h
  ·rename_i ho
   simp only[zH] at h
   obtain⟨⟨h1,h2⟩,h3⟩:=h
   obtain⟨ti,hti,h3⟩:=zw h3
   exact NB ho h1 h2 hti (by simpa using h3)
  ·cases h
 | mup kt m k v =>
  simp only[zM] at h
  split at h
  ·rename_i ho
   simp only[zH] at h
   obtain⟨⟨⟨h1,h2⟩,h3⟩,h4⟩:=h
   split at h4
   ·rename_i ht
    simp only[zH] at h4
    obtain⟨d,hd⟩:=Yv.1 h4.2
    exact R6 (.inl ho) h1 h2 h3 ht h4.1 hd
   ·cases h4
  ·rename_i ho
   simp only[zH] at h
   obtain⟨⟨⟨h1,h2⟩,h3⟩,h4⟩:=h
   split at h4
   ·rename_i ht
    simp only[zH] at h4
    obtain⟨d,hd⟩:=Yv.1 h4.2
    exact R6 (.inr ho) h1 h2 h3 ht h4.1 hd
   ·cases h4
  ·cases h
 | blsm sz n zero qs =>
  simp only[zM] at h
  split at h
  ·rename_i ho
   simp only[zH,zU] at h
   obtain⟨⟨⟨⟨rfl,h1⟩,h2⟩,h3⟩,h4⟩:=h
   obtain⟨ei,hei,h1⟩:=zw h1
   simp only[zH,zU] at h1
   obtain⟨h1,h5⟩:=h1
   obtain⟨z,hz,h5⟩:=zw h5
   obtain⟨e,he,hi⟩:=zR hei
   exact Pm ho he hi hz h1 h2 h3 h5 h4
  ·cases h
 | slar n a hi =>
  simp only[zM] at h
  split at h
  ·rename_i ho
   simp only[zH] at h
   obtain⟨⟨h1,h2⟩,h3⟩:=h
   split at h3
   ·rename_i ht
    simp only[zH,zU] at h3
    obtain⟨⟨rfl,h4⟩,h5⟩:=h3
    obtain⟨ei,hei⟩:=Yv.1 h5
    exact zo rfl (QL ho h1 h2 ht hei h4)
   ·cases h3
  ·cases h
 | slaf n sz a hi =>
  simp only[zM] at h
  split at h
  ·rename_i ho
   simp only[zH] at h
   obtain⟨⟨h1,h2⟩,h3⟩:=h
   split at h3
   ·rename_i ht
    simp only[zH,zU] at h3
    obtain⟨⟨rfl,h4⟩,h5⟩:=h3
    obtain⟨ei,hei⟩:=Yv.1 h5
    exact Pl ho h1 h2 ht hei h4
   ·cases h3
  ·cases h
 | frz sz y =>
  simp only[zM] at h
  split at h
  ·rename_i ho;exact RB (.inl ho) h
  ·rename_i ho;exact RB (.inr ho) h
  ·cases h
 | appm sz bytes zero a b =>
  simp only[zM] at h
  split at h
  ·rename_i ho
   split at h
   ·rename_i hl1 hl2
    simp only[zH,zU] at h
    obtain⟨⟨⟨⟨h1,h2⟩,h3⟩,h4⟩,h5⟩:=h
    obtain⟨ei,hei,h3⟩:=zw h3
    simp only[zH,zU] at h3
    obtain⟨⟨h3,h6⟩,h7⟩:=h3
    obtain⟨z,hz,h7⟩:=zw h7
    simp only[zH,zU] at h7
    obtain⟨e,he,hi⟩:=zR hei
    split at h5
    ·rename_i htx
     exact QC (by rw[ho,ZE hl1,ZE hl2]) h1 h2 he htx hi hz h3 h6 h7.1 h4 h7.2
    ·cases h5
   ·cases h
  ·cases h
 | appm2 sz bytes zero a b =>
  simp only[zM] at h
  split at h
  ·rename_i ho
   split at h
   ·rename_i hl1 hl2
    simp only[zH,zU] at h
    obtain⟨⟨⟨⟨h1,h2⟩,h3⟩,h4⟩,h5⟩:=h
    obtain⟨ei,hei,h3⟩:=zw h3
    simp only[zH,zU] at h3
    obtain⟨⟨h3,h6⟩,h7⟩:=h3
    obtain⟨z,hz,h7⟩:=zw h7
    simp only[zH,zU] at h7
    obtain⟨e,he,hi⟩:=zR hei
    split at h5
    ·rename_i htx
     exact S9 (by rw[ho,ZE hl1,ZE hl2]) h1 h2 he htx hi hz h3 h6 h7.1 h4 h7.2
    ·cases h5
   ·cases h
  ·cases h
 | app sz bytes a b =>
  simp only[zM] at h
  split at h
  ·rename_i ho
   split at h
   ·rename_i hl1 hl2
    simp only[zH,zU] at h
    obtain⟨⟨⟨⟨h1,h2⟩,h3⟩,h4⟩,h5⟩:=h
    obtain⟨ei,hei,h3⟩:=zw h3
    simp only[zH,zU] at h3
    obtain⟨⟨h3,h6⟩,h7⟩:=h3
    obtain⟨z,hz,h7⟩:=zw h7
    obtain⟨e,he,hi⟩:=zR hei
    split at h5
    ·rename_i htx
     exact PS (by rw[ho,ZE hl1,ZE hl2]) h1 h2 he htx hi hz h3 h6 (by simpa using h7) h4
    ·cases h5
   ·cases h
  ·cases h
 | apps a b =>
  simp only[zM] at h
  split at h
  ·rename_i ho
   split at h
   ·rename_i hl1 hl2
    simp only[zH] at h
    obtain⟨⟨⟨h1,h2⟩,h3⟩,h5⟩:=h
    obtain⟨ei,hei,h3⟩:=zw h3
    simp only[zH,zU] at h3
    obtain⟨⟨h3,h6⟩,h7⟩:=h3
    obtain⟨z,hz,h7⟩:=zw h7
    obtain⟨e,he,hi⟩:=zR hei
    split at h5
    ·rename_i htx
     exact Pp (by rw[ho,ZE hl1,ZE hl2]) h1 h2 he htx hi hz h3 h6 (by simpa using h7)
    ·cases h5
   ·cases h
  ·cases h
 | mks sz bytes n =>
  simp only[zM] at h
  split at h
  ·rename_i ho
   simp only[zH] at h
   obtain⟨⟨h1,h2⟩,h3⟩:=h
   obtain⟨ei,hei,h3⟩:=zw h3
   simp only[zH,zU] at h3
   obtain⟨⟨rfl,rfl⟩,h7⟩:=h3
   obtain⟨z,hz⟩:=Yv.1 h7
   obtain⟨e,he,hi⟩:=zR hei
   exact OE ho h1 h2 he hi hz
  ·cases h
 | mksn zero bytes n =>
  simp only[zM] at h
  split at h
  ·rename_i ho
   simp only[zH] at h
   obtain⟨⟨h1,h2⟩,h3⟩:=h
   obtain⟨ei,hei,h3⟩:=zw h3
   simp only[zH,zU] at h3
   obtain⟨⟨rfl,h0⟩,h7⟩:=h3
   obtain⟨z,hz,h7⟩:=zw h7
   simp only[zH,zU] at h7
   obtain⟨e,he,hi⟩:=zR hei
   exact Pc ho h1 h2 he hi hz h7.1 h7.2 h0
  ·cases h
 | call f args =>
  simp only[zM] at h
  split at h
  ·rename_i ho
   simp only[zH,zU] at h
   obtain⟨⟨rfl,h1⟩,h2⟩:=h
   exact QJ ho h1 h2
  ·cases h
 | callv g args =>
  simp only[zM] at h
  split at h
  ·rename_i ho
   simp only[zH] at h
   exact R7 ho h.1 h.2
  ·cases h
 | pan a =>
  simp only[zM] at h
  split at h
  ·rename_i ho;exact PF ho h
  ·cases h
abbrev yQ:=Nat×Option (Nat×Bool)×z6
structure zg where
 dst:Option Nat
 guard:Option (Nat×Bool)
 op:z6
 chk:List Nat
def gv (g:Option (Nat×Bool)) (ρ:Env):Option Bool :=
 match g with
 | none=>some true
 | some (s,want)=>match ρ s with
  | .bool b=>some (b==want)
  | .tup []=>some false
  | _=>none
def yg (ρ:Env) (H:zb):List yQ→Prop
 | []=>True
 | (d,g,o)::r=>(gv g ρ=some true→rev ρ H o=some (ρ d))∧yg ρ H r
def yn (P:Program) (KP:AV→zb→Prop) (it:zg) (R:List yQ) (ρ:Env) (H:zb) (K:Env→zb→Prop):Prop :=
 match gv it.guard ρ with
 | some true=>Zr P KP it.op ρ H (fun v H'=>yg (ρ.set it.dst v) H' R∧K (ρ.set it.dst v) H')
 | some false=>K (ρ.set it.dst (.tup [])) H
 | none=>False
def zO (P:Program) (KP:AV→zb→Prop):List (zg×List yQ)→Env→zb→(Env→zb→Prop)→Prop
 | [],ρ,H,K=>K ρ H
 | it::r,ρ,H,K=>yn P KP it.1 it.2 ρ H (fun ρ' H'=>zO P KP r ρ' H' K)
def zu.slots:zu→List Nat
 | .t n=>[n]
 | .k _=>[]
def Xg:Option zu→List Nat
 | some x=>x.slots
 | none=>[]
def z6.looks:z6→List Nat
 | .mv x|.nilchk x|.isnil _ x|.isnn _ x|.ifnil _ x|.tas _ _ x|.ineg x|.not x|.cvi _ x|.cvid x|.cvb2s x|.ext x _|.mki _ x|.fa _ x|.fld _ _ _ x|.len x|.lens x|.boxv x|.ld _ _ x|.lenm x|.box x|.pan x|.frz _ x=>x.slots
 | .pick a b c=>a.slots++b.slots++c.slots
 | .bi _ _ x y|.shf _ x y|.bs _ x y|.bb _ x y|.eqa _ _ x y|.ia _ x y|.iar _ _ x y|.ixs x y|.lkp _ _ _ x y|.st _ x y|.app _ _ x y|.appm _ _ _ x y|.appm2 _ _ _ x y|.apps x y|.sllx _ x y|.slar _ x y|.slaf _ _ x y=>x.slots++y.slots
 | .bld _ qs=>qs.flatMap fun q=>q.2.2.slots
 | .bls _ _ _ qs|.bls2 _ _ _ qs|.blsm _ _ _ qs=>qs.flatMap fun q=>q.2.slots
 | .mkfn _ a b=>a.flatMap zu.slots++b.flatMap zu.slots
 | .sls x lo hi=>x.slots++Xg lo++Xg hi
 | .sll _ x lo hi mx=>x.slots++Xg lo++Xg hi++Xg mx
 | .mm _ x ys=>x.slots++ys.flatMap zu.slots
 | .mks _ _ x|.mksn _ _ x=>x.slots
 | .alloc _|.mkm _=>[]
 | .mup _ a b c=>a.slots++b.slots++c.slots
 | .call _ args=>args.flatMap zu.slots
 | .callv g args=>g.slots++args.flatMap zu.slots
theorem zQ {ρ ρ':Env} {x:zu} (h:∀ n∈x.slots,ρ n=ρ' n):x.ev ρ=x.ev ρ':=by
 cases x with
 | t n=>exact h n (by simp[zu.slots])
 | k c=>rfl
theorem Z4 {ρ ρ':Env}:∀ {xs:List zu},(∀ n∈xs.flatMap zu.slots,ρ n=ρ' n)→xs.map (zu.ev ρ)=xs.map (zu.ev ρ')
 | [],_=>rfl
 | x::xs,h=>by
  simp only[List.flatMap_cons,List.mem_append] at h
  simp only[List.map_cons,zQ (fun n hn=>h n (.inl hn)),Z4 (fun n hn=>h n (.inr hn))]
theorem Wy {ρ ρ':Env}:∀ {qs:List (Nat×Nat×zu)} {cs:List AV},(∀ n∈qs.flatMap (fun q=>q.2.2.slots),ρ n=ρ' n)→Zp ρ cs qs=Zp ρ' cs qs
 | [],_,_=>rfl
 | (off,n,x)::qs,cs,h=>by
  simp only[List.flatMap_cons,List.mem_append] at h
  simp only[Zp,zQ (fun n hn=>h n (.inl hn)),Wy (fun n hn=>h n (.inr hn))]
theorem ZS {S:AV→AV} {ρ ρ':Env} {sz:Nat}:∀ {qs:List (Nat×zu)} {cs:List (List AV)},(∀ n∈qs.flatMap (fun q=>q.2.slots),ρ n=ρ' n)→yH S ρ sz cs qs=yH S ρ' sz cs qs
 | [],_,_=>rfl
 | (i,x)::qs,cs,h=>by
  simp only[List.flatMap_cons,List.mem_append] at h
  simp only[yH,zQ (fun n hn=>h n (.inl hn)),ZS (fun n hn=>h n (.inr hn))]
theorem Wn {ρ ρ':Env} {mx:Bool} {k:IntKind}:∀ {ys:List zu} {a:Int},(∀ n∈ys.flatMap zu.slots,ρ n=ρ' n)→ZG mx k ρ a ys=ZG mx k ρ' a ys
 | [],_,_=>rfl
 | y::ys,a,h=>by
  simp only[List.flatMap_cons,List.mem_append] at h
  simp only[ZG,zQ (fun n hn=>h n (.inl hn))]
  split
  ·rw[Wn (fun n hn=>h n (.inr hn))]
  ·rfl
theorem ZV {ρ ρ':Env} {d:Nat} {x:Option zu} (h:∀ n∈Xg x,ρ n=ρ' n):bound d ρ x=bound d ρ' x:=by
 cases x with
 | none=>rfl
 | some y=>simp only[bound,zQ (x:=y) h]
theorem Ua {ρ ρ':Env} {o:z6} (h:∀ n∈o.looks,ρ n=ρ' n):zY ρ o=zY ρ' o:=by
 cases o<;>simp only[z6.looks,List.mem_append] at h<;>simp only[zY]
 case pick a b c=>rw[zQ (x:=a) (fun n hn=>h n (.inl (.inl hn))),zQ (x:=b) (fun n hn=>h n (.inl (.inr hn))),zQ (x:=c) (fun n hn=>h n (.inr hn))]
 case bld z qs=>rw[Wy h]
 case bls a b z qs=>rw[ZS h]
 case bls2 a b z qs=>rw[ZS h]
 case mkfn f a b=>rw[Z4 (fun n hn=>h n (.inl hn)),Z4 (fun n hn=>h n (.inr hn))]
 case sls x lo hi=>rw[zQ (x:=x) (fun n hn=>h n (.inl (.inl hn))),ZV (x:=lo) (fun n hn=>h n (.inl (.inr hn)))];simp only[ZV (x:=hi) (fun n hn=>h n (.inr hn))]
 case sll s x lo hi mx =>
  rw[zQ (x:=x) (fun n hn=>h n (.inl (.inl (.inl hn)))),ZV (x:=lo) (fun n hn=>h n (.inl (.inl (.inr hn))))]
  simp only[ZV (x:=hi) (fun n hn=>h n (.inl (.inr hn)))]
  cases mx with
  | none =>
   split
   ·rename_i o1 s1 xs _
    generalize bound 0 ρ' lo=b1
    generalize bound xs.length ρ' hi=b2
    cases b1<;>cases b2<;>rfl
   ·rfl
   ·rfl
  | some m =>
   have hm:=zQ (x:=m) (fun n hn=>h n (.inr (show n∈Xg (some m) from hn)))
   split
   ·rename_i o1 s1 xs _
    generalize bound 0 ρ' lo=b1
    generalize bound xs.length ρ' hi=b2
    cases b1<;>cases b2<;>first|rfl|(show (match m.ev ρ with|.int _ m=>_|_=>_)=_;rw[hm];rfl)
   ·rfl
   ·rfl
 case mm mx x ys=>rw[zQ (x:=x) (fun n hn=>h n (.inl hn))];simp only[Wn (fun n hn=>h n (.inr hn))]
 all_goals first
  | rfl
  | (rw[zQ h];done)
  | (rename_i x y;rw[zQ (x:=x) (fun n hn=>h n (.inl hn)),zQ (x:=y) (fun n hn=>h n (.inr hn))];done)
theorem Z6 {ρ ρ':Env} {H:zb} {o:z6} (h:∀ n∈o.looks,ρ n=ρ' n):rev ρ H o=rev ρ' H o:=by
 cases o<;>simp only[z6.looks,List.mem_append] at h<;>simp only[rev]
 all_goals first
  | (rw[zQ h];done)
  | (rename_i x y;rw[zQ (x:=x) (fun n hn=>h n (.inl hn)),zQ (x:=y) (fun n hn=>h n (.inr hn))];done)
theorem Y4 {ρ ρ':Env} {o:z6} (h:∀ n∈o.looks,ρ n=ρ' n):ZN ρ o=ZN ρ' o:=by
 cases o<;>simp only[z6.looks,List.mem_append] at h<;>simp only[ZN]
 case blsm a b z qs=>rw[ZS h]
 all_goals (rw[zQ h])
theorem Yb {ρ ρ':Env} {b:Nat} {o:z6} (h:∀ n∈o.looks,ρ n=ρ' n):ZC ρ b o=ZC ρ' b o:=by
 cases o<;>simp only[z6.looks,List.mem_append] at h<;>simp only[ZC]
 all_goals (rw[zQ h])
theorem Uf {P:Program} {KP:AV→zb→Prop} {ρ ρ':Env} {H:zb} {K:AV→zb→Prop} {o:z6} (h:∀ n∈o.looks,ρ n=ρ' n):eff P KP ρ H K o=eff P KP ρ' H K o:=by
 cases o<;>simp only[z6.looks,List.mem_append] at h<;>simp only[eff]
 case mup kt a b c=>rw[zQ (x:=a) (fun n hn=>h n (.inl (.inl hn))),zQ (x:=b) (fun n hn=>h n (.inl (.inr hn))),zQ (x:=c) (fun n hn=>h n (.inr hn))]
 case call f args=>rw[Z4 h]
 case callv g args=>rw[zQ (x:=g) (fun n hn=>h n (.inl hn)),Z4 (fun n hn=>h n (.inr hn))]
 all_goals first
  | (rw[zQ h];done)
  | (rename_i x y;rw[zQ (x:=x) (fun n hn=>h n (.inl hn)),zQ (x:=y) (fun n hn=>h n (.inr hn))];done)
theorem SO {P:Program} {KP:AV→zb→Prop} {ρ ρ':Env} {H:zb} {K:AV→zb→Prop} {o:z6} (h:∀ n∈o.looks,ρ n=ρ' n):Zr P KP o ρ H K=Zr P KP o ρ' H K:=by
 unfold Zr
 rw[Ua h,Z6 h,Y4 h,Uf h]
 simp only[Yb h]
theorem zt.monoEnd {P:Program} {f:FuncId} {args:List AV} {H:zb} {K K' KP:AV→zb→Prop} (hk:∀ v H',K v H'→K' v H') (h:zt P f args H (WQ K KP)):zt P f args H (WQ K' KP) :=
 h.mono fun r H' hr=>by cases r<;>first|exact hk _ _ hr|exact hr
theorem VQ {sz bytes:Nat} {x y:AV} {H:zb} {K K':AV→zb→Prop} (hk:∀ v H',K v H'→K' v H') (h:UA sz bytes x y H K):UA sz bytes x y H K':=by
 cases x<;>try (exact False.elim h)
 cases y<;>try (exact False.elim h)
 rename_i o s1 xs o2 s2 ys
 obtain⟨h1,h2,h3,h4,h5⟩:=h
 refine⟨h1,h2,h3,h4,?_⟩
 cases o with
 | no=>exact h5
 | nil=>exact⟨fun e=>hk _ _ (h5.1 e),fun e b hb=>hk _ _ (h5.2 e b hb)⟩
 | full=>exact⟨fun e=>hk _ _ (h5.1 e),fun e b hb=>hk _ _ (h5.2 e b hb)⟩
 | tip b d=>exact⟨h5.1,fun b' d' hb=>hk _ _ (h5.2 b' d' hb)⟩
theorem Vs {S:AV→AV} {sz bytes:Nat} {zero:List AV} {x y:AV} {H:zb} {K K':AV→zb→Prop} (hk:∀ v H',K v H'→K' v H') (h:W2 S sz bytes zero x y H K):W2 S sz bytes zero x y H K':=by
 cases y<;>try (exact False.elim h)
 obtain⟨h1,h2,h3⟩:=h
 refine⟨h1,h2,?_⟩
 cases x<;>try (exact False.elim h3)
 ·rename_i o s1 xs
  cases o<;>try (exact False.elim h3)
  obtain⟨h4,h5,h6,h7,h8,h9⟩:=h3
  exact⟨h4,h5,h6,h7,fun e=>hk _ _ (h8 e),fun e b cap hb hc hm=>hk _ _ (h9 e b cap hb hc hm)⟩
 ·rename_i b off len cap
  obtain⟨h4,h5,h6⟩:=h3
  refine⟨h4,h5,?_⟩
  cases hb:H b with
  | none=>simp[hb] at h6
  | some ob =>
   cases ob<;>simp only[hb] at h6 ⊢<;>try (exact False.elim h6)
   exact⟨fun e=>⟨(h6.1 e).1,hk _ _ (h6.1 e).2⟩,fun e=>⟨(h6.2 e).1,fun b' cap' hb' hc hm=>hk _ _ ((h6.2 e).2 b' cap' hb' hc hm)⟩⟩
theorem V1 {sz:Nat} {x:AV} {H:zb} {K K':AV→zb→Prop} (hk:∀ v H',K v H'→K' v H') (h:WG sz x H K):WG sz x H K':=by
 cases x<;>try (exact False.elim h)
 rename_i b off len cap
 simp only[WG] at h ⊢
 cases hb:H b with
 | none=>simp[hb] at h
 | some ob =>
  cases ob<;>simp only[hb] at h ⊢<;>try (exact False.elim h)
  exact⟨h.1,h.2.1,hk _ _ h.2.2⟩
theorem TA {n sz:Nat} {x y:AV} {H:zb} {K K':AV→zb→Prop} (hk:∀ v H',K v H'→K' v H') (h:VI n sz x y H K):VI n sz x y H K':=by
 cases x<;>try (exact False.elim h)
 cases y<;>try (exact False.elim h)
 exact⟨h.1,h.2.1,V1 hk h.2.2⟩
theorem UZ {P:Program} {KP:AV→zb→Prop} {ρ:Env} {H:zb} {K K':AV→zb→Prop} {o:z6} (hk:∀ v H',K v H'→K' v H') (h:eff P KP ρ H K o):eff P KP ρ H K' o:=by
 cases o<;>simp only[eff] at h ⊢<;>try (exact False.elim h)
 case st n x y =>
  cases hx:x.ev ρ<;>simp only[hx] at h ⊢<;>try (exact False.elim h)
  rename_i b off
  cases hb:H b with
  | none=>simp[hb] at h
  | some ob =>
   cases ob<;>simp only[hb] at h ⊢<;>try (exact False.elim h)
   exact⟨h.1,h.2.1,h.2.2.1,hk _ _ h.2.2.2⟩
 case mup kt m k v =>
  cases hx:m.ev ρ<;>simp only[hx] at h ⊢<;>try (exact False.elim h)
  rename_i b
  cases hb:H b with
  | none=>simp[hb] at h
  | some ob =>
   cases ob<;>simp only[hb] at h ⊢<;>try (exact False.elim h)
   exact⟨h.1,h.2.1,hk _ _ h.2.2⟩
 case app sz by' x y=>exact VQ hk h
 case appm sz by' z x y=>exact Vs hk h
 case appm2 sz by' z x y=>exact Vs hk h
 case frz sz x=>exact V1 hk h
 case slaf n sz x y=>exact TA hk h
 case apps x y =>
  cases hy:y.ev ρ<;>simp only[hy] at h ⊢<;>try (exact False.elim h)
  exact VQ hk h
 case call f args=>exact zt.monoEnd hk h
 case callv g args =>
  cases hg:g.ev ρ<;>simp only[hg] at h ⊢<;>try (exact False.elim h)
  exact⟨h.1,zt.monoEnd hk h.2⟩
 case pan x =>
  cases hx:x.ev ρ<;>simp only[hx] at h ⊢<;>try (exact False.elim h)
  exact h
theorem W7 {P:Program} {KP:AV→zb→Prop} {o:z6} {ρ:Env} {H:zb} {K K':AV→zb→Prop} (hk:∀ v H',K v H'→K' v H') (h:Zr P KP o ρ H K):Zr P KP o ρ H K':=by
 unfold Zr at *
 cases hc:o.cls<;>simp only[hc] at h ⊢
 ·cases hv:zY ρ o<;>simp only[hv] at h ⊢;· exact hk _ _ h
 ·cases hv:rev ρ H o<;>simp only[hv] at h ⊢;· exact hk _ _ h
 ·cases hv:ZN ρ o<;>simp only[hv] at h ⊢
  ·exact h
  ·exact fun b hb=>hk _ _ (h b hb)
 ·exact UZ hk h
theorem YP {P:Program} {KP:AV→zb→Prop} {it:zg} {R R':List yQ} {ρ:Env} {H:zb} {K K':Env→zb→Prop} (hr:∀ ρ' H',yg ρ' H' R→yg ρ' H' R') (hk:∀ ρ' H',K ρ' H'→K' ρ' H') (h:yn P KP it R ρ H K):yn P KP it R' ρ H K':=by
 unfold yn at *
 split at h
 ·exact W7 (fun v H' hh=>⟨hr _ _ hh.1,hk _ _ hh.2⟩) h
 ·exact hk _ _ h
 ·exact h
def Xm (g:Option (Nat×Bool)):List Nat :=
 match g with
 | none=>[]
 | some (s,_)=>[s]
def zg.looks (it:zg):List Nat:=Xm it.guard++it.op.looks
theorem Xw {ρ ρ':Env} {g:Option (Nat×Bool)} (h:∀ n∈Xm g,ρ n=ρ' n):gv g ρ=gv g ρ':=by
 cases g with
 | none=>rfl
 | some p=>simp only[gv,h p.1 (by simp[Xm])]
theorem z8 {ρ:Env} {d:Option Nat} {c:AV} {l:List Nat} (h:∀ x,d=some x→x ∉ l):∀ n∈l,(ρ.set d c) n=ρ n:=by
 intro n hn
 cases d with
 | none=>rfl
 | some x =>
  have:n≠x:=fun e=>h x rfl (e▸hn)
  simp[Env.set,this]
theorem RX (ρ:Env) {d e:Option Nat} (c u:AV) (h:∀ x,d=some x→e≠some x):(ρ.set d c).set e u=(ρ.set e u).set d c:=by
 cases d with
 | none=>rfl
 | some x =>
  cases e with
  | none=>rfl
  | some y =>
   have hne:x≠y:=fun he=>h x rfl (he▸rfl)
   funext n
   simp only[Env.set]
   by_cases h1:n=y
   ·subst h1;simp[Ne.symm hne]
   ·by_cases h2:n=x
    ·subst h2;simp[hne]
    ·simp[h1,h2]
def Zi (c:yQ):List Nat:=c.1::Xm c.2.1++c.2.2.looks
theorem ZY {ρ ρ':Env} {H:zb}:∀ {R:List yQ},(∀ c∈R,∀ n∈Zi c,ρ n=ρ' n)→yg ρ H R→yg ρ' H R
 | [],_,_=>trivial
 | (d,g,o)::R,h,hr=>by
  have h0:=h (d,g,o) (Zc ..)
  simp only[Zi,List.mem_cons,List.mem_append] at h0
  refine⟨fun hg=>?_,ZY (fun c hc=>h c (ZL _ hc)) hr.2⟩
  rw[← Xw (fun n hn=>h0 n (.inl (.inr hn)))] at hg
  have:=hr.1 hg
  rw[Z6 (fun n hn=>h0 n (.inr hn)),h0 d (.inl (.inl rfl))] at this
  exact this
def zg.apart (x i:zg):Bool :=
 (match x.dst with
  | some d=>!(i.looks).contains d&&i.dst != some d
  | none=>true) &&
 (match i.dst with
  | some d=>!(x.looks).contains d
  | none=>true)
theorem apart_spec {x i:zg} (h:x.apart i=true):(∀ d,x.dst=some d→d ∉ i.looks)∧(∀ d,x.dst=some d→i.dst≠some d)∧(∀ d,i.dst=some d→d ∉ x.looks):=by
 refine⟨fun d hd=>?_,fun d hd=>?_,fun d hd=>?_⟩<;>simp[zg.apart,hd] at h
 ·exact h.1.1
 ·exact h.1.2
 ·exact h.2
instance:BEq MB:=⟨fun a b=>decide (a=b)⟩
def Ya (x i:zg):Bool :=
 match x.op.cls,i.op.cls with
 | .pure,_=>true
 | .read,.pure|.read,.read|.read,.alloc=>true
 | .read,.eff=>true
 | .alloc,.alloc=>i.guard.isNone
 | .eff,.alloc=>i.guard.isNone&&(match i.op with|.alloc _|.mkm _=>true|_=>false)
 | _,_=>false
theorem Uh {ρ:Env} {H:zb} {b:Nat} {ob:yf} {o:z6} {v:AV} (hb:H b=none) (h:rev ρ H o=some v):rev ρ (H.upd b ob) o=some v:=by
 cases o<;>simp only[rev] at h ⊢<;>try (cases h;done)
 case ld n ag x =>
  cases hx:x.ev ρ<;>simp only[hx] at h ⊢<;>try (cases h;done)
  ·rename_i b' off
   have hne:b'≠b:=fun e=>by subst e;simp[hb] at h
   simp only[zb.upd,hne,if_false]
   exact h
  ·exact h
 case lkp kt zero ok m k =>
  split at h
  ·rename_i hf
   simp only[hf,if_true]
   cases hx:m.ev ρ<;>simp only[hx] at h ⊢<;>try (cases h;done)
   ·exact h
   ·rename_i b'
    have hne:b'≠b:=fun e=>by subst e;simp[hb] at h
    simp only[zb.upd,hne,if_false]
    exact h
  ·cases h
 case lenm x =>
  cases hx:x.ev ρ<;>simp only[hx] at h ⊢<;>try (cases h;done)
  ·exact h
  ·rename_i b'
   have hne:b'≠b:=fun e=>by subst e;simp[hb] at h
   simp only[zb.upd,hne,if_false]
   exact h
def Vp (KP:AV→zb→Prop):Prop:=∀ v H b o,H b=none→KP v H→KP v (H.upd b o)
theorem yY (H:zb) {b c:Nat} (x y:yf) (h:b≠c):(H.upd b x).upd c y=(H.upd c y).upd b x:=by
 funext n
 simp only[zb.upd]
 by_cases h1:n=c
 ·subst h1;simp[Ne.symm h]
 ·by_cases h2:n=b
  ·subst h2;simp[h]
  ·simp[h1,h2]
theorem VJ (H:zb) (b:Nat) (o:yf) (h:H b=none):zb.union H (zb.one b o)=H.upd b o:=by
 funext n
 simp only[zb.union,zb.one,zb.upd]
 by_cases h1:n=b
 ·subst h1;simp[h]
 ·simp[h1]
theorem zt.beside {P:Program} {f:FuncId} {args:List AV} {H:zb} {K KP:AV→zb→Prop} {b:Nat} {o:yf} (hb:H b=none) (hKP:Vp KP) (h:zt P f args H (WQ K KP)) :
  zt P f args (H.upd b o) (WQ (fun v H'=>∃ H0,H0 b=none∧H'=H0.upd b o∧K v H0) KP):=by
 have hd:zb.Disj H (zb.one b o):=fun c=>by
  by_cases hc:c=b
  ·subst hc;exact .inl hb
  ·exact .inr (by simp[zb.one,hc])
 rw[← VJ H b o hb]
 refine(h.frame hd).mono fun r H' ⟨A',hq,hdis,he⟩=>?_
 have hA:A' b=none:=by
  rcases hdis b with h1|h1
  ·exact h1
  ·simp[zb.one] at h1
 rw[VJ A' b o hA] at he
 subst he
 cases r with
 | ret v=>exact⟨A',hA,rfl,hq⟩
 | pan v=>exact hKP v A' b o hA hq
theorem Wf {sz bytes:Nat} {x y:AV} {H:zb} {K:AV→zb→Prop} {b:Nat} {o:yf} (hb:H b=none) (h:UA sz bytes x y H K) :
  UA sz bytes x y (H.upd b o) (fun v H'=>∃ H0,H0 b=none∧H'=H0.upd b o∧K v H0):=by
 cases x<;>try (exact False.elim h)
 cases y<;>try (exact False.elim h)
 rename_i ow s1 xs o2 s2 ys
 obtain⟨h1,h2,h3,h4,h5⟩:=h
 refine⟨h1,h2,h3,h4,?_⟩
 have fresh:∀ b2,(H.upd b o) b2=none→b2≠b∧H b2=none:=fun b2 h2=>by
  have hne:b2≠b:=fun e=>by subst e;simp[zb.upd] at h2
  exact⟨hne,by simpa[zb.upd,hne] using h2⟩
 cases ow with
 | no=>exact h5
 | nil=>exact⟨fun e=>⟨H,hb,rfl,h5.1 e⟩,fun e b2 hb2=>by
   obtain⟨hne,hn⟩:=fresh b2 hb2
   exact⟨_,by simp[zb.upd,Ne.symm hne,hb],yY H _ _ (Ne.symm hne),h5.2 e b2 hn⟩⟩
 | full=>exact⟨fun e=>⟨H,hb,rfl,h5.1 e⟩,fun e b2 hb2=>by
   obtain⟨hne,hn⟩:=fresh b2 hb2
   exact⟨_,by simp[zb.upd,Ne.symm hne,hb],yY H _ _ (Ne.symm hne),h5.2 e b2 hn⟩⟩
 | tip b1 d =>
  obtain⟨h6,h7⟩:=h5
  have hne:b1≠b:=fun e=>by subst e;simp[hb] at h6
  refine⟨by simp[zb.upd,hne,h6],fun b2 d2 hb2=>?_⟩
  have hne2:b2≠b:=fun e=>by subst e;simp[zb.del,zb.upd,Ne.symm hne] at hb2
  have hn:(H.del b1) b2=none:=by
   unfold zb.del at hb2 ⊢
   split
   ·rfl
   ·rename_i hh;simpa[hh,zb.upd,hne2] using hb2
  refine⟨_,?_,?_,h7 b2 d2 hn⟩
  ·simp[zb.upd,zb.del,Ne.symm hne2,hb]
  ·rw[← yY _ _ _ (Ne.symm hne2)]
   congr 1
   funext n
   simp only[zb.del,zb.upd]
   by_cases e1:n=b1
   ·subst e1;simp[hne]
   ·simp[e1]
theorem XF {S:AV→AV} {sz bytes:Nat} {zero:List AV} {x y:AV} {H:zb} {K:AV→zb→Prop} {b:Nat} {o:yf} (hb:H b=none) (h:W2 S sz bytes zero x y H K) :
  W2 S sz bytes zero x y (H.upd b o) (fun v H'=>∃ H0,H0 b=none∧H'=H0.upd b o∧K v H0):=by
 have fresh:∀ b2,(H.upd b o) b2=none→b2≠b∧H b2=none:=fun b2 h2=>by
  have hne:b2≠b:=fun e=>by subst e;simp[zb.upd] at h2
  exact⟨hne,by simpa[zb.upd,hne] using h2⟩
 cases y<;>try (exact False.elim h)
 obtain⟨h1,h2,h3⟩:=h
 refine⟨h1,h2,?_⟩
 cases x<;>try (exact False.elim h3)
 ·rename_i o s1 xs
  cases o<;>try (exact False.elim h3)
  obtain⟨h4,h5,h6,h7,h8,h9⟩:=h3
  exact⟨h4,h5,h6,h7,fun e=>⟨H,hb,rfl,h8 e⟩,fun e b2 cap hb2 hc hm=>by
   obtain⟨hne,hn⟩:=fresh b2 hb2
   exact⟨_,by simp[zb.upd,Ne.symm hne,hb],yY H _ _ (Ne.symm hne),h9 e b2 cap hn hc hm⟩⟩
 ·rename_i b1 off len cap
  obtain⟨h4,h5,h6⟩:=h3
  refine⟨h4,h5,?_⟩
  have hne1:b1≠b:=fun e=>by subst e;simp[hb] at h6
  have e1:(H.upd b o) b1=H b1:=by simp[zb.upd,hne1]
  rw[e1]
  cases hb1:H b1 with
  | none=>simp[hb1] at h6
  | some ob =>
   cases ob<;>simp only[hb1] at h6 ⊢<;>try (exact False.elim h6)
   refine⟨fun e=>⟨(h6.1 e).1,_,?_,yY H _ _ (Ne.symm hne1),(h6.1 e).2⟩,fun e=>⟨(h6.2 e).1,fun b' cap' hb' hc hm=>?_⟩⟩
   ·simp[zb.upd,Ne.symm hne1,hb]
   ·obtain⟨hne,hn⟩:=fresh b' hb'
    exact⟨_,by simp[zb.upd,Ne.symm hne,hb],yY H _ _ (Ne.symm hne),(h6.2 e).2 b' cap' hn hc hm⟩
theorem Wt {sz:Nat} {x:AV} {H:zb} {K:AV→zb→Prop} {b:Nat} {o:yf} (hb:H b=none) (h:WG sz x H K) :
  WG sz x (H.upd b o) (fun v H'=>∃ H0,H0 b=none∧H'=H0.upd b o∧K v H0):=by
 cases x<;>try (exact False.elim h)
 rename_i b1 off len cap
 simp only[WG] at h ⊢
 have hne1:b1≠b:=fun e=>by subst e;simp[hb] at h
 have e1:(H.upd b o) b1=H b1:=by simp[zb.upd,hne1]
 rw[e1]
 cases hb1:H b1 with
 | none=>simp[hb1] at h
 | some ob =>
  cases ob<;>simp only[hb1] at h ⊢<;>try (exact False.elim h)
  refine⟨h.1,h.2.1,H.del b1,by simp[zb.del,Ne.symm hne1,hb],?_,h.2.2⟩
  funext n
  simp only[zb.del,zb.upd]
  by_cases e1:n=b1
  ·subst e1;simp[hne1]
  ·simp[e1]
theorem Ur {n sz:Nat} {x y:AV} {H:zb} {K:AV→zb→Prop} {b:Nat} {o:yf} (hb:H b=none) (h:VI n sz x y H K) :
  VI n sz x y (H.upd b o) (fun v H'=>∃ H0,H0 b=none∧H'=H0.upd b o∧K v H0):=by
 cases x<;>try (exact False.elim h)
 cases y<;>try (exact False.elim h)
 exact⟨h.1,h.2.1,Wt hb h.2.2⟩
theorem TV {P:Program} {KP:AV→zb→Prop} {ρ:Env} {H:zb} {K:AV→zb→Prop} {x:z6} {b:Nat} {o:yf} (hb:H b=none) (hKP:Vp KP) (h:eff P KP ρ H K x) :
  eff P KP ρ (H.upd b o) (fun v H'=>∃ H0,H0 b=none∧H'=H0.upd b o∧K v H0) x:=by
 cases x<;>simp only[eff] at h ⊢<;>try (exact False.elim h)
 case st n x y =>
  cases hx:x.ev ρ<;>simp only[hx] at h ⊢<;>try (exact False.elim h)
  rename_i b1 off
  have hne:b1≠b:=fun e=>by subst e;simp[hb] at h
  have e1:(H.upd b o) b1=H b1:=by simp[zb.upd,hne]
  rw[e1]
  cases hb1:H b1 with
  | none=>simp[hb1] at h
  | some ob =>
   cases ob<;>simp only[hb1] at h ⊢<;>try (exact False.elim h)
   exact⟨h.1,h.2.1,h.2.2.1,_,by simp[zb.upd,Ne.symm hne,hb],yY H _ _ (Ne.symm hne),h.2.2.2⟩
 case mup kt m k v =>
  cases hx:m.ev ρ<;>simp only[hx] at h ⊢<;>try (exact False.elim h)
  rename_i b1
  have hne:b1≠b:=fun e=>by subst e;simp[hb] at h
  have e1:(H.upd b o) b1=H b1:=by simp[zb.upd,hne]
  rw[e1]
  cases hb1:H b1 with
  | none=>simp[hb1] at h
  | some ob =>
   cases ob<;>simp only[hb1] at h ⊢<;>try (exact False.elim h)
   exact⟨h.1,h.2.1,_,by simp[zb.upd,Ne.symm hne,hb],yY H _ _ (Ne.symm hne),h.2.2⟩
 case app sz by' x y=>exact Wf hb h
 case appm sz by' z x y=>exact XF hb h
 case appm2 sz by' z x y=>exact XF hb h
 case frz sz x=>exact Wt hb h
 case slaf n sz x y=>exact Ur hb h
 case apps x y =>
  cases hy:y.ev ρ<;>simp only[hy] at h ⊢<;>try (exact False.elim h)
  exact Wf hb h
 case call f args=>exact zt.beside hb hKP h
 case callv g args =>
  cases hg:g.ev ρ<;>simp only[hg] at h ⊢<;>try (exact False.elim h)
  exact⟨h.1,zt.beside hb hKP h.2⟩
 case pan x =>
  cases hx:x.ev ρ<;>simp only[hx] at h ⊢<;>try (exact False.elim h)
  exact hKP _ _ _ _ hb h
theorem U8 {P:Program} {KP:AV→zb→Prop} {o:z6} {ρ:Env} {H:zb} {K K':AV→zb→Prop} (hne:o.cls≠.eff)
  (hk:∀ v H',(H'=H∨∃ b ob,H b=none∧H'=H.upd b ob)→K v H'→K' v H') (h:Zr P KP o ρ H K):Zr P KP o ρ H K':=by
 unfold Zr at *
 cases hc:o.cls<;>simp only[hc] at h ⊢
 ·cases hv:zY ρ o<;>simp only[hv] at h ⊢;· exact hk _ _ (.inl rfl) h
 ·cases hv:rev ρ H o<;>simp only[hv] at h ⊢;· exact hk _ _ (.inl rfl) h
 ·cases hv:ZN ρ o<;>simp only[hv] at h ⊢
  ·exact h
  ·exact fun b hb=>hk _ _ (.inr ⟨b,_,hb,rfl⟩) (h b hb)
 ·exact absurd hc hne
theorem Y9 {ρ:Env} {H:zb} {b:Nat} {ob:yf} (hb:H b=none):∀ {R:List yQ},yg ρ H R→yg ρ (H.upd b ob) R
 | [],_=>trivial
 | (_,_,_)::_,hr=>⟨fun hg=>Uh hb (hr.1 hg),Y9 hb hr.2⟩
def val (ρ:Env) (H:zb) (o:z6):Option AV :=
 match o.cls with
 | .pure=>zY ρ o
 | .read=>rev ρ H o
 | _=>none
theorem Si {P:Program} {KP:AV→zb→Prop} {o:z6} {ρ:Env} {H:zb} {K:AV→zb→Prop} (hc:o.cls=.pure∨o.cls=.read):Zr P KP o ρ H K↔∃ v,val ρ H o=some v∧K v H:=by
 unfold Zr val
 rcases hc with hc|hc<;>simp only[hc]
 ·cases zY ρ o<;>simp
 ·cases rev ρ H o<;>simp
def entry (x:zg):List yQ :=
 match x.dst with
 | some d=>[(d,x.guard,x.op)]
 | none=>[]
def Zd (x i:zg):List yQ:=if x.op.cls=.read∧i.op.cls=.eff then entry x else []
theorem Yz {ρ:Env} {H:zb}:∀ {A B:List yQ},yg ρ H (A++B)→yg ρ H B
 | [],_,h=>h
 | (_,_,_)::_,_,h=>Yz h.2
theorem Yo.upd {H:zb} (h:Yo H) (b:Nat) (o:yf):Yo (H.upd b o):=by
 obtain⟨n,h⟩:=h
 refine⟨n,fun c hc=>?_⟩
 unfold zb.upd
 split
 ·simp
 ·exact h c hc
theorem Yo.of_upd {H:zb} {b:Nat} {o:yf} (h:Yo (H.upd b o)):Yo H:=by
 obtain⟨n,h⟩:=h
 refine⟨max n (b+1),fun c hc=>?_⟩
 have:=h c (by omega)
 have hne:c≠b:=by omega
 simpa[zb.upd,hne] using this
theorem swap {P:Program} {KP:AV→zb→Prop} (hKP:Vp KP) {x i:zg} {cx:List yQ} (hap:x.apart i=true) (hsw:Ya x i=true) (hself:x.op.cls=.read→∃ d,x.dst=some d∧d ∉ x.looks) (hchk:x.op.cls≠.eff→cx=[])
  (hchk2:∀ c∈cx,∀ d,i.dst=some d→d ∉ Zi c) {R:List yQ} (hR:∀ c∈R,∀ d,x.dst=some d→d ∉ Zi c) (hRe:i.op.cls≠.eff→R=[]) {ρ:Env} {H:zb} {K:Env→zb→Prop}
  (h:yn P KP x cx ρ H (fun ρ1 H1=>yn P KP i (Zd x i++R) ρ1 H1 K)):yn P KP i R ρ H (fun ρ2 H2=>yn P KP x cx ρ2 H2 K):=by
 obtain⟨a1,a2,a3⟩:=apart_spec hap
 have a1g:∀ d,x.dst=some d→d ∉ Xm i.guard:=fun d hd hm=>a1 d hd (Y8 _ hm)
 have a1o:∀ d,x.dst=some d→d ∉ i.op.looks:=fun d hd hm=>a1 d hd (List.mem_append_right _ hm)
 have a3g:∀ d,i.dst=some d→d ∉ Xm x.guard:=fun d hd hm=>a3 d hd (Y8 _ hm)
 have a3o:∀ d,i.dst=some d→d ∉ x.op.looks:=fun d hd hm=>a3 d hd (List.mem_append_right _ hm)
 have gi:∀ c,gv i.guard (ρ.set x.dst c)=gv i.guard ρ:=fun c=>Xw (z8 a1g)
 have gx:∀ c,gv x.guard (ρ.set i.dst c)=gv x.guard ρ:=fun c=>Xw (z8 a3g)
 have comm:∀ c u,(ρ.set x.dst c).set i.dst u=(ρ.set i.dst u).set x.dst c:=fun c u=>RX ρ c u a2
 have oi:∀ c H' (K':AV→zb→Prop),Zr P KP i.op (ρ.set x.dst c) H' K'=Zr P KP i.op ρ H' K':=fun c H' K'=>SO (z8 a1o)
 have Rback:∀ c u H',yg ((ρ.set x.dst c).set i.dst u) H' R→yg (ρ.set i.dst u) H' R:=fun c u H' hr=>by
  rw[comm] at hr
  exact ZY (fun e he n hn=>z8 (fun d hd=>hR e he d hd) n hn) hr
 unfold yn at h
 cases hg:gv x.guard ρ with
 | none=>simp[hg] at h
 | some b =>
  cases b with
  | false =>
   simp only[hg] at h
   unfold yn
   rw[gi] at h
   cases hgi:gv i.guard ρ with
   | none=>simp[hgi] at h
   | some b =>
    cases b with
    | false =>
     simp only[hgi] at h ⊢
     rw[gx,hg]
     rw[comm] at h
     exact h
    | true =>
     simp only[hgi] at h ⊢
     rw[oi] at h
     refine W7 (fun v H' hh=>⟨?_,?_⟩) h
     ·exact Rback (.tup []) v H' (Yz hh.1)
     ·rw[gx,hg]
      rw[comm] at hh
      exact hh.2
  | true =>
   simp only[hg] at h
   by_cases hcls:x.op.cls=.pure∨x.op.cls=.read
   ·have hne:x.op.cls≠.eff:=by rcases hcls with e|e<;>rw[e]<;>simp
    have hnil:=hchk hne
    rw[hnil] at h
    rw[Si hcls] at h
    obtain⟨v,hv,_,h⟩:=h
    unfold yn
    rw[gi] at h
    have hx:∀ u H',(x.op.cls=.read→rev ρ H' x.op=some v)→K ((ρ.set i.dst u).set x.dst v) H'→yn P KP x cx (ρ.set i.dst u) H' K:=by
     intro u H' hr hk
     unfold yn
     rw[gx,hg,hnil]
     simp only
     rw[Si hcls]
     refine⟨v,?_,trivial,hk⟩
     unfold val at hv ⊢
     rcases hcls with e|e<;>simp only[e] at hv ⊢
     ·rw[Ua (z8 a3o)];exact hv
     ·rw[Z6 (z8 a3o)];exact hr e
    have hvr:x.op.cls=.read→rev ρ H x.op=some v:=fun e=>by simpa[val,e] using hv
    cases hgi:gv i.guard ρ with
    | none=>simp[hgi] at h
    | some b =>
     cases b with
     | false =>
      simp only[hgi] at h ⊢
      rw[comm] at h
      exact hx _ _ hvr h
     | true =>
      simp only[hgi] at h ⊢
      rw[oi] at h
      by_cases hie:i.op.cls=.eff
      ·refine W7 (fun u H' hh=>?_) h
       rcases hcls with e|e
       ·have hn:Zd x i=[]:=by simp[Zd,e]
        rw[hn] at hh
        refine⟨Rback v u H' hh.1,hx u H' (fun e'=>by rw[e] at e';cases e') (by rw[← comm];exact hh.2)⟩
       ·obtain⟨d,hd,hds⟩:=hself e
        have hn:Zd x i=[(d,x.guard,x.op)]:=by simp[Zd,e,hie,entry,hd]
        rw[hn] at hh
        obtain⟨⟨h1,h2⟩,h3⟩:=hh
        refine⟨Rback v u H' h2,hx u H' (fun _=>?_) (by rw[← comm];exact h3)⟩
        have hgg:gv x.guard ((ρ.set x.dst v).set i.dst u)=some true:=by
         rw[← hg]
         rw[comm]
         rw[Xw (z8 (l:=Xm x.guard) fun d' hd' hm=>by rw[hd] at hd';cases hd';exact hds (Y8 _ hm))]
         exact gx u
        have h4:=h1 hgg
        have e1:((ρ.set x.dst v).set i.dst u) d=v:=by
         rw[comm,hd];simp[Env.set]
        rw[e1] at h4
        rw[comm] at h4
        rw[Z6 (z8 (l:=x.op.looks) fun d' hd' hm=>by rw[hd] at hd';cases hd';exact hds (List.mem_append_right _ hm))] at h4
        rw[Z6 (z8 a3o)] at h4
        exact h4
      ·have hn:Zd x i=[]:=by simp[Zd,hie]
       rw[hn] at h
       refine U8 hie (fun u H' hH' hh=>⟨Rback v u H' hh.1,hx u H' (fun e=>?_) (by rw[← comm];exact hh.2)⟩) h
       rcases hH' with rfl|⟨b,ob,hb,rfl⟩
       ·exact hvr e
       ·exact Uh hb (hvr e)
   ·by_cases hal:x.op.cls=.alloc
    ·-- two new objects
     have hia:i.op.cls=.alloc:=by
      unfold Ya at hsw
      cases hc2:i.op.cls<;>simp_all
     have hgn:i.guard=none:=by
      unfold Ya at hsw
      simp only[hal,hia] at hsw
      simpa using hsw
     have hxe:x.op.cls≠.eff:=by rw[hal];simp
     have hie:i.op.cls≠.eff:=by rw[hia];simp
     have hnil:=hchk hxe
     subst hnil
     have hRn:=hRe hie
     subst hRn
     have hn:Zd x i=[]:=by simp[Zd,hie]
     have gvn:∀ ρ',gv i.guard ρ'=some true:=fun ρ'=>by rw[hgn];rfl
     unfold yn
     simp only[gvn]
     simp only[hn,List.append_nil,yn,gvn] at h
     unfold Zr at h
     simp only[hal,hia] at h
     have hxo:∀ u,ZN (ρ.set i.dst u) x.op=ZN ρ x.op:=fun u=>Y4 (z8 a3o)
     have hio:∀ u,ZN (ρ.set x.dst u) i.op=ZN ρ i.op:=fun u=>Y4 (z8 a1o)
     have hxp:∀ u b,ZC (ρ.set i.dst u) b x.op=ZC ρ b x.op:=fun u b=>Yb (z8 a3o)
     have hip:∀ u b,ZC (ρ.set x.dst u) b i.op=ZC ρ b i.op:=fun u b=>Yb (z8 a1o)
     simp only[hio,hip] at h
     unfold Zr
     simp only[hal,hia,gx,hg,hxo,hxp]
     cases hox:ZN ρ x.op with
     | none =>
      simp only[hox] at h ⊢
      cases hoi:ZN ρ i.op with
      | none=>exact h
      | some oi'=>exact fun b hb=>⟨trivial,h.upd _ _⟩
     | some ox =>
      simp only[hox] at h ⊢
      cases hoi:ZN ρ i.op with
      | none =>
       simp only[hoi] at h ⊢
       by_cases hf:∃ b,H b=none
       ·obtain⟨b,hb⟩:=hf
        exact(h b hb).2.of_upd
       ·exact⟨0,fun b _ hb=>hf ⟨b,hb⟩⟩
      | some oi' =>
       simp only[hoi] at h ⊢
       intro bi hbi
       refine⟨trivial,fun bx hbx=>⟨trivial,?_⟩⟩
       have hne:bx≠bi:=fun e=>by subst e;simp[zb.upd] at hbx
       have hbx':H bx=none:=by simpa[zb.upd,hne] using hbx
       have h2:=((h bx hbx').2 bi (by simp[zb.upd,Ne.symm hne,hbi])).2
       rw[comm,yY H _ _ hne] at h2
       exact h2
    have hxe:x.op.cls=.eff∧i.op.cls=.alloc:=by
     unfold Ya at hsw
     cases hc1:x.op.cls<;>cases hc2:i.op.cls<;>simp_all
    obtain⟨hxe,hia⟩:=hxe
    have hn:Zd x i=[]:=by simp[Zd,hxe]
    have hie:i.op.cls≠.eff:=by rw[hia];simp
    have hRn:=hRe hie
    subst hRn
    have hgn:i.guard=none:=by
     unfold Ya at hsw
     simp only[hxe,hia,zH] at hsw
     simpa using hsw.1
    have hsome:∃ ob,ZN ρ i.op=some ob:=by
     unfold Ya at hsw
     simp only[hxe,hia,zH] at hsw
     have h2:=hsw.2
     cases hio:i.op<;>simp only[hio] at h2<;>first|(cases h2;done)|exact⟨_,rfl⟩
    obtain⟨ob,hob⟩:=hsome
    have gvn:∀ ρ',gv i.guard ρ'=some true:=fun ρ'=>by rw[hgn];rfl
    unfold yn
    simp only[gvn,hn,UE] at h ⊢
    unfold Zr at h
    simp only[hxe,hia] at h
    unfold Zr
    simp only[hia,hob]
    intro b hb
    refine⟨trivial,?_⟩
    rw[gx,hg]
    simp only[hxe]
    have h1:=TV (o:=ob) hb hKP h
    rw[Uf (ρ:=ρ.set i.dst (ZC ρ b i.op)) (z8 a3o)]
    refine UZ (fun v H' hh=>?_) h1
    obtain⟨H0,hH0,rfl,hr,hk⟩:=hh
    have hob':ZN (ρ.set x.dst v) i.op=some ob:=by rw[Y4 (z8 a1o)];exact hob
    simp only[hob'] at hk
    have hk2:=(hk b hH0).2
    rw[Yb (ρ:=ρ.set x.dst v) (ρ':=ρ) (z8 a1o)] at hk2
    rw[← comm]
    exact⟨ZY (fun c hc n hn=>(z8 (fun d hd=>hchk2 c hc d hd) n hn).symm) (Y9 hH0 hr),hk2⟩
structure Fx where
 N:Nat
 lo:Nat
 T:Array Value
 D:List Deferred
 rf:Bool:=false
 keep:List (Nat×Obj):=[]
 base:Nat:=0
def Fx.plain (N:Nat):Fx:=⟨N,0,#[],[],false,[],0⟩
def Fx.marks (N base:Nat):Fx:=⟨N,0,#[],[],true,[],base⟩
def Pe (b:Nat):Deferred:=⟨.collected b,#[]⟩
structure X7 (F:Fx) (w:World) (H:zb) (ds:List Deferred):Prop where
 eq:∃ bs:List Nat,ds=bs.map Pe++F.D∧bs.Nodup∧(F.rf=false→bs=[])∧∀ b∈bs,F.base≤b∧H b=none∧w.heap[b]?=some (.deferred (some []))
 keep:∀ x∈F.keep,H x.1=none∧w.heap[x.1]?=some x.2
theorem V0 {γ γ':Gh} {w w':World} {H H':zb} (hext:yV (keysOf H) γ w γ' w') (hk:zG H w H') {b:Nat} {o:Obj} (h:H b=none∧w.heap[b]?=some o):H' b=none∧w'.heap[b]?=some o:=by
 have hlt:=(Zj.1 h.2).1
 refine⟨?_,(hext.frame b hlt (by simp[keysOf,h.1])).2.trans h.2⟩
 cases hb:H' b with
 | none=>rfl
 | some x =>
  rcases hk b (by simp[hb]) with h1|h1
  ·simp[h.1] at h1
  ·omega
theorem X7.step {F:Fx} {γ γ':Gh} {w w':World} {H H':zb} {ds:List Deferred} (h:X7 F w H ds) (hext:yV (keysOf H) γ w γ' w') (hk:zG H w H'):X7 F w' H' ds :=
 ⟨let ⟨bs,h1,h2,h3,h4⟩:=h.eq;⟨bs,h1,h2,h3,fun b hb=>⟨(h4 b hb).1,V0 hext hk (h4 b hb).2⟩⟩,fun x hx=>V0 hext hk (h.keep x hx)⟩
theorem X7.plain {F:Fx} {w:World} {H:zb} {ds:List Deferred} (h:X7 F w H ds) (hf:F.rf=false):ds=F.D:=by
 obtain⟨bs,h1,_,h3,_⟩:=h.eq
 rw[h1,h3 hf];rfl
theorem X7.init {F:Fx} {w:World} {H:zb} (hk:F.keep=[]):X7 F w H F.D :=
 ⟨⟨[],rfl,List.nodup_nil,fun _=>rfl,fun b hb=>by cases hb⟩,fun x hx=>by rw[hk] at hx;cases hx⟩
structure yi (γ0:Gh) (w0:World) (H0:zb) (F:Fx) (γ:Gh) (w:World) (H:zb) (ρ:Env) (a:Act):Prop where
 ext:yV (keysOf H0) γ0 w0 γ w
 st:zn γ w H
 keys:zG H0 w0 H
 env:yj γ w ρ a.tmps
 sz:a.tmps.size=F.N
 fx:∀ n,n<F.lo→a.tmps.getD n undef=F.T.getD n undef
 df:X7 F w H a.defers
def yt (N lo:Nat) (ops:Array Oper) (P:Program) (o:Oper) (it:zg):Bool :=
 decide (o.dst=it.dst)&&(match it.dst with|some d=>decide (lo≤d)&&decide (d<N)|none=>true) &&
 (match o.guard,it.guard with
  | none,none=>true
  | some (j,want),some (s,want')=>decide (want=want')&&decide ((ops[j]?).bind (·.dst)=some s)
  | _,_=>false)&&zM P o it.op
theorem SH {γ:Gh} {w:World} {ρ:Env} {a:Act} {ops:Array Oper} {o:Oper} {it:zg} (he:yj γ w ρ a.tmps)
  (hg:(match o.guard,it.guard with
   | none,none=>true
   | some (j,want),some (s,want')=>decide (want=want')&&decide ((ops[j]?).bind (·.dst)=some s)
   | _,_=>false)=true) {b:Bool} (h:gv it.guard ρ=some b):Region.wanted o (yielded ops a.tmps)=b:=by
 cases hog:o.guard with
 | none =>
  cases hig:it.guard with
  | some p=>simp[hog,hig] at hg
  | none=>rw[hig] at h;simp only[gv,zx] at h;subst h;simp[Region.wanted,hog]
 | some jw =>
  obtain⟨j,want⟩:=jw
  cases hig:it.guard with
  | none=>simp[hog,hig] at hg
  | some p =>
   obtain⟨s,want'⟩:=p
   simp only[hog,hig,zH,zU] at hg
   obtain⟨rfl,hd⟩:=hg
   rw[hig] at h
   simp only[gv] at h
   have hr:=he.rep s
   have hy:∀ v,a.tmps.getD s undef=v→v≠undef→a.tmps[s]?=some v:=by
    intro v hv hne
    cases hs:a.tmps[s]? with
    | none=>simp[UJ,hs] at hv;exact absurd hv.symm hne
    | some u=>simp[UJ,hs] at hv;rw[hv]
   cases hρ:ρ s<;>simp only[hρ] at h hr<;>try (cases h;done)
   ·rename_i b'
    simp only[zx] at h
    subst h
    generalize hv:a.tmps.getD s undef=v at hr
    cases hr
    have:=hy _ hv (by simp[undef])
    simp[Region.wanted,hog,yielded,hd,this]
   ·rename_i vs
    cases vs with
    | cons c r=>simp at h
    | nil =>
     simp only[zx] at h
     subst h
     generalize hv:a.tmps.getD s undef=v at hr
     cases hr with
     | tup _ us hl _ =>
      cases us with
      | cons u r=>simp at hl
      | nil =>
       have:yielded ops a.tmps j=none:=by
        unfold yielded
        rw[hd]
        simp only[Option.bind_some]
        cases hs:a.tmps[s]? with
        | none=>rfl
        | some u=>simp[UJ,hs] at hv;rw[hv]
       simp[Region.wanted,hog,this]
theorem Sk {γ:Gh} {w:World} {ρ:Env} {tmps:Array Value} {N:Nat} (he:yj γ w ρ tmps) (hs:tmps.size=N) {d:Option Nat} (hd:∀ x,d=some x→x<N) {c:AV} {v:Value} (hr:Rep γ w c v) (a:Act) (ha:a.tmps=tmps) :
  yj γ w (ρ.set d c) (a.put d v).tmps:=by
 cases d with
 | none=>subst ha;exact he
 | some x =>
  subst ha
  refine⟨he.tab,fun n=>?_⟩
  simp only[Env.set,Act.put]
  have hx:=hd x rfl
  by_cases hn:n=x
  ·subst hn
   simp only[if_true]
   have:(a.tmps.setIfInBounds n v).getD n undef=v:=by
    simp[UJ,hs,hx]
   rw[this];exact hr
  ·simp only[hn,if_false]
   have:(a.tmps.setIfInBounds x v).getD n undef=a.tmps.getD n undef:=by
    simp only[UJ,Array.getElem?_setIfInBounds_ne (Ne.symm hn)]
   rw[this];exact he.rep n
theorem Rp (a:Act) (d:Option Nat) (v:Value):(a.put d v).tmps.size=a.tmps.size:=by cases d<;>simp[Act.put]
theorem P9 {F:Fx} {a:Act} (h:∀ n,n<F.lo→a.tmps.getD n undef=F.T.getD n undef) {d:Option Nat} (hd:∀ x,d=some x→F.lo≤x∧x<F.N) (v:Value):∀ n,n<F.lo→(a.put d v).tmps.getD n undef=F.T.getD n undef:=by
 intro n hn
 cases d with
 | none=>exact h n hn
 | some x =>
  have hx:=(hd x rfl).1
  have:(a.tmps.setIfInBounds x v).getD n undef=a.tmps.getD n undef:=by
   simp only[UJ,Array.getElem?_setIfInBounds_ne (show x≠n by omega)]
  simp only[Act.put]
  rw[this];exact h n hn
theorem put_defers (a:Act) (d:Option Nat) (v:Value):(a.put d v).defers=a.defers:=by cases d<;>rfl
theorem Ze {H0 H H':zb} {w0 w:World} (h:zG H0 w0 H) (hs:w0.heap.size≤w.heap.size) (h':zG H w H'):zG H0 w0 H':=fun b hb=>by
 rcases h' b hb with h1|h1
 ·exact h b h1
 ·exact .inr (by omega)
theorem yi.step {γ0:Gh} {w0:World} {H0:zb} {F:Fx} {γ γ':Gh} {w w':World} {H H':zb} {ρ:Env} {a:Act} (h:yi γ0 w0 H0 F γ w H ρ a) (hext:yV (keysOf H) γ w γ' w') (hst:zn γ' w' H') (hk:zG H w H')
  {d:Option Nat} (hd:∀ x,d=some x→F.lo≤x∧x<F.N) {c:AV} {v:Value} (hr:Rep γ' w' c v):yi γ0 w0 H0 F γ' w' H' (ρ.set d c) (a.put d v) :=
 ⟨h.ext.trans hext (fun b hb hb'=>by
   rcases h.keys b hb' with h1|h1
   ·exact h1
   ·omega),hst,Ze h.keys h.ext.mono.size hk,Sk (h.env.mono hext.mono) h.sz (fun x hx=>(hd x hx).2) hr a rfl,by rw[Rp];exact h.sz,P9 h.fx hd v,by rw[put_defers];exact h.df.step hext hk⟩
def Zy (γ0:Gh) (w0:World) (H0:zb) (F:Fx) (KP:AV→zb→Prop) (ch:List PanicEntry) (a:Act) (w:World):Prop :=
 ∃ γ H c v,ch=[{ v,recovered:=false }]∧yV (keysOf H0) γ0 w0 γ w∧zn γ w H∧zG H0 w0 H∧Rep γ w c v∧KP c H∧y1 γ w∧a.tmps.size=F.N∧(∀ n,n<F.lo→a.tmps.getD n undef=F.T.getD n undef)∧X7 F w H a.defers
theorem Xi {P:Program} {γ0:Gh} {w0:World} {H0:zb} {F:Fx} {KP:AV→zb→Prop} {ops:Array Oper} {i:Nat} {o:Oper} {it:zg} {R:List yQ} {K:Env→zb→Prop} {next:Act→World→Prop} {Q:Exit→Act→World→Prop}
  (hQ:∀ ch a w,Zy γ0 w0 H0 F KP ch a w→Q (.panic ch) a w) (hi:ops[i]?=some o) (hc:yt F.N F.lo ops P o it=true) {γ:Gh} {w:World} {H:zb} {ρ:Env} {a:Act} (h:yi γ0 w0 H0 F γ w H ρ a) (hs:yn P KP it R ρ H K)
  (hn:∀ γ' w' H' ρ' a',yi γ0 w0 H0 F γ' w' H' ρ' a'→K ρ' H'→next a' w'):wpOp P ops Q i next a w:=by
 simp only[yt,zH,zU] at hc
 obtain⟨⟨⟨hd,hb⟩,hg⟩,hop⟩:=hc
 have hdN:∀ x,it.dst=some x→F.lo≤x∧x<F.N:=fun x hx=>by rw[hx] at hb;simpa using hb
 unfold wpOp
 simp only[hi]
 unfold yn at hs
 cases hgv:gv it.guard ρ with
 | none=>simp[hgv] at hs
 | some b =>
  have hw:=SH (ops:=ops) (o:=o) h.env hg hgv
  rw[hw]
  cases b with
  | false =>
   simp only[hgv] at hs
   simp only[V6,if_false]
   rw[hd]
   exact hn _ _ _ _ _ (h.step (.refl _ _ _) h.st (zG.refl _ _) hdN (.tup [] [] rfl (by simp))) hs
  | true =>
   simp only[hgv] at hs
   simp only[if_true]
   refine .inl (Tm hop γ w H ρ a _ KP next Q h.env h.st hs (fun γ' w' H' c v hext hst hk hr hK=>?_) (fun γ' w' H' c v hext hst hk hr hK=>hQ _ _ _ ⟨γ',H',c,v,rfl,?_,hst,Ze h.keys h.ext.mono.size hk,hr,hK,h.env.tab.mono hext.mono,h.sz,h.fx,h.df.step hext hk⟩))
   ·rw[hd]
    exact hn _ _ _ _ _ (h.step hext hst hk hdN hr) hK.2
   ·exact h.ext.trans hext (fun b hb hb'=>by
     rcases h.keys b hb' with h1|h1
     ·exact h1
     ·omega)
theorem yT {P:Program} {γ0:Gh} {w0:World} {H0:zb} {F:Fx} {KP:AV→zb→Prop} {ops:Array Oper} {Q:Exit→Act→World→Prop} {K:Env→zb→Prop}
  (hQ:∀ ch a w,Zy γ0 w0 H0 F KP ch a w→Q (.panic ch) a w) (hK:∀ γ w H ρ a,yi γ0 w0 H0 F γ w H ρ a→K ρ H→Q .normal a w) :
  ∀(l:List Nat) (its:List (zg×List yQ)),l.length=its.length→(∀(k i:Nat) (it:zg×List yQ),l[k]?=some i→its[k]?=some it→∃ o,ops[i]?=some o∧yt F.N F.lo ops P o it.1=true) →
  ∀(γ:Gh) (w:World) (H:zb) (ρ:Env) (a:Act),yi γ0 w0 H0 F γ w H ρ a→zO P KP its ρ H K→wpOps P ops Q l a w
 | [],[],_,_,γ,w,H,ρ,a,h,hs=>hK γ w H ρ a h hs
 | [],_::_,hl,_,_,_,_,_,_,_,_=>by simp at hl
 | _::_,[],hl,_,_,_,_,_,_,_,_=>by simp at hl
 | i::l,it::its,hl,hc,γ,w,H,ρ,a,h,hs=>by
  rw[wpOps_cons]
  obtain⟨o,ho,hco⟩:=hc 0 i it rfl rfl
  unfold zO at hs
  exact Xi hQ ho hco h hs fun γ' w' H' ρ' a' h' hs'=>yT hQ hK l its (by simpa using hl) (fun k i it hk hit=>hc (k+1) i it (by simpa using hk) (by simpa using hit)) γ' w' H' ρ' a' h' hs'
def Tp (x i:zg×List yQ):Bool :=
 x.1.apart i.1&&Ya x.1 i.1&&(x.1.op.cls != .read||(match x.1.dst with|some d=>!x.1.looks.contains d|none=>false))&&(x.1.op.cls==.eff||x.2.isEmpty) &&
 (match i.1.dst with|some d=>x.2.all fun c=>!(Zi c).contains d|none=>true)&&(i.1.op.cls==.eff||i.2.isEmpty)
def TW (x i:zg×List yQ):Prop:=∀ c∈Zd x.1 i.1,c∈i.2
theorem U7 {ρ:Env} {H:zb} {A:List yQ} (h:yg ρ H A):∀ {B:List yQ},(∀ c∈B,c∈A)→yg ρ H B:=by
 have mem:∀ {A:List yQ},yg ρ H A→∀ c∈A,(gv c.2.1 ρ=some true→rev ρ H c.2.2=some (ρ c.1)):=by
  intro A
  induction A with
  | nil=>intro _ c hc;cases hc
  | cons x A ih =>
   obtain⟨d,g,o⟩:=x
   intro h c hc
   rcases List.mem_cons.1 hc with e|e
   ·subst e;exact h.1
   ·exact ih h.2 c e
 intro B
 induction B with
 | nil=>intro _;trivial
 | cons x B ih =>
  obtain⟨d,g,o⟩:=x
  intro hB
  exact⟨mem h (d,g,o) (hB _ (Zc ..)),ih fun c hc=>hB c (ZL _ hc)⟩
theorem Tt {x y:zg} (h:x.apart y=true∨True):∀ c∈entry x,∀ n∈Zi c,x.dst=some n∨n∈x.looks:=by
 intro c hc n hn
 unfold entry at hc
 split at hc
 ·rename_i d hd
  simp only[List.mem_singleton] at hc
  subst hc
  simp only[Zi,List.mem_cons,List.mem_append] at hn
  rcases hn with (rfl|hn)|hn
  ·exact .inl hd
  ·exact .inr (Y8 _ hn)
  ·exact .inr (List.mem_append_right _ hn)
 ·cases hc
theorem front {P:Program} {KP:AV→zb→Prop} (hKP:Vp KP) (i:zg×List yQ) {K:Env→zb→Prop} {q:List (zg×List yQ)}:∀(p:List (zg×List yQ)),
  (∀ x∈p,Tp x i=true∧TW x i)→(∀(k l:Nat) (x y:zg×List yQ),k<l→p[k]?=some x→p[l]?=some y→Zd x.1 i.1≠[]→∀ d,y.1.dst=some d→x.1.dst≠some d∧d ∉ x.1.looks) →
  ∀(R:List yQ),(∀ c∈R,c∈i.2)→(∀ c∈R,∀ x∈p,∀ d,x.1.dst=some d→d ∉ Zi c)→∀(ρ:Env) (H:zb),
  zO P KP (p++i::q) ρ H K→yn P KP i.1 R ρ H (fun ρ' H'=>zO P KP (p++q) ρ' H' K)
 | [],_,_,R,hRi,_,ρ,H,h=>by
  simp only[UE] at h ⊢
  unfold zO at h
  exact YP (fun _ _ hr=>U7 hr hRi) (fun _ _ h=>h) h
 | x::p,hp,hw,R,hRi,hRp,ρ,H,h=>by
  obtain⟨hx,hnx⟩:=hp x (Zc ..)
  simp only[Tp,zH,UK] at hx
  obtain⟨⟨⟨⟨⟨hap,hsw⟩,hself⟩,hchk⟩,hchk2⟩,hie⟩:=hx
  simp only[My] at h ⊢
  unfold zO at h
  have ih:=fun(ρ:Env) (H:zb) (h':zO P KP (p++i::q) ρ H K)=>front (P:=P) hKP i (K:=K) (q:=q) p (fun y hy=>hp y (ZL _ hy)) (fun k l y z hkl hk hl=>hw (k+1) (l+1) y z (by omega) (by simpa using hk) (by simpa using hl)) (Zd x.1 i.1++R)
   (fun c hc=>by
    rcases List.mem_append.1 hc with h1|h1
    ·exact hnx c h1
    ·exact hRi c h1)
   (fun c hc y hy d hd=>by
    rcases List.mem_append.1 hc with h1|h1
    ·have hcls:Zd x.1 i.1≠[]:=List.ne_nil_of_mem h1
     have h2:c∈entry x.1:=by
      unfold Zd at h1
      split at h1
      ·exact h1
      ·cases h1
     obtain⟨l,hl⟩:=List.mem_iff_getElem?.1 hy
     obtain⟨n1,n2⟩:=hw 0 (l+1) x y (by omega) rfl (by simpa using hl) hcls d hd
     intro hn
     rcases Tt (y:=x.1) (.inr trivial) c h2 d hn with h3|h3
     ·exact n1 h3
     ·exact n2 h3
    ·exact hRp c h1 y (ZL _ hy) d hd) ρ H h'
  have h1:=YP (P:=P) (KP:=KP) (fun _ _ hr=>hr) (fun ρ' H' h'=>ih ρ' H' h') h
  have h2:=swap hKP (x:=x.1) (i:=i.1) (cx:=x.2) hap hsw (fun e=>by
    rcases hself with h|h
    ·rw[e] at h;simp[bne,BEq.beq] at h
    ·split at h
     ·rename_i d hd;exact⟨d,hd,by simpa using h⟩
     ·cases h)
   (fun e=>by
    rcases hchk with h|h
    ·exact absurd (of_decide_eq_true h) e
    ·simpa using h)
   (fun c hc d hd=>by rw[hd] at hchk2;have:=Zn.1 hchk2 c hc;simpa using this)
   (R:=R) (fun c hc d hd=>hRp c hc x (Zc ..) d hd)
   (fun e=>by
    rcases hie with h|h
    ·exact absurd (of_decide_eq_true h) e
    ·have:i.2=[]:=by simpa using h
     cases R with
     | nil=>rfl
     | cons c r=>have:=hRi c (Zc ..);simp_all) h1
  exact YP (fun _ _ hr=>hr) (fun ρ' H' h'=>by unfold zO;exact h') h2
abbrev yJ:=Nat×zg×List yQ
def SQ (ops:Array Oper) (pre:Nat→List Nat) (r:List yJ) (x:yJ):Prop :=
 (∀ i∈r,x.1∈pre i.1∨(Tp x.2 i.2=true∧TW x.2 i.2∧(Zd x.2.1 i.2.1≠[]→∀ y∈r,∀ d,y.2.1.dst=some d→x.2.1.dst≠some d∧d ∉ x.2.1.looks))) ∧
 (∀ o,ops[x.1]?=some o→∀ e∈o.after,Region.binds .any e=true→e.on<ops.size∧e.on≠x.1∧∀ y∈r,y.1≠e.on)∧(∀ y∈r,y.1≠x.1)
def Sf (ops:Array Oper) (pre:Nat→List Nat):List yJ→Prop
 | []=>True
 | x::r=>SQ ops pre r x∧Sf ops pre r
theorem Sf.drop {ops:Array Oper} {pre:Nat→List Nat} {i:yJ} {q:List yJ}:∀ {p:List yJ},Sf ops pre (p++i::q)→Sf ops pre (p++q)
 | [],h=>h.2
 | x::p,h=>by
  obtain⟨⟨h1,h2,h3⟩,h4⟩:=h
  have sub:∀ y∈p++q,y∈p++i::q:=fun y hy=>by
   rcases List.mem_append.1 hy with h|h
   ·exact Y8 _ h
   ·exact List.mem_append_right _ (ZL _ h)
  refine⟨⟨fun j hj=>?_,fun o ho e he hbe=>?_,fun y hy=>h3 y (sub y hy)⟩,Sf.drop h4⟩
  ·rcases h1 j (sub j hj) with h|⟨ha,hb,hc⟩
   ·exact .inl h
   ·exact .inr ⟨ha,hb,fun hn y hy=>hc hn y (sub y hy)⟩
  ·obtain⟨ha,hne,hb⟩:=h2 o ho e he hbe
   exact⟨ha,hne,fun y hy=>hb y (sub y hy)⟩
theorem Sf.before {ops:Array Oper} {pre:Nat→List Nat} {i:yJ} {q:List yJ}:∀ {p:List yJ},Sf ops pre (p++i::q)→(∀ x∈p,x.1 ∉ pre i.1) →
  (∀ x∈p.map (·.2),Tp x i.2=true∧TW x i.2) ∧
  (∀(k l:Nat) (x y:zg×List yQ),k<l→(p.map (·.2))[k]?=some x→(p.map (·.2))[l]?=some y→Zd x.1 i.2.1≠[]→∀ d,y.1.dst=some d→x.1.dst≠some d∧d ∉ x.1.looks)
 | [],_,_=>⟨by simp,by simp⟩
 | x::p,h,hn=>by
  obtain⟨⟨h1,_,_⟩,h4⟩:=h
  obtain⟨ih1,ih2⟩:=Sf.before h4 (fun y hy=>hn y (ZL _ hy))
  have hx:=(h1 i (by simp)).resolve_left (hn x (Zc ..))
  refine⟨fun y hy=>?_,fun k l y z hkl hk hl hne d hd=>?_⟩
  ·simp only[List.map_cons,List.mem_cons] at hy
   rcases hy with rfl|hy
   ·exact⟨hx.1,hx.2.1⟩
   ·exact ih1 y hy
  ·cases l with
   | zero=>omega
   | succ l =>
    simp only[List.map_cons,List.getElem?_cons_succ] at hl
    cases k with
    | zero =>
     simp only[List.map_cons,List.getElem?_cons_zero,zx] at hk
     subst hk
     rw[yr] at hl
     cases hz:p[l]? with
     | none=>simp[hz] at hl
     | some z' =>
      simp only[hz,yv,zx] at hl
      subst hl
      exact hx.2.2 hne z' (Y8 _ (List.mem_of_getElem? hz)) d hd
    | succ k =>
     simp only[List.map_cons,List.getElem?_cons_succ] at hk
     exact ih2 k l y z (by omega) hk hl hne d hd
theorem Sf.fresh {ops:Array Oper} {pre:Nat→List Nat} {i:yJ} {q:List yJ}:∀ {p:List yJ},Sf ops pre (p++i::q)→∀ y∈p++q,y.1≠i.1
 | [],h,y,hy=>h.1.2.2 y hy
 | x::p,h,y,hy=>by
  simp only[My,List.mem_cons] at hy
  rcases hy with rfl|hy
  ·exact fun e=>h.1.2.2 i (by simp) e.symm
  ·exact Sf.fresh h.2 y hy
theorem SS {P:Program} {γ0:Gh} {w0:World} {H0:zb} {F:Fx} {KP:AV→zb→Prop} (hKP:Vp KP) {ops:Array Oper} {pre:Nat→List Nat} {Q:Exit→Act→World→Prop} {K:Env→zb→Prop}
  (hQ:∀ ch a w,Zy γ0 w0 H0 F KP ch a w→Q (.panic ch) a w) (hK:∀ γ w H ρ a,yi γ0 w0 H0 F γ w H ρ a→K ρ H→Q .normal a w)
  (hpre:∀(i:Nat) (o:Oper),ops[i]?=some o→∀ k∈pre i,∃ e∈o.after,Region.binds .any e=true∧(e.on=k∨k∈pre e.on)) :
  ∀(fuel:Nat) (r:List yJ) (listed:Array Bool) (γ:Gh) (w:World) (H:zb) (ρ:Env) (a:Act),listed.size=ops.size→r.length≤fuel→Sf ops pre r→(∀ x∈r,∃ o,ops[x.1]?=some o∧yt F.N F.lo ops P o x.2.1=true) →
   (∀ i,i<ops.size→(listed.getD i true=false↔∃ x∈r,x.1=i))→(∀ j,listed.getD j false=true→∀ k∈pre j,listed.getD k false=true) →
   yi γ0 w0 H0 F γ w H ρ a→zO P KP (r.map (·.2)) ρ H K→wpAny P .any ops Q fuel listed a w:=by
 have firstReady:∀(x:yJ) (r:List yJ) (listed:Array Bool),listed.size=ops.size→Sf ops pre (x::r)→(∃ o,ops[x.1]?=some o∧yt F.N F.lo ops P o x.2.1=true) →
   (∀ i,i<ops.size→(listed.getD i true=false↔∃ y∈x::r,y.1=i))→x.1∈Region.ready .any ops listed:=by
  intro x r listed hsz hpok ⟨o,ho,_⟩ hl
  rw[mem_ready]
  have hx:x.1<ops.size:=(Zj.1 ho).1
  refine⟨(hl x.1 hx).2 ⟨x,Zc ..,rfl⟩,o,ho,fun e he hbe=>?_⟩
  obtain⟨h1,hne,h2⟩:=hpok.1.2.1 o ho e he hbe
  have h3:¬ (listed.getD e.on true=false):=by
   rw[hl e.on h1]
   rintro⟨y,hy,hye⟩
   rcases List.mem_cons.1 hy with rfl|hy
   ·exact hne hye.symm
   ·exact h2 y hy hye
  have h4:e.on<listed.size:=by omega
  simp only[UJ,Array.getElem?_eq_getElem h4,Option.getD_some] at h3 ⊢
  cases hh:listed[e.on]<;>simp_all
 have clash:∀(listed:Array Bool) (j:Nat),listed.getD j true=false→listed.getD j false=true→False:=by
  intro listed j h1 h2
  simp only[UJ] at h1 h2
  cases hj:listed[j]?<;>simp_all
 intro fuel
 induction fuel with
 | zero =>
  intro r listed γ w H ρ a hsz hlen hpok hc hl hdc hinv hs
  have hr:r=[]:=List.eq_nil_of_length_eq_zero (by omega)
  subst hr
  refine⟨?_,hK γ w H ρ a hinv hs⟩
  cases hrd:Region.ready .any ops listed with
  | nil=>rfl
  | cons j js =>
   have hj:j∈Region.ready .any ops listed:=by rw[hrd];exact Zc ..
   obtain⟨h1,o,ho,_⟩:=mem_ready.1 hj
   obtain⟨x,hx,_⟩:=(hl j (Zj.1 ho).1).1 h1
   cases hx
 | succ fuel ih =>
  intro r listed γ w H ρ a hsz hlen hpok hc hl hdc hinv hs
  refine⟨fun hrd=>?_,fun i hi=>?_⟩
  ·cases r with
   | nil=>exact hK γ w H ρ a hinv hs
   | cons x r =>
    have:=firstReady x r listed hsz hpok (hc x (Zc ..)) hl
    rw[hrd] at this
    cases this
  ·obtain⟨h1,o,ho,hall⟩:=mem_ready.1 hi
   have hilt:=(Zj.1 ho).1
   obtain⟨x,hx,rfl⟩:=(hl i hilt).1 h1
   obtain⟨p,q,rfl⟩:=List.append_of_mem hx
   have hpre':∀ k∈pre x.1,listed.getD k false=true:=fun k hk=>by
    obtain⟨e,he,hb,h2⟩:=hpre x.1 o ho k hk
    have h3:=hall e he hb
    rcases h2 with rfl|h2
    ·exact h3
    ·exact hdc e.on h3 k h2
   have hnp:∀ y∈p,y.1 ∉ pre x.1:=fun y hy hk=>by
    obtain⟨oy,hoy,_⟩:=hc y (Y8 _ hy)
    exact clash listed y.1 ((hl y.1 (Zj.1 hoy).1).2 ⟨y,Y8 _ hy,rfl⟩) (hpre' y.1 hk)
   obtain⟨hb1,hb2⟩:=hpok.before hnp
   obtain⟨o',ho',hco⟩:=hc x hx
   rw[ho] at ho'
   cases ho'
   rw[List.map_append,List.map_cons] at hs
   have hfront:=front hKP x.2 (p.map (·.2)) hb1 hb2 [] (by simp) (by simp) ρ H hs
   refine Xi hQ ho hco hinv hfront fun γ' w' H' ρ' a' hinv' hs'=>?_
   refine ih (p++q) _ γ' w' H' ρ' a' (by simpa using hsz) (by simp at hlen ⊢;omega) hpok.drop (fun y hy=>hc y ?_) (fun j hj=>?_) (fun j hj k hk=>?_) hinv' (by rw[List.map_append];exact hs')
   ·rcases List.mem_append.1 hy with h|h
    ·exact Y8 _ h
    ·exact List.mem_append_right _ (ZL _ h)
   ·by_cases hji:x.1=j
    ·subst hji
     constructor
     ·intro h2
      have h3:x.1<listed.size:=by omega
      simp[h3] at h2
     ·rintro⟨y,hy,hye⟩
      exact absurd hye (hpok.fresh y hy)
    ·rw[getD_set_ne true hji,hl j hj]
     constructor
     ·rintro⟨y,hy,rfl⟩
      refine⟨y,?_,rfl⟩
      rcases List.mem_append.1 hy with h|h
      ·exact Y8 _ h
      ·rcases List.mem_cons.1 h with rfl|h
       ·exact absurd rfl hji
       ·exact List.mem_append_right _ h
     ·rintro⟨y,hy,rfl⟩
      refine⟨y,?_,rfl⟩
      rcases List.mem_append.1 hy with h|h
      ·exact Y8 _ h
      ·exact List.mem_append_right _ (ZL _ h)
   ·by_cases hji:x.1=j
    ·subst hji
     exact getD_set_true (hpre' k hk)
    ·rw[getD_set_ne false hji] at hj
     exact getD_set_true (hdc j hj k hk)
def Yu (items:List zg) (l:List Nat):List yQ:=l.flatMap fun k=>match items[k]? with|some x=>entry x|none=>[]
def ya (items:List zg):List (zg×List yQ):=items.map fun it=>(it,Yu items it.chk)
abbrev Row:=Nat×Nat×zg
def yx:Nat→List Nat→List zg→List Row
 | k,i::c,it::its=>(k,i,it)::yx (k+1) c its
 | _,_,_=>[]
def YI (items:List zg) (r:Row):yJ:=(r.2.1,r.2.2,Yu items r.2.2.chk)
def Pr (ops:Array Oper) (pre:List (List Nat)) (items:List zg) (r:List Row) (x:Row):Bool :=
 (r.all fun i=>(pre.getD i.2.1 []).contains x.2.1 ||
  (Tp (YI items x).2 (YI items i).2&&((Zd x.2.2 i.2.2).isEmpty||(i.2.2.chk.contains x.1&&r.all fun y=>match y.2.2.dst with|some d=>x.2.2.dst != some d&&!x.2.2.looks.contains d|none=>true)))) &&
 (match ops[x.2.1]? with|some o=>o.after.all fun e=>!Region.binds .any e||(decide (e.on<ops.size)&&e.on != x.2.1&&r.all fun y=>y.2.1 != e.on)|none=>false) &&
 (r.all fun y=>y.2.1 != x.2.1)
def Qr (ops:Array Oper) (pre:List (List Nat)) (items:List zg):List Row→Bool
 | []=>true
 | x::r=>Pr ops pre items r x&&Qr ops pre items r
def Rt (ops:Array Oper):List (List Nat) :=
 ops.toList.foldl (fun acc o=>acc++[((o.after.toList.filter (Region.binds .any)).flatMap fun e=>e.on::acc.getD e.on []).eraseDups]) []
def preB (ops:Array Oper) (pre:List (List Nat)):Bool :=
 (List.range ops.size).all fun i=>(pre.getD i []).all fun k=>match ops[i]? with
  | some o=>o.after.any fun e=>Region.binds .any e&&(e.on==k||(pre.getD e.on []).contains k)
  | none=>true
def Yd (P:Program) (N lo:Nat) (ops:Array Oper) (c:List Nat) (items:List zg):Bool :=
 let rows:=yx 0 c items
 P.follows .mixedOrders&&decide (c.length=items.length)&&decide (c.length=ops.size)&&((List.range ops.size).all fun i=>c.contains i) &&
 (rows.all fun r=>match ops[r.2.1]? with|some o=>yt N lo ops P o r.2.2|none=>false)&&preB ops (Rt ops)&&Qr ops (Rt ops) items rows
def XY (P:Program) (N lo:Nat) (ops:Array Oper) (items:List zg):Bool :=
 decide (ops.size=items.length)&&((ops.toList.zip items).all fun x=>yt N lo ops P x.1 x.2)
theorem Wd {items:List zg}:∀(c:List Nat) (its:List zg) (k:Nat),c.length=its.length→(∀ j x,its[j]?=some x→items[k+j]?=some x) →
  (yx k c its).map (fun r=>(YI items r).2)=its.map (fun it=>(it,Yu items it.chk))∧(yx k c its).map (·.2.1)=c∧∀ r∈yx k c its,items[r.1]?=some r.2.2
 | [],[],_,_,_=>by simp[yx]
 | [],_::_,_,h,_=>by simp at h
 | _::_,[],_,h,_=>by simp at h
 | i::c,it::its,k,h,hi=>by
  obtain⟨h1,h2,h3⟩:=Wd c its (k+1) (by simpa using h) (fun j x hj=>by have:=hi (j+1) x (by simpa using hj);rwa [show k+(j+1)=k+1+j by omega] at this)
  refine⟨by rw[yx,List.map_cons,List.map_cons,h1];rfl,by simp[yx,h2],fun r hr=>?_⟩
  simp only[yx,List.mem_cons] at hr
  rcases hr with rfl|hr
  ·have:=hi 0 it rfl;simpa using this
  ·exact h3 r hr
theorem Tb {ops:Array Oper} {pre:List (List Nat)} {items:List zg}:∀(r:List Row),(∀ x∈r,items[x.1]?=some x.2.2)→Qr ops pre items r=true→(∀ x∈r,∃ o,ops[x.2.1]?=some o)→Sf ops (fun i=>pre.getD i []) (r.map (YI items))
 | [],_,_,_=>trivial
 | x::r,hi,h,ho=>by
  simp only[Qr,zH,Pr] at h
  obtain⟨⟨⟨h1,h2⟩,h3⟩,h4⟩:=h
  refine⟨⟨fun i hir=>?_,fun o hox e he hbe=>?_,fun y hy=>?_⟩,Tb r (fun y hy=>hi y (ZL _ hy)) h4 (fun y hy=>ho y (ZL _ hy))⟩
  ·obtain⟨i,hir',rfl⟩:=List.mem_map.1 hir
   have:=Zn.1 h1 i hir'
   simp only[UK,zH] at this
   rcases this with h5|⟨h5,h6⟩
   ·left;show x.2.1∈pre.getD i.2.1 [];simpa using h5
   ·right
    refine⟨h5,fun c hc=>?_,fun hn y hy d hd=>?_⟩
    ·have hne:(Zd x.2.2 i.2.2).isEmpty=false:=by
      have:c∈Zd x.2.2 i.2.2:=hc
      cases hh:Zd x.2.2 i.2.2<;>simp_all
     rw[hne] at h6
     simp only[V6,false_or] at h6
     have hmem:x.1∈i.2.2.chk:=by simpa using h6.1
     have hce:c∈entry x.2.2:=by
      have:c∈Zd x.2.2 i.2.2:=hc
      unfold Zd at this
      split at this
      ·exact this
      ·cases this
     show c∈Yu items i.2.2.chk
     unfold Yu
     rw[List.mem_flatMap]
     exact⟨x.1,hmem,by rw[hi x (Zc ..)];exact hce⟩
    ·obtain⟨y,hyr,rfl⟩:=List.mem_map.1 hy
     have hne:(Zd x.2.2 i.2.2).isEmpty=false:=by
      have:Zd x.2.2 i.2.2≠[]:=hn
      cases hh:Zd x.2.2 i.2.2<;>simp_all
     rw[hne] at h6
     simp only[V6,false_or] at h6
     have:=Zn.1 h6.2 y hyr
     have hd':y.2.2.dst=some d:=hd
     rw[hd'] at this
     simp only[zH,bne_iff_ne,ne_eq,Bool.not_eq_true'] at this
     exact⟨this.1,by show ¬ d∈x.2.2.looks;simpa using this.2⟩
  ·have hox':ops[x.2.1]?=some o:=hox
   rw[hox'] at h2
   simp only at h2
   have:=Array.all_eq_true_iff_forall_mem.1 h2 e he
   simp only[hbe,Bool.not_true,Bool.false_or,zH,zU,bne_iff_ne,ne_eq] at this
   refine⟨this.1.1,this.1.2,fun y hy=>?_⟩
   obtain⟨y,hyr,rfl⟩:=List.mem_map.1 hy
   have:=Zn.1 this.2 y hyr
   show y.2.1≠e.on
   simpa using this
  ·obtain⟨y,hyr,rfl⟩:=List.mem_map.1 hy
   have:=Zn.1 h3 y hyr
   simpa[YI] using this
theorem R1 {P:Program} {γ0:Gh} {w0:World} {H0:zb} {F:Fx} {KP:AV→zb→Prop} (hKP:Vp KP) {ops:Array Oper} {Q:Exit→Act→World→Prop} {K:Env→zb→Prop} {c:List Nat} {items:List zg}
  (hQ:∀ ch a w,Zy γ0 w0 H0 F KP ch a w→Q (.panic ch) a w) (hK:∀ γ w H ρ a,yi γ0 w0 H0 F γ w H ρ a→K ρ H→Q .normal a w)
  (h:Yd P F.N F.lo ops c items=true) {γ:Gh} {w:World} {H:zb} {ρ:Env} {a:Act} (hinv:yi γ0 w0 H0 F γ w H ρ a) (hs:zO P KP (ya items) ρ H K):wpAny P .any ops Q ops.size (Array.replicate ops.size false) a { w with drawn:=w.drawn+1 }∧P.follows .mixedOrders=true:=by
 simp only[Yd,zH,zU] at h
 obtain⟨⟨⟨⟨⟨⟨hm,hl⟩,hlo⟩,hall⟩,hit⟩,hpre⟩,hpok⟩:=h
 obtain⟨hr1,hr2,hr3⟩:=Wd (items:=items) c items 0 hl (fun j x hj=>by simpa using hj)
 refine⟨?_,hm⟩
 have hinv':yi γ0 w0 H0 F γ w.drew H ρ a :=
  ⟨hinv.ext.trans (yC (fun _=>False) γ w) (fun _ _ f=>f.elim),hinv.st.kept (yC (fun _=>False) γ w) (fun _ _ _ f=>f),hinv.keys,hinv.env.mono (yC (fun _=>False) γ w).mono,hinv.sz,hinv.fx,hinv.df.step (yC (keysOf H) γ w) (zG.refl _ _)⟩
 have hsome:∀ x∈yx 0 c items,∃ o,ops[x.2.1]?=some o∧yt F.N F.lo ops P o x.2.2=true:=fun x hx=>by
  have:=Zn.1 hit x hx
  split at this
  ·rename_i o ho;exact⟨o,ho,this⟩
  ·cases this
 refine SS hKP (pre:=fun i=>(Rt ops).getD i []) hQ hK (fun i o ho k hk=>?_) ops.size ((yx 0 c items).map (YI items)) _ γ w.drew H ρ a (by simp) ?_ (Tb _ hr3 hpok fun x hx=>let ⟨o,ho,_⟩:=hsome x hx;⟨o,ho⟩) (fun x hx=>?_) (fun i hi=>?_) (fun j hj=>?_) hinv' ?_
 ·have h1:=Zn.1 hpre i (List.mem_range.2 (Zj.1 ho).1)
  have h2:=Zn.1 h1 k hk
  rw[ho] at h2
  simp only at h2
  obtain⟨e,he,hb⟩:=Array.any_eq_true'.1 h2
  simp only[zH,UK,beq_iff_eq] at hb
  exact⟨e,he,hb.1,hb.2.imp (fun h=>h) (fun h=>by simpa using h)⟩
 ·have:=congrArg List.length hr2
  rw[List.length_map] at this
  rw[List.length_map,this,hlo]
  exact yX _
 ·obtain⟨x,hxr,rfl⟩:=List.mem_map.1 hx
  exact hsome x hxr
 ·constructor
  ·intro _
   have:=Zn.1 hall i (List.mem_range.2 hi)
   have hic:i∈c:=by simpa using this
   rw[← hr2] at hic
   obtain⟨r,hr,rfl⟩:=List.mem_map.1 hic
   exact⟨YI items r,List.mem_map.2 ⟨r,hr,rfl⟩,rfl⟩
  ·intro _;simp[hi]
 ·intro k hk
  by_cases hlt:j<ops.size<;>simp[hlt] at hj
 ·have e:((yx 0 c items).map (YI items)).map (·.2)=ya items:=by
   rw[List.map_map];exact hr1
  rw[e];exact hs
theorem U0 {P:Program} {γ0:Gh} {w0:World} {H0:zb} {F:Fx} {KP:AV→zb→Prop} (hKP:Vp KP) {ops:Array Oper} {Q:Exit→Act→World→Prop} {K:Env→zb→Prop} {c:List Nat} {items:List zg}
  (hQ:∀ ch a w,Zy γ0 w0 H0 F KP ch a w→Q (.panic ch) a w) (hK:∀ γ w H ρ a,yi γ0 w0 H0 F γ w H ρ a→K ρ H→Q .normal a w)
  (h:Yd P F.N F.lo ops c items=true) {γ:Gh} {w:World} {H:zb} {ρ:Env} {a:Act} (hinv:yi γ0 w0 H0 F γ w H ρ a) (hs:zO P KP (ya items) ρ H K) (t:Nat) :
  wpOps P ops Q (Region.schedule (P.follows .mixedOrders) ops t) a { w with drawn:=w.drawn+1 }:=by
 obtain⟨h1,hm⟩:=R1 hKP hQ hK h hinv hs
 simp only[Region.schedule,hm,Bool.true_or,if_true]
 exact wpAny_sound ops.size t _ a _ h1
theorem TE {P:Program} {γ0:Gh} {w0:World} {H0:zb} {F:Fx} {KP:AV→zb→Prop} (hKP:Vp KP) {id:Nat} {ops:Array Oper} {Q:Exit→Act→World→Prop} {K:Env→zb→Prop} {c:List Nat} {items:List zg}
  (hQ:∀ ch a w,Zy γ0 w0 H0 F KP ch a w→Q (.panic ch) a w) (hK:∀ γ w H ρ a,yi γ0 w0 H0 F γ w H ρ a→K ρ H→Q .normal a w)
  (h:Yd P F.N F.lo ops c items=true) {γ:Gh} {w:World} {H:zb} {ρ:Env} {a:Act} (hinv:yi γ0 w0 H0 F γ w H ρ a) (hs:zO P KP (ya items) ρ H K):(Code.region id ops true).wp P Q a w :=
 wp_region_draw (U0 hKP hQ hK h hinv hs)
theorem T6 {P:Program} {γ0:Gh} {w0:World} {H0:zb} {F:Fx} {KP:AV→zb→Prop} {ops:Array Oper} {Q:Exit→Act→World→Prop} {K:Env→zb→Prop} {items:List zg}
  (hQ:∀ ch a w,Zy γ0 w0 H0 F KP ch a w→Q (.panic ch) a w) (hK:∀ γ w H ρ a,yi γ0 w0 H0 F γ w H ρ a→K ρ H→Q .normal a w)
  (h:XY P F.N F.lo ops items=true) {γ:Gh} {w:World} {H:zb} {ρ:Env} {a:Act} (hinv:yi γ0 w0 H0 F γ w H ρ a) (hs:zO P KP (ya items) ρ H K):wpOps P ops Q (List.range ops.size) a w:=by
 simp only[XY,zH,zU] at h
 obtain⟨hl,hall⟩:=h
 refine yT hQ hK (List.range ops.size) (ya items) (by simp[ya,hl]) (fun k i it hk hit=>?_) γ w H ρ a hinv hs
 obtain⟨h1,h2⟩:=yK.1 hk
 simp at h1 h2
 subst h2
 simp only[ya,yr,Zh] at hit
 obtain⟨x,hx,rfl⟩:=hit
 refine⟨ops[k],by simp[h1],?_⟩
 have hz:(ops.toList.zip items)[k]?=some (ops[k],x):=by
  rw[List.getElem?_zip_eq_some]
  exact⟨by simp[h1],hx⟩
 exact Zn.1 hall _ (List.mem_of_getElem? hz)
theorem SY {P:Program} {γ0:Gh} {w0:World} {H0:zb} {F:Fx} {KP:AV→zb→Prop} {id:Nat} {ops:Array Oper} {Q:Exit→Act→World→Prop} {K:Env→zb→Prop} {items:List zg}
  (hQ:∀ ch a w,Zy γ0 w0 H0 F KP ch a w→Q (.panic ch) a w) (hK:∀ γ w H ρ a,yi γ0 w0 H0 F γ w H ρ a→K ρ H→Q .normal a w)
  (h:XY P F.N F.lo ops items=true) {γ:Gh} {w:World} {H:zb} {ρ:Env} {a:Act} (hinv:yi γ0 w0 H0 F γ w H ρ a) (hs:zO P KP (ya items) ρ H K):(Code.region id ops false).wp P Q a w :=
 wp_region (T6 hQ hK h hinv hs)
inductive AC where
 | skip
 | reg (c:List Nat) (items:List zg)
 | seq (a b:AC)
 | join (keep:List Nat) (a b:AC)
 | cond (c:zu) (t e:AC)
 | block (id:Nat) (b:AC)
 | loop (keep:List Nat) (b:AC)
 | scope (b:AC)
 | exit (id:Nat)
 | ret
 | rfun (g:zu) (ps:List Nat) (asg body:AC)
 | both (a b:AC)
inductive zP where
 | normal
 | exit (id:Nat)
 | ret
def zd:List (Nat×AV)→Env
 | [],_=>.any
 | (d,c)::r,n=>if n=d then c else zd r n
theorem TZ (l:List (Nat×AV)) (d n:Nat) (c:AV):zd ((d,c)::l) n=if n=d then c else zd l n:=rfl
def Env.keep (ρ:Env) (l:List Nat):Env:=zd (l.map fun n=>(n,ρ n))
def Vq (K:Env→zb→Prop) (Q:zP→Env→zb→Prop):zP→Env→zb→Prop
 | .normal=>K
 | e=>Q e
def ZH (id:Nat) (Q:zP→Env→zb→Prop):zP→Env→zb→Prop
 | .exit i=>if i=id then Q .normal else Q (.exit i)
 | e=>Q e
def Th (c:AV) (X Y:Prop):Prop :=
 match c with
 | .bool true=>X
 | .bool false=>Y
 | .ubool p=>(p→X)∧Y
 | _=>False
def AC.flat:AC→Bool
 | .seq a b|.cond _ a b=>a.flat&&b.flat
 | .block _ b=>b.flat
 | .join _ _ _|.loop _ _|.scope _|.rfun _ _ _ _|.both _ _=>false
 | _=>true
def AC.plain:AC→Bool
 | .seq a b|.cond _ a b|.join _ a b=>a.plain&&b.plain
 | .block _ b|.loop _ b|.scope b=>b.plain
 | .rfun _ _ _ _=>false
 | _=>true
def Pz (K:Env→zb→Prop):zP→Env→zb→Prop
 | .normal=>K
 | _=>fun _ _=>False
def T9:List Nat→List AV→Env→Env
 | p::ps,c::cs,ρ=>T9 ps cs (ρ.set (some p) c)
 | _,_,ρ=>ρ
def N2 (P:Program) (f:FuncId) (caps:List AV) (X:List (List AV)):Prop :=
 ∀(l:Nat) (J:Nat→Gh→World→Prop),(∀ k γ w γ' w',J k γ w→yV (fun _=>False) γ w γ' w'→J k γ' w') →
  (∀ k x γ w vs,X[k]?=some x→J k γ w→zv γ w x vs→YieldAt Fence.wide 0 P l vs.toArray w fun e w'=>∃ γ',Z9 γ w γ' w'∧e=.returned (.bool true)∧J (k+1) γ' w') →
  ∀ γ w vs,y1 γ w→zv γ w caps vs→J 0 γ w →
   CallsIn Fence.wide 0 P f (#[.func (.yield l) #[] #[]]++vs.toArray) w fun e w'=>∃ γ' v,e=.returned v∧J X.length γ' w'
def Yr (P:Program) (KP:AV→zb→Prop):AC→(zP→Env→zb→Prop)→Env→zb→Prop
 | .skip,Q,ρ,H=>Q .normal ρ H
 | .reg _ items,Q,ρ,H=>zO P KP (ya items) ρ H (Q .normal)
 | .seq a b,Q,ρ,H=>Yr P KP a (Vq (Yr P KP b Q) Q) ρ H
 | .join keep a b,Q,ρ,H=>∃ J:Env→zb→Prop,Yr P KP a (Vq (fun ρ' H'=>J (ρ'.keep keep) H') Q) ρ H∧∀ ρ H,J ρ H→Yr P KP b Q ρ H
 | .cond c t e,Q,ρ,H=>Th (c.ev ρ) (Yr P KP t Q ρ H) (Yr P KP e Q ρ H)
 | .block id b,Q,ρ,H=>Yr P KP b (ZH id Q) ρ H
 | .loop keep b,Q,ρ,H=>∃ I:Nat→Env→zb→Prop,(∃ n,I n (ρ.keep keep) H)∧∀ n ρ H,I n ρ H→Yr P KP b (Vq (fun ρ' H'=>∃ m,m<n∧I m (ρ'.keep keep) H') Q) ρ H
 | .scope b,Q,ρ,H=>Yr P KP b Q ρ H
 | .exit id,Q,ρ,H=>Q (.exit id) ρ H
 | .ret,Q,ρ,H=>Q .ret ρ H
 | .both a b,Q,ρ,H=>Yr P KP a Q ρ H∧Yr P KP b Q ρ H
 | .rfun g ps asg body,Q,ρ,H=>∃ f caps X,g.ev ρ=.clo f [] caps∧Program.callable P f=true∧N2 P f caps X∧(∀ x∈X,x.length=ps.length)∧∃ I:Nat→zb→Prop,I 0 H ∧
  (∀ k x H,X[k]?=some x→I k H→Yr P (fun _ _=>False) asg (Pz fun ρ' H'=>Yr P (fun _ _=>False) body (Pz fun _ H''=>I (k+1) H'') ρ' H') (T9 ps x ρ) H)∧∀ H,I X.length H→Q .normal ρ H
def SG (ops:Array Oper):List Nat→Array Bool→Bool
 | [],listed=>(Region.ready .any ops listed).isEmpty
 | i::c,listed=>!(Region.ready .any ops listed).isEmpty&&(Region.ready .any ops listed).all (·==i)&&SG ops c (listed.setIfInBounds i true)
def Rz (ops:Array Oper):List Nat→List Nat→Array Bool→Bool
 | i::c,j::d,listed=>decide (c.length=d.length)&&!(Region.ready .any ops listed).isEmpty&&(Region.ready .any ops listed).all (fun k=>k==i||k==j)&&SG ops c (listed.setIfInBounds i true)&&SG ops d (listed.setIfInBounds j true)
 | _,_,_=>false
def Q7 (ops:Array Oper):List Nat→List Nat→List Nat→Array Bool→Bool
 | [],c,d,listed=>Rz ops c d listed
 | i::p,c,d,listed=>!(Region.ready .any ops listed).isEmpty&&(Region.ready .any ops listed).all (·==i)&&Q7 ops p c d (listed.setIfInBounds i true)
def Xe (P:Program) (N lo:Nat) (ops:Array Oper) (c:List Nat) (items:List zg):Bool :=
 decide (c.length=items.length)&&(c.zip items).all fun x=>match ops[x.1]? with|some o=>yt N lo ops P o x.2|none=>false
def YT (P:Program) (N lo:Nat) (ops:Array Oper):AC→AC→Bool
 | .reg p x,.both (.reg c y) (.reg d z)=>P.follows .mixedOrders&&decide (p.length+c.length=ops.size)&&Xe P N lo ops p x&&Xe P N lo ops c y&&Xe P N lo ops d z&&Q7 ops p c d (Array.replicate ops.size false)
 | _,_=>false
theorem XU {P:Program} {ops:Array Oper} {Q:Exit→Act→World→Prop}:∀(c:List Nat) (listed:Array Bool) (a:Act) (w:World),SG ops c listed=true→wpOps P ops Q c a w→wpAny P .any ops Q c.length listed a w
 | [],listed,a,w,h,hs=>⟨by simpa[SG] using h,hs⟩
 | i::c,listed,a,w,h,hs=>by
  simp only[SG,zH,Zn,beq_iff_eq] at h
  rw[wpOps_cons] at hs
  refine⟨fun e=>by simp[e] at h,fun j hj=>?_⟩
  obtain rfl:=h.1.2 j hj
  exact wpOp_mono (fun a w=>XU c _ a w h.2) hs
theorem SB {P:Program} {ops:Array Oper} {Q:Exit→Act→World→Prop} {a:Act} {w:World}:∀(c d:List Nat) (listed:Array Bool),Rz ops c d listed=true→wpOps P ops Q c a w→wpOps P ops Q d a w→wpAny P .any ops Q c.length listed a w
 | [],_,_,h,_,_=>by simp[Rz] at h
 | _::_,[],_,h,_,_=>by simp[Rz] at h
 | i::c,j::d,listed,h,h1,h2=>by
  simp only[Rz,zH,Zn,UK,beq_iff_eq,zU] at h
  rw[wpOps_cons] at h1 h2
  refine⟨fun e=>by simp[e] at h,fun k hk=>?_⟩
  rcases h.1.1.2 k hk with rfl|rfl
  ·exact wpOp_mono (fun a w=>XU c _ a w h.1.2) h1
  ·exact wpOp_mono (fun a w hh=>by have:=XU d _ a w h.2 hh;rwa [← h.1.1.1.1] at this) h2
theorem Vl {P:Program} {N lo:Nat} {ops:Array Oper} {c:List Nat} {items:List zg} (h:Xe P N lo ops c items=true):c.length=(ya items).length∧∀(k i:Nat) (it:zg×List yQ),c[k]?=some i→(ya items)[k]?=some it→∃ o,ops[i]?=some o∧yt N lo ops P o it.1=true:=by
 simp only[Xe,zH,zU] at h
 refine⟨by simp[ya,h.1],fun k i it hk hit=>?_⟩
 simp only[ya,yr,Zh] at hit
 obtain⟨x,hx,rfl⟩:=hit
 have hz:(c.zip items)[k]?=some (i,x):=by
  rw[List.getElem?_zip_eq_some]
  exact⟨hk,hx⟩
 have:=Zn.1 h.2 _ (List.mem_of_getElem? hz)
 simp only at this
 split at this
 ·rename_i o ho;exact⟨o,ho,this⟩
 ·cases this
theorem T0 {P:Program} {γ0:Gh} {w0:World} {H0:zb} {F:Fx} {KP:AV→zb→Prop} {ops:Array Oper} {Q:Exit→Act→World→Prop} {K:Env→zb→Prop} {c d:List Nat} {y z:List zg}
  (hQ:∀ ch a w,Zy γ0 w0 H0 F KP ch a w→Q (.panic ch) a w) (hK:∀ γ w H ρ a,yi γ0 w0 H0 F γ w H ρ a→K ρ H→Q .normal a w)
  (hy:Xe P F.N F.lo ops c y=true) (hz:Xe P F.N F.lo ops d z=true) :
  ∀(p:List Nat) (x:List (zg×List yQ)) (listed:Array Bool),Q7 ops p c d listed=true→p.length=x.length→(∀(k i:Nat) (it:zg×List yQ),p[k]?=some i→x[k]?=some it→∃ o,ops[i]?=some o∧yt F.N F.lo ops P o it.1=true) →
  ∀(γ:Gh) (w:World) (H:zb) (ρ:Env) (a:Act),yi γ0 w0 H0 F γ w H ρ a→zO P KP x ρ H (fun ρ H=>zO P KP (ya y) ρ H K∧zO P KP (ya z) ρ H K)→wpAny P .any ops Q (p.length+c.length) listed a w
 | [],[],listed,hb,_,_,γ,w,H,ρ,a,h,hs=>by
  obtain⟨h1,h2⟩:=Vl hy
  obtain⟨h3,h4⟩:=Vl hz
  have:=SB c d listed hb (yT hQ hK c (ya y) h1 h2 γ w H ρ a h hs.1) (yT hQ hK d (ya z) h3 h4 γ w H ρ a h hs.2)
  simpa using this
 | [],_::_,_,_,hl,_,_,_,_,_,_,_,_=>by simp at hl
 | _::_,[],_,_,hl,_,_,_,_,_,_,_,_=>by simp at hl
 | i::p,it::x,listed,hb,hl,hc,γ,w,H,ρ,a,h,hs=>by
  simp only[Q7,zH,Zn,beq_iff_eq] at hb
  obtain⟨o,ho,hco⟩:=hc 0 i it rfl rfl
  unfold zO at hs
  have e:(i::p).length+c.length=(p.length+c.length)+1:=by simp only[NW];omega
  rw[e]
  refine⟨fun e=>by simp[e] at hb,fun j hj=>?_⟩
  obtain rfl:=hb.1.2 j hj
  exact Xi hQ ho hco h hs fun γ' w' H' ρ' a' h' hs'=>T0 hQ hK hy hz p x _ hb.2 (by simpa using hl) (fun k i it hk hit=>hc (k+1) i it (by simpa using hk) (by simpa using hit)) γ' w' H' ρ' a' h' hs'
theorem S6 {P:Program} {γ0:Gh} {w0:World} {H0:zb} {F:Fx} {KP:AV→zb→Prop} {id:Nat} {ops:Array Oper} {Q:Exit→Act→World→Prop} {K:Env→zb→Prop} {p c d:List Nat} {x y z:List zg}
  (hQ:∀ ch a w,Zy γ0 w0 H0 F KP ch a w→Q (.panic ch) a w) (hK:∀ γ w H ρ a,yi γ0 w0 H0 F γ w H ρ a→K ρ H→Q .normal a w)
  (h:YT P F.N F.lo ops (.reg p x) (.both (.reg c y) (.reg d z))=true) {γ:Gh} {w:World} {H:zb} {ρ:Env} {a:Act} (hinv:yi γ0 w0 H0 F γ w H ρ a) (hs:zO P KP (ya x) ρ H (fun ρ H=>zO P KP (ya y) ρ H K∧zO P KP (ya z) ρ H K)):(Code.region id ops true).wp P Q a w:=by
 simp only[YT,zH,zU] at h
 obtain⟨⟨⟨⟨⟨hm,hl⟩,hx⟩,hy⟩,hz⟩,hb⟩:=h
 have hinv':yi γ0 w0 H0 F γ w.drew H ρ a :=
  ⟨hinv.ext.trans (yC (fun _=>False) γ w) (fun _ _ f=>f.elim),hinv.st.kept (yC (fun _=>False) γ w) (fun _ _ _ f=>f),hinv.keys,hinv.env.mono (yC (fun _=>False) γ w).mono,hinv.sz,hinv.fx,hinv.df.step (yC (keysOf H) γ w) (zG.refl _ _)⟩
 obtain⟨h1,h2⟩:=Vl hx
 have:=T0 hQ hK hy hz p (ya x) _ hb h1 h2 γ w.drew H ρ a hinv' hs
 rw[hl] at this
 exact wp_region_any hm this
def zE (P:Program) (N lo:Nat):Code→AC→Bool
 | .skip,.skip=>true
 | .label _,.skip=>true
 | .region _ ops draw,.reg c items=>if draw then Yd P N lo ops c items else XY P N lo ops items
 | .region _ ops draw,.seq a b=>draw&&YT P N lo ops a b
 | .seq a b,.seq a' b'=>zE P N lo a a'&&zE P N lo b b'
 | .seq a b,.join _ a' b'=>zE P N lo a a'&&zE P N lo b b'
 | .cond c t e,.cond c' t' e'=>zl c c'&&zE P N lo t t'&&zE P N lo e e'
 | .block id b,.block id' b'=>decide (id=id')&&zE P N lo b b'
 | .loop b,.loop _ b'=>zE P N lo b b'
 | .scope b,.scope b'=>zE P N lo b b'
 | .exit id,.exit id'=>decide (id=id')
 | .ret,.ret=>true
 | .rangeFunc g ps a b,.rfun g' ps' a' b'=>zl g g'&&decide (ps.toList=ps')&&decide (lo=0)&&(ps'.all fun p=>decide (p<N))&&zE P N lo a a'&&zE P N lo b b'&&a'.flat&&b'.flat
 | _,_=>false
def lift (γ0:Gh) (w0:World) (H0:zb) (F:Fx) (KP:AV→zb→Prop) (Q:zP→Env→zb→Prop):Exit→Act→World→Prop
 | .normal,a,w=>∃ γ H ρ,yi γ0 w0 H0 F γ w H ρ a∧Q .normal ρ H
 | .exit id,a,w=>∃ γ H ρ,yi γ0 w0 H0 F γ w H ρ a∧Q (.exit id) ρ H
 | .ret,a,w=>∃ γ H ρ,yi γ0 w0 H0 F γ w H ρ a∧Q .ret ρ H
 | .panic ch,a,w=>Zy γ0 w0 H0 F KP ch a w
 | .goto _,_,_=>False
 | .outgrown,_,_=>False
theorem Vr {γ:Gh} {w:World} {ρ:Env} {tmps:Array Value} (h:yj γ w ρ tmps) (l:List Nat):yj γ w (ρ.keep l) tmps:=by
 refine⟨h.tab,fun n=>?_⟩
 unfold Env.keep
 induction l with
 | nil=>exact .any _
 | cons x l ih =>
  simp only[List.map_cons,zd]
  split
  ·rename_i e;subst e;exact h.rep n
  ·exact ih
theorem least {p:Nat→Prop} (h:∃ n,p n):∃ n,p n∧∀ m,p m→n≤m:=by
 obtain⟨n,hn⟩:=h
 induction n using Nat.strongRecOn with
 | _ n ih =>
  by_cases hx:∃ m,m<n∧p m
  ·obtain⟨m,hm,hp⟩:=hx;exact ih m hm hp
  ·exact⟨n,hn,fun m hm=>Nat.le_of_not_lt fun hlt=>hx ⟨m,hlt,hm⟩⟩
theorem S0 {P:Program} {Q:Exit→Act→World→Prop} {c:Code} (J:Nat→Act→World→Prop) {a:Act} {w:World} {n:Nat} (h0:J n a w)
  (round:∀ n a w,J n a w→c.wp P (Exit.then (fun a' w'=>∃ m,m<n∧J m a' w') Q) a w):(Code.loop c).wp P Q a w:=by
 classical
 refine wp_loop (fun a w=>∃ n,J n a w) (fun a w=>if h:∃ n,J n a w then Classical.choose (least h) else 0) ⟨n,h0⟩ (fun a w hI=>?_)
 have hs:=Classical.choose_spec (least hI)
 refine wp_mono (round _ a w hs.1) (fun e a' w' hq=>?_)
 cases e<;>first|exact hq|skip
 obtain⟨m,hm,hJ⟩:=hq
 refine⟨⟨m,hJ⟩,?_⟩
 have hI':∃ n,J n a' w':=⟨m,hJ⟩
 have hle:=(Classical.choose_spec (least hI')).2 m hJ
 simp only[hI,hI',dif_pos]
 omega
theorem Xb {P:Program} {o:Oper} {x:z6} (h:zM P o x=true) (c:Call):o.op≠.defer c:=by
 intro e
 cases x<;>simp[zM,e] at h
theorem W3 {P:Program} {l:Nat} {ops:Array Oper} {Q:Exit→Act→World→Prop} (hno:∀ a w,¬ Q .outgrown a w) (hnd:∀(i:Nat) (o:Oper),ops[i]?=some o→∀ c,o.op≠.defer c):∀(idx:List Nat) (a:Act) (w:World),wpOps P ops Q idx a w→wpOpsIn (Fence.wide.inRound l) 0 P ops Q idx a w
 | [],a,w,h=>h
 | i::rest,a,w,h=>by
  simp only[wpOps] at h
  simp only[wpOpsIn]
  have ih:=W3 (P:=P) (l:=l) hno hnd rest
  cases ho:ops[i]? with
  | none=>simp only[ho] at h ⊢;exact ih a w h
  | some o =>
   simp only[ho] at h ⊢
   by_cases hw:Region.wanted o (yielded ops a.tmps)=true
   ·simp only[hw,if_true] at h ⊢
    rcases h with h|⟨_,a0,w0,h0⟩
    ·refine⟨fun _ _=>trivial,?_⟩
     rw[Oper.semAt_eq _ _ _ (hnd i o ho)]
     unfold Oper.wp at h
     generalize (execOp a.eval o).run P w=r at h ⊢
     cases r with
     | ok n w' =>
      cases n<;>first|exact ih _ _ h|exact h.elim|skip
      ·rename_i f args
       refine⟨fun h=>by simp[Fence.wide] at h,?_⟩
       have h2:CallsIn Fence.wide (0-1) P f args w' _:=callsIn_wide.2 h
       refine h2.mono fun e w2 hq=>?_
       cases e with
       | returned v=>exact ih _ _ hq
       | panicked ch=>exact hq
       | outgrown=>obtain⟨a0,w0,h0⟩:=hq;exact(hno _ _ h0).elim
      ·rename_i row args
       refine⟨fun h=>by simp[Fence.wide] at h,fun c cs hroom=>?_⟩
       obtain⟨v,w2,hq,hs⟩:=h c cs
       exact⟨v,w2,ih _ _ hq,stepsIn_wide.2 hs⟩
     | halt x w'=>cases x<;>first|exact h|exact h.elim
    ·exact(hno _ _ h0).elim
   ·simp only[hw,if_false,V6] at h ⊢
    exact⟨fun _ _=>trivial,ih _ _ h⟩
theorem Us {P:Program} {N lo:Nat} {ops:Array Oper} {c:List Nat} {items:List zg} (h:Yd P N lo ops c items=true):∀(i:Nat) (o:Oper),ops[i]?=some o→∀ c,o.op≠.defer c:=by
 simp only[Yd,zH,zU] at h
 obtain⟨⟨⟨⟨⟨⟨hm,hl⟩,hlo⟩,hall⟩,hit⟩,hpre⟩,hpok⟩:=h
 intro i o ho
 obtain⟨_,hr2,_⟩:=Wd (items:=items) c items 0 hl (fun j x hj=>by simpa using hj)
 have hi:=(Zj.1 ho).1
 have hic:i∈c:=by simpa using Zn.1 hall i (List.mem_range.2 hi)
 rw[← hr2] at hic
 obtain⟨r,hr,rfl⟩:=List.mem_map.1 hic
 have:=Zn.1 hit r hr
 rw[ho] at this
 simp only[yt,zH] at this
 exact Xb this.2
theorem U5 {P:Program} {N lo:Nat} {ops:Array Oper} {items:List zg} (h:XY P N lo ops items=true):∀(i:Nat) (o:Oper),ops[i]?=some o→∀ c,o.op≠.defer c:=by
 simp only[XY,zH,zU] at h
 obtain⟨hl,hall⟩:=h
 intro i o ho
 obtain⟨hi,hio⟩:=Zj.1 ho
 have hz:(ops.toList.zip items)[i]?=some (ops[i],items[i]):=by
  rw[List.getElem?_zip_eq_some]
  exact⟨by simp[hi],by simp[← hl,hi]⟩
 have:=Zn.1 hall _ (List.mem_of_getElem? hz)
 rw[hio] at this
 simp only[yt,zH] at this
 exact Xb this.2
theorem Wh {P:Program} {γ0:Gh} {w0:World} {H0:zb} {F:Fx} {l:Nat} {KP:AV→zb→Prop} (hKP:Vp KP):∀(ac:AC) (code:Code) (Q:zP→Env→zb→Prop),ac.flat=true→zE P F.N F.lo code ac=true →
  ∀(γ:Gh) (w:World) (H:zb) (ρ:Env) (a:Act),yi γ0 w0 H0 F γ w H ρ a→Yr P KP ac Q ρ H→code.wpIn (Fence.wide.inRound l) 0 P (lift γ0 w0 H0 F KP Q) a w:=by
 intro ac
 induction ac with
 | skip =>
  intro code Q hf hc γ w H ρ a hinv hs
  cases code<;>simp only[zE] at hc<;>try (cases hc;done)
  ·exact wpIn_skip ⟨γ,H,ρ,hinv,hs⟩
  ·exact wpIn_label ⟨γ,H,ρ,hinv,hs⟩
 | reg c items =>
  intro code Q hf hc γ w H ρ a hinv hs
  cases code<;>simp only[zE] at hc<;>try (cases hc;done)
  rename_i id ops draw
  have hno:∀ a w,¬ lift γ0 w0 H0 F KP Q .outgrown a w:=fun _ _ h=>h
  have hQ:∀ ch a w,Zy γ0 w0 H0 F KP ch a w→lift γ0 w0 H0 F KP Q (.panic ch) a w:=fun _ _ _ h=>h
  have hK:∀ γ w H ρ a,yi γ0 w0 H0 F γ w H ρ a→Q .normal ρ H→lift γ0 w0 H0 F KP Q .normal a w:=fun γ w H ρ a h1 h2=>⟨γ,H,ρ,h1,h2⟩
  cases draw with
  | true =>
   simp only[if_true] at hc
   exact wpIn_region_draw fun t=>W3 hno (Us hc) _ _ _ (U0 hKP hQ hK hc hinv hs t)
  | false =>
   simp only[V6,if_false] at hc
   exact wpIn_region (W3 hno (U5 hc) _ _ _ (T6 hQ hK hc hinv hs))
 | seq x y ihx ihy =>
  intro code Q hf hc γ w H ρ a hinv hs
  cases code<;>simp only[zE] at hc<;>try (cases hc;done)
  ·exfalso
   simp only[zH] at hc
   unfold YT at hc
   split at hc
   ·simp[AC.flat] at hf
   ·simp at hc
  simp only[AC.flat,zH] at hc hf
  refine wpIn_seq (wpIn_mono (ihx _ _ hf.1 hc.1 γ w H ρ a hinv hs) fun e a' w' he=>?_)
  cases e with
  | normal=>obtain⟨γ',H',ρ',h1,h2⟩:=he;exact ihy _ Q hf.2 hc.2 γ' w' H' ρ' a' h1 h2
  | exit id=>exact he
  | ret=>exact he
  | panic ch=>exact he
  | goto l=>exact he
  | outgrown=>exact he
 | join keep x y ihx ihy=>intro code Q hf;simp[AC.flat] at hf
 | loop keep b ih=>intro code Q hf;simp[AC.flat] at hf
 | scope b ih=>intro code Q hf;simp[AC.flat] at hf
 | both x y ihx ihy=>intro code Q hf;simp[AC.flat] at hf
 | rfun g ps asg body iha ihb=>intro code Q hf;simp[AC.flat] at hf
 | cond c t e iht ihe =>
  intro code Q hf hc γ w H ρ a hinv hs
  cases code<;>simp only[zE] at hc<;>try (cases hc;done)
  simp only[AC.flat,zH] at hc hf
  have hr:=ze hc.1.1 hinv.env
  simp only[Yr,Th] at hs
  cases hx:c.ev ρ<;>simp only[hx] at hs hr<;>try (exact False.elim hs)
  ·rename_i b
   generalize hv:a.eval _=v at hr
   cases hr
   cases b with
   | true=>exact wpIn_cond_true hv (iht _ Q hf.1 hc.1.2 γ w H ρ a hinv hs)
   | false=>exact wpIn_cond_false hv (ihe _ Q hf.2 hc.2 γ w H ρ a hinv hs)
  ·rename_i p
   generalize hv:a.eval _=v at hr
   cases hr with
   | ubool _ b hb =>
    cases b with
    | true=>exact wpIn_cond_true hv (iht _ Q hf.1 hc.1.2 γ w H ρ a hinv (hs.1 (hb rfl)))
    | false=>exact wpIn_cond_false hv (ihe _ Q hf.2 hc.2 γ w H ρ a hinv hs.2)
 | block id b ih =>
  intro code Q hf hc γ w H ρ a hinv hs
  cases code<;>simp only[zE] at hc<;>try (cases hc;done)
  simp only[AC.flat,zH,zU] at hc hf
  obtain⟨rfl,hc⟩:=hc
  rename_i id0 b0
  refine wpIn_block (wpIn_mono (ih _ _ hf hc γ w H ρ a hinv hs) fun e a' w' he=>?_)
  cases e with
  | normal=>exact he
  | exit i =>
   obtain⟨γ',H',ρ',h1,h2⟩:=he
   simp only[ZH] at h2
   simp only[Exit.inBlock]
   by_cases hid:i=id0
   ·simp only[hid,if_true] at h2 ⊢;exact⟨γ',H',ρ',h1,h2⟩
   ·simp only[hid,if_false] at h2 ⊢;exact⟨γ',H',ρ',h1,h2⟩
  | ret=>exact he
  | panic ch=>exact he
  | goto l=>exact he
  | outgrown=>exact he
 | exit id =>
  intro code Q hf hc γ w H ρ a hinv hs
  cases code<;>simp only[zE] at hc<;>try (cases hc;done)
  simp only[zU] at hc
  subst hc
  exact wpIn_exit ⟨γ,H,ρ,hinv,hs⟩
 | ret =>
  intro code Q hf hc γ w H ρ a hinv hs
  cases code<;>simp only[zE] at hc<;>try (cases hc;done)
  exact wpIn_ret ⟨γ,H,ρ,hinv,hs⟩
theorem cells_of_cell {w:World} {b k:Nat} {v:Value} (h:w.cell? ⟨b,k,none⟩=some v):∃(arr:Array Value) (E:TypeId) (fr:Nat×Nat),w.heap[b]?=some (.cells arr E fr):=by
 unfold World.cell? at h
 split at h
 ·rename_i c E fr hb;exact⟨c,E,fr,hb⟩
 ·cases h
theorem VC (w:World) (o:Obj) {b:Nat} (h:b<w.heap.size):(w.alloc o).heap[b]?=w.heap[b]?:=RowKit.Below.heap_alloc w o b h
theorem yi.reext {γ0:Gh} {w0:World} {H0:zb} {F:Fx} {γ γ':Gh} {w w':World} {H:zb} {ρ:Env} {a:Act} (h:yi γ0 w0 H0 F γ w H ρ a) (hext:yV (fun _=>False) γ w γ' w'):yi γ0 w0 H0 F γ' w' H ρ a :=
 ⟨h.ext.trans hext (fun _ _ f=>f.elim),h.st.kept hext (fun _ _ _ f=>f),h.keys,h.env.mono hext.mono,h.sz,h.fx,h.df.step (hext.weaken fun _ f=>f.elim) (zG.refl _ _)⟩
theorem WV (γ:Gh) {w:World} {l:Nat} {o o':Obj} (h:w.heap[l]?=some o) (hc:∀ arr E fr,o≠.cells arr E fr) (hc':∀ arr E fr,o'≠.cells arr E fr):yV (fun b=>b=l) γ w γ (w.putObj l o'):=by
 have hne:∀ b,b≠l→(w.putObj l o').heap[b]?=w.heap[b]?:=fun b hb=>World.putObj_heap_other hb
 have hcell:∀ b o v,w.cell? ⟨b,o,none⟩=some v→b≠l:=fun b k v hv e=>by
  subst e
  obtain⟨arr,E,fr,hb⟩:=cells_of_cell hv
  rw[h] at hb
  exact hc _ _ _ (Option.some.inj hb)
 refine⟨⟨by simp,fun b k v hv hp=>⟨hp,?_⟩,fun b arr E fr hb=>⟨arr,?_,rfl⟩⟩,rfl,rfl,fun a ha=>?_,fun b _ hb=>⟨rfl,hne b hb⟩⟩
 ·simp only[World.cell?,hne b (hcell b k v hv)];exact hv
 ·rw[hne b (fun e=>by subst e;rw[h] at hb;exact hc _ _ _ (Option.some.inj hb))];exact hb
 ·by_cases e:a.block=l
  ·simp only[World.frozen?,e,h,World.putObj_heap_same (Zj.1 h).1]
   cases o<;>cases o'<;>first|rfl|exact absurd rfl (hc _ _ _)|exact absurd rfl (hc' _ _ _)
  ·simp only[World.frozen?,hne _ e]
theorem So (γ:Gh) (w:World) (o:Obj):yV (fun _=>False) γ w γ (w.alloc o):=by
 have hlt:∀ b,b<w.heap.size→(w.alloc o).heap[b]?=w.heap[b]?:=fun b hb=>VC w o hb
 have hl:∀ b x,w.heap[b]?=some x→b<w.heap.size:=fun b x h=>(Zj.1 h).1
 refine⟨⟨by simp,fun b k v hv hp=>⟨hp,?_⟩,fun b arr E fr hb=>⟨arr,(hlt b (hl b _ hb)).trans hb,rfl⟩⟩,rfl,rfl,fun a ha=>?_,fun b hb _=>⟨rfl,hlt b hb⟩⟩
 ·obtain⟨arr,E,fr,hb⟩:=cells_of_cell hv
  simp only[World.cell?,hlt b (hl b _ hb)];exact hv
 ·simp only[World.frozen?,hlt _ ha]
theorem VV {γ:Gh} {w:World} {N:Nat}:∀(ps:List Nat) (x:List AV) (vs:List Value) (ρ:Env) (tmps:Array Value),(∀ p∈ps,p<N)→x.length=ps.length→yj γ w ρ tmps→tmps.size=N→zv γ w x vs →
  yj γ w (T9 ps x ρ) ((ps.zip vs).foldl (fun t (p,v)=>t.setIfInBounds p v) tmps)∧((ps.zip vs).foldl (fun t (p,v)=>t.setIfInBounds p v) tmps).size=N
 | [],[],[],ρ,tmps,_,_,h,hs,_=>⟨h,hs⟩
 | [],[],_::_,_,_,_,_,_,_,hr=>absurd hr.1 (by simp)
 | [],_::_,_,_,_,_,hl,_,_,_=>absurd hl (by simp)
 | _::_,[],_,_,_,_,hl,_,_,_=>absurd hl (by simp)
 | _::_,_::_,[],_,_,_,_,_,_,hr=>absurd hr.1 (by simp)
 | p::ps,c::x,v::vs,ρ,tmps,hp,hl,h,hs,hr=>by
  refine VV ps x vs _ _ (fun q hq=>hp q (ZL _ hq)) (by simpa using hl) ?_ (by simpa using hs) ⟨by simpa using hr.1,fun i c v hc hv=>hr.2 (i+1) c v (by simpa using hc) (by simpa using hv)⟩
  exact Sk (d:=some p) h hs (fun y hy=>by cases hy;exact hp p (Zc ..)) (hr.2 0 c v rfl rfl) { tmps:=tmps,defers:=[] } rfl
theorem TH {P:Program} {γ0:Gh} {w0:World} {H0:zb} {F:Fx} {KP:AV→zb→Prop} (hrf:F.rf=true) (hkp:F.keep=[]) (hba:F.base≤w0.heap.size) {g:zu} {ps:List Nat} {asg body:AC} {g':Operand} {ps':Array Tmp} {casg cbody:Code}
  {Q:zP→Env→zb→Prop} (hc:zE P F.N F.lo (.rangeFunc g' ps' casg cbody) (.rfun g ps asg body)=true) {γ:Gh} {w:World} {H:zb} {ρ:Env} {a:Act} (hinv:yi γ0 w0 H0 F γ w H ρ a)
  (hs:Yr P KP (.rfun g ps asg body) Q ρ H):(Code.rangeFunc g' ps' casg cbody).wp P (lift γ0 w0 H0 F KP Q) a w:=by
 simp only[zE,zH,zU] at hc
 obtain⟨⟨⟨⟨⟨⟨⟨hg,rfl⟩,hlo⟩,hps⟩,hca⟩,hcb⟩,hfa⟩,hfb⟩:=hc
 rw[hlo] at hca hcb
 have hps':∀ p∈ps'.toList,p<F.N:=fun p hp=>of_decide_eq_true (Zn.1 hps p hp)
 obtain⟨f,caps,X,hgv,hcallable,hseq,hX,I,h0,hround,hend⟩:=hs
 have hrg:=ze hg hinv.env
 rw[hgv] at hrg
 generalize hev:a.eval g'=gv at hrg
 cases hrg with
 | clo _ _ _ vs0 us hl hl' hr hr' =>
  obtain rfl:vs0=[]:=List.eq_nil_of_length_eq_zero (by simpa using hl.symm)
  have hcaps:zv γ w caps us:=⟨hl',hr'⟩
  obtain⟨bs,hbs,hnd,_,hbk0⟩:=hinv.df.eq
  have hbk:∀ b∈bs,H b=none∧w.heap[b]?=some (.deferred (some [])):=fun b hb=>(hbk0 b hb).2
  obtain ⟨fb, hfb', hfname⟩ : ∃ fn : Func, P.funcs[f]? = some fn ∧ fn.body.isSome = true ∧ (fn.name == "runtime.NumGoroutine") = false := by
   unfold Program.callable at hcallable
   cases hfn':P.funcs[f]? with
   | none=>simp[hfn'] at hcallable
   | some fn' =>
    simp only[hfn',zH,bne_iff_ne,ne_eq] at hcallable
    exact⟨fn',rfl,hcallable.1,by simpa using hcallable.2⟩
  have eg:∀ args w,(callFunc f args).run P w=.ok (.enter f args) w:=fun args w=>by
   obtain⟨bd,hb2⟩:=Yv.1 hfname.1
   have h2:=hfname.2
   simp only[beq_eq_false_iff_ne,ne_eq] at h2
   simp[callFunc,hfb',h2,hb2]
  refine(wpIn_wide (n:=0)).1 (wpIn_rangeFunc fun fn hfn=>?_)
  obtain⟨rec,hrec⟩:∃ rec:LoopState→Option Code→Loop,rec=fun st pe=>{ state:=st,pending:=pe,fn,tmps:=a.tmps,params:=ps',assign:=casg,body:=cbody,defers:=w.heap.size }:=⟨_,rfl⟩
  obtain⟨W1,hW1⟩:∃ W1,(w.alloc (.deferred (some []))).alloc (.loop (rec .ready none))=W1:=⟨_,rfl⟩
  have hlt:w.heap.size<(w.alloc (.deferred (some []))).heap.size:=by simp
  have hL1:W1.heap[w.heap.size+1]?=some (.loop (rec .ready none)):=by
   rw[← hW1];have:=World.alloc_heap_new (w.alloc (.deferred (some []))) (.loop (rec .ready none));rwa [World.size_alloc] at this
  have hK1:W1.heap[w.heap.size]?=some (.deferred (some [])):=by
   rw[← hW1];exact(RowKit.Below.heap_alloc _ _ _ (by simp)).trans (World.alloc_heap_new w _)
  have hE1:yV (fun _=>False) γ w γ W1:=by rw[← hW1];exact(So γ w _).trans (So γ _ _) (fun _ _ f=>f)
  have hlw:∀ b o,w.heap[b]?=some o→b<w.heap.size:=fun b o h=>(Zj.1 h).1
  have hHn:∀ b,w.heap.size≤b→H b=none:=fun b hb=>by
   cases hx:H b with
   | none=>rfl
   | some o=>have:=(hinv.st b o hx).lt;omega
  have hw0:w0.heap.size≤w.heap.size:=hinv.ext.mono.size
  obtain⟨K0,hK0⟩:∃ K0:List (Nat×Obj),K0=(w.heap.size::bs).map fun b=>(b,Obj.deferred (some [])):=⟨_,rfl⟩
  have hK0l:∀ x∈K0,x.1≠w.heap.size+1:=fun x hx e=>by
   rw[hK0] at hx
   obtain⟨b,hb,rfl⟩:=List.mem_map.1 hx
   rcases List.mem_cons.1 hb with rfl|hb
   ·simp at e
   ·have:=hlw _ _ (hbk b hb).2;simp at e;omega
  obtain⟨Fk,hFk⟩:∃ Fk:Fx,Fk=⟨F.N,F.lo,F.T,[],false,(w.heap.size+1,.loop (rec .ready none))::K0,0⟩:=⟨_,rfl⟩
  have hstart:yi γ0 w0 H0 Fk γ W1 H ρ { a with defers:=[] }:=by
   have h1:=hinv.reext hE1
   refine⟨h1.ext,h1.st,h1.keys,h1.env,by rw[hFk];exact h1.sz,by rw[hFk];exact h1.fx,⟨⟨[],by rw[hFk];rfl,List.nodup_nil,fun _=>rfl,fun b hb=>by cases hb⟩,fun x hx=>?_⟩⟩
   rw[hFk] at hx
   rcases List.mem_cons.1 hx with rfl|hx
   ·exact⟨hHn _ (by simp),hL1⟩
   ·rw[hK0] at hx
    obtain⟨b,hb,rfl⟩:=List.mem_map.1 hx
    rcases List.mem_cons.1 hb with rfl|hb
    ·exact⟨hHn _ (yX _),hK1⟩
    ·exact⟨(hbk b hb).1,((hE1.frame b (hlw _ _ (hbk b hb).2) (fun f=>f)).2).trans (hbk b hb).2⟩
  refine⟨w.heap.size+1,[Pe w.heap.size],W1,{ target:=.fn (.func f) us.toArray,args:=#[.func (.yield (w.heap.size+1)) #[] #[]] },W1,f,
   #[.func (.yield (w.heap.size+1)) #[] #[]]++us.toArray,W1,?_,?_,fun _ _=>trivial,?_,fun h=>by simp[Fence.wide] at h,?_⟩
  ·rw[← hW1,hrec];exact run_enterLoop_outer _ _ _ _ _
  ·simp only[resolve,hev]
   simp[go_sem]
  ·simp[invoke,go_sem,eg]
  refine(hseq (w.heap.size+1) (fun k γ' w'=>∃ H',yi γ0 w0 H0 Fk γ' w' H' ρ { a with defers:=[] }∧I k H')
   (fun k γ1 w1 γ2 w2 ⟨H',h1,h2⟩ he=>⟨H',h1.reext he,h2⟩) (fun k x γ1 w1 vs hx ⟨H1,hi1,hI1⟩ hrep=>?_) γ W1 us (hinv.env.tab.mono hE1.mono) (hcaps.mono hE1.mono) ⟨H,hstart,h0⟩).mono ?_
  ·-- one round
   have hk1:=hi1.df.keep (w.heap.size+1,.loop (rec .ready none)) (by rw[hFk];exact Zc ..)
   have hxl:x.length=ps'.toList.length:=hX x (List.mem_of_getElem? hx)
   have hy:=run_yield (P:=P) (args:=vs.toArray) hk1.2 (by rw[hrec];simp[← hrep.1,hxl])
   rw[hrec] at hy
   refine⟨fn,_,casg,cbody,hy,roundIn_of_wpIn trivial ?_⟩
   obtain⟨hpe,hpsz⟩:=VV ps'.toList x vs ρ a.tmps hps' hxl hi1.env (by have:=hi1.sz;rw[hFk] at this;exact this) hrep
   have hfold:((ps'.zip vs.toArray).foldl (fun t (p,v)=>t.setIfInBounds p v) a.tmps)=((ps'.toList.zip vs).foldl (fun t (p,v)=>t.setIfInBounds p v) a.tmps):=by
    rw[← Array.foldl_toList];simp
   rw[hfold]
   obtain⟨Fr,hFr⟩:∃ Fr:LoopState→Fx,Fr=fun st=>⟨F.N,0,#[],[],false,(w.heap.size+1,.loop (rec st none))::K0,0⟩:=⟨_,rfl⟩
   have hA:yi γ1 w1 H1 (Fr .ready) γ1 w1 H1 (T9 ps'.toList x ρ) { tmps:=(ps'.toList.zip vs).foldl (fun t (p,v)=>t.setIfInBounds p v) a.tmps,defers:=[] } :=
    ⟨.refl _ _ _,hi1.st,zG.refl _ _,hpe,by rw[hFr];exact hpsz,fun n hn=>by rw[hFr] at hn;exact absurd hn (Nat.not_lt_zero n),⟨⟨[],by rw[hFr];rfl,List.nodup_nil,fun _=>rfl,fun b hb=>by cases hb⟩,fun x hx=>hi1.df.keep x (by rw[hFr] at hx;rw[hFk];exact hx)⟩⟩
   refine wpIn_mono (Wh (l:=w.heap.size+1) (KP:=fun _ _=>False) (fun _ _ _ _ _ h=>h) asg casg _ hfa (by rw[hFr];exact hca) γ1 w1 H1 _ _ hA (hround k x H1 hx hI1)) fun e a2 w2 he=>?_
   cases e with
   | exit id=>obtain⟨_,_,_,_,h⟩:=he;exact h.elim
   | ret=>obtain⟨_,_,_,_,h⟩:=he;exact h.elim
   | goto l=>exact he.elim
   | outgrown=>exact he.elim
   | panic ch=>obtain⟨_,_,_,_,_,_,_,_,_,hf,_⟩:=he;exact hf.elim
   | normal =>
    obtain⟨γ2,H2,ρ2,hi2,hb2⟩:=he
    have hk2:=hi2.df.keep (w.heap.size+1,.loop (rec .ready none)) (by rw[hFr];exact Zc ..)
    obtain⟨w3,hw3⟩:∃ w3,w2.putObj (w.heap.size+1) (.loop (rec .busy none))=w3:=⟨_,rfl⟩
    have hE3:yV (fun b=>b=w.heap.size+1) γ2 w2 γ2 w3:=by rw[← hw3];exact WV γ2 hk2.2 (fun _ _ _ h=>by cases h) (fun _ _ _ h=>by cases h)
    have hlt2:=(Zj.1 hk2.2).1
    refine⟨w3,by rw[← hw3];have:=run_beginRound (P:=P) hk2.2 (by rw[hrec]);rw[hrec] at this ⊢;exact this,?_⟩
    have hB:yi γ2 w3 H2 (Fr .busy) γ2 w3 H2 ρ2 a2:=by
     refine⟨.refl _ _ _,hi2.st.kept hE3 (fun b o hb e=>by subst e;rw[hk2.1] at hb;cases hb),zG.refl _ _,hi2.env.mono hE3.mono,by have:=hi2.sz;rw[hFr] at this ⊢;exact this,
      fun n hn=>by rw[hFr] at hn;exact absurd hn (Nat.not_lt_zero n),⟨⟨[],by have:=hi2.df.plain (by rw[hFr]);rw[hFr] at this ⊢;exact this,List.nodup_nil,fun _=>rfl,fun b hb=>by cases hb⟩,fun x hx=>?_⟩⟩
     rw[hFr] at hx
     rcases List.mem_cons.1 hx with rfl|hx
     ·exact⟨hk2.1,by rw[← hw3];exact World.putObj_heap_same hlt2⟩
     ·have h5:=hi2.df.keep x (by rw[hFr];exact ZL _ hx)
      exact⟨h5.1,by rw[← hw3];exact(World.putObj_heap_other (hK0l x hx)).trans h5.2⟩
    refine wpIn_mono (Wh (l:=w.heap.size+1) (KP:=fun _ _=>False) (fun _ _ _ _ _ h=>h) body cbody _ hfb (by rw[hFr];exact hcb) γ2 w3 H2 _ _ hB hb2) fun e a4 w4 he=>?_
    cases e with
    | exit id=>obtain⟨_,_,_,_,h⟩:=he;exact h.elim
    | ret=>obtain⟨_,_,_,_,h⟩:=he;exact h.elim
    | goto l=>exact he.elim
    | outgrown=>exact he.elim
    | panic ch=>obtain⟨_,_,_,_,_,_,_,_,_,hf,_⟩:=he;exact hf.elim
    | normal =>
     obtain⟨γ4,H4,ρ4,hi4,hI4⟩:=he
     have hk4:=hi4.df.keep (w.heap.size+1,.loop (rec .busy none)) (by rw[hFr];exact Zc ..)
     obtain⟨w5,hw5⟩:∃ w5,w4.putObj (w.heap.size+1) (.loop (rec .ready none))=w5:=⟨_,rfl⟩
     have hE5:yV (fun b=>b=w.heap.size+1) γ4 w4 γ4 w5:=by rw[← hw5];exact WV γ4 hk4.2 (fun _ _ _ h=>by cases h) (fun _ _ _ h=>by cases h)
     have hEt:yV (fun b=>keysOf H1 b∨b=w.heap.size+1) γ1 w1 γ4 w5:=by
      refine(((hi2.ext.weaken (F':=fun b=>keysOf H1 b∨b=w.heap.size+1) fun b h=>.inl h).trans hE3 (fun b _ h=>.inr h)).trans hi4.ext (fun b hb h=>?_)).trans hE5 (fun b _ h=>.inr h)
      rcases hi2.keys b h with h1|h1
      ·exact .inl h1
      ·omega
     have hs12:w1.heap.size≤w3.heap.size:=Nat.le_trans hi2.ext.mono.size hE3.mono.size
     refine⟨.bool true,w5,by rw[← hw5];have:=run_endRound (P:=P) none hk4.2;rw[hrec] at this ⊢;exact this,γ4,hEt.mono,rfl,H4,⟨hi1.ext.trans hEt (fun b hb h=>?_),hi4.st.kept hE5 (fun b o hb e=>by subst e;rw[hk4.1] at hb;cases hb),?_,hi1.env.mono hEt.mono,hi1.sz,hi1.fx,?_⟩,hI4⟩
     ·rcases h with h|h
      ·rcases hi1.keys b h with h1|h1
       ·exact h1
       ·omega
      ·omega
     ·exact Ze hi1.keys hi1.ext.mono.size (Ze hi2.keys hs12 hi4.keys)
     ·refine⟨⟨[],by rw[hFk];rfl,List.nodup_nil,fun _=>rfl,fun b hb=>by cases hb⟩,fun x hx=>?_⟩
      rw[hFk] at hx
      rcases List.mem_cons.1 hx with rfl|hx
      ·exact⟨hk4.1,by rw[← hw5];exact World.putObj_heap_same (Zj.1 hk4.2).1⟩
      ·have h5:=hi4.df.keep x (by rw[hFr];exact ZL _ hx)
       exact⟨h5.1,by rw[← hw5];exact(World.putObj_heap_other (hK0l x hx)).trans h5.2⟩
  ·-- behind the iterator
   rintro e w2 ⟨γ2,v,rfl,H2,hi2,hI2⟩
   have hk2:=hi2.df.keep (w.heap.size+1,.loop (rec .ready none)) (by rw[hFk];exact Zc ..)
   obtain⟨w3,hw3⟩:∃ w3,w2.putObj (w.heap.size+1) (.loop (rec .exhausted none))=w3:=⟨_,rfl⟩
   have hE3:yV (fun b=>b=w.heap.size+1) γ2 w2 γ2 w3:=by rw[← hw3];exact WV γ2 hk2.2 (fun _ _ _ h=>by cases h) (fun _ _ _ h=>by cases h)
   refine⟨none,w3,by rw[← hw3];have:=run_endLoop (P:=P) hk2.2 (by rw[hrec];simp);rw[hrec] at this ⊢;exact this,γ2,H2,ρ,⟨hi2.ext.trans hE3 (fun b hb h=>by omega),hi2.st.kept hE3 (fun b o hb e=>by subst e;rw[hk2.1] at hb;cases hb),hi2.keys,hi2.env.mono hE3.mono,by have:=hi2.sz;rw[hFk] at this;exact this,by have:=hi2.fx;rw[hFk] at this;exact this,?_⟩,hend H2 hI2⟩
   have hkk:∀ b∈w.heap.size::bs,H2 b=none∧w3.heap[b]?=some (.deferred (some [])):=fun b hb=>by
    have hm:((b,Obj.deferred (some [])):Nat×Obj)∈K0:=by rw[hK0];exact List.mem_map.2 ⟨b,hb,rfl⟩
    have h5:=hi2.df.keep _ (by rw[hFk];exact ZL _ hm)
    exact⟨h5.1,by rw[← hw3];exact(World.putObj_heap_other (hK0l _ hm)).trans h5.2⟩
   refine⟨⟨w.heap.size::bs,by show [Pe w.heap.size]++a.defers=_;rw[hbs];rfl,?_,fun(h:F.rf=false)=>(by rw[hrf] at h;cases h),fun b hb=>⟨?_,hkk b hb⟩⟩,fun x hx=>by rw[hkp] at hx;cases hx⟩
   ·exact List.nodup_cons.2 ⟨fun hm=>by have:=hlw _ _ (hbk _ hm).2;omega,hnd⟩
   ·rcases List.mem_cons.1 hb with rfl|hb
    ·omega
    ·exact(hbk0 b hb).1
theorem PA {p q:Bool} {X:Prop} (h:(p&&q)=true∨X):(p=true∨X)∧(q=true∨X):=by
 rcases h with h|h
 ·simp only[zH] at h;exact⟨.inl h.1,.inl h.2⟩
 ·exact⟨.inr h,.inr h⟩
theorem Za {P:Program} {γ0:Gh} {w0:World} {H0:zb} {F:Fx} {KP:AV→zb→Prop} (hKP:Vp KP):∀(ac:AC) (code:Code) (Q:zP→Env→zb→Prop),(ac.plain=true∨(F.rf=true∧F.keep=[]∧F.base≤w0.heap.size))→zE P F.N F.lo code ac=true →
  ∀(γ:Gh) (w:World) (H:zb) (ρ:Env) (a:Act),yi γ0 w0 H0 F γ w H ρ a→Yr P KP ac Q ρ H→code.wp P (lift γ0 w0 H0 F KP Q) a w:=by
 intro ac
 induction ac with
 | skip =>
  intro code Q hp hc γ w H ρ a hinv hs
  cases code<;>simp only[zE] at hc<;>try (cases hc;done)
  ·exact wp_skip ⟨γ,H,ρ,hinv,hs⟩
  ·exact wp_label ⟨γ,H,ρ,hinv,hs⟩
 | reg c items =>
  intro code Q hp hc γ w H ρ a hinv hs
  cases code<;>simp only[zE] at hc<;>try (cases hc;done)
  rename_i id ops draw
  have hQ:∀ ch a w,Zy γ0 w0 H0 F KP ch a w→lift γ0 w0 H0 F KP Q (.panic ch) a w:=fun _ _ _ h=>h
  have hK:∀ γ w H ρ a,yi γ0 w0 H0 F γ w H ρ a→Q .normal ρ H→lift γ0 w0 H0 F KP Q .normal a w:=fun γ w H ρ a h1 h2=>⟨γ,H,ρ,h1,h2⟩
  cases draw with
  | true=>simp only[if_true] at hc;exact TE hKP hQ hK hc hinv hs
  | false=>simp only[V6,if_false] at hc;exact SY hQ hK hc hinv hs
 | seq x y ihx ihy =>
  intro code Q hp hc γ w H ρ a hinv hs
  cases code<;>simp only[zE] at hc<;>try (cases hc;done)
  ·rename_i id ops draw
   have hQ:∀ ch a w,Zy γ0 w0 H0 F KP ch a w→lift γ0 w0 H0 F KP Q (.panic ch) a w:=fun _ _ _ h=>h
   have hK:∀ γ w H ρ a,yi γ0 w0 H0 F γ w H ρ a→Q .normal ρ H→lift γ0 w0 H0 F KP Q .normal a w:=fun γ w H ρ a h1 h2=>⟨γ,H,ρ,h1,h2⟩
   simp only[zH] at hc
   obtain⟨rfl,hc⟩:=hc
   cases x<;>try (simp[YT] at hc;done)
   cases y<;>try (simp[YT] at hc;done)
   rename_i u v
   cases u<;>try (simp[YT] at hc;done)
   cases v<;>try (simp[YT] at hc;done)
   exact S6 hQ hK hc hinv hs
  simp only[zH] at hc
  refine wp_seq (wp_mono (ihx _ _ (PA hp).1 hc.1 γ w H ρ a hinv hs) fun e a' w' he=>?_)
  cases e with
  | normal=>obtain⟨γ',H',ρ',h1,h2⟩:=he;exact ihy _ Q (PA hp).2 hc.2 γ' w' H' ρ' a' h1 h2
  | exit id=>exact he
  | ret=>exact he
  | panic ch=>exact he
  | goto l=>exact he
  | outgrown=>exact he
 | join keep x y ihx ihy =>
  intro code Q hp hc γ w H ρ a hinv hs
  cases code<;>simp only[zE] at hc<;>try (cases hc;done)
  simp only[zH] at hc
  obtain⟨J,h0,hJ⟩:=hs
  refine wp_seq (wp_mono (ihx _ _ (PA hp).1 hc.1 γ w H ρ a hinv h0) fun e a' w' he=>?_)
  cases e with
  | normal=>obtain⟨γ',H',ρ',h1,h2⟩:=he;exact ihy _ Q (PA hp).2 hc.2 γ' w' H' (ρ'.keep keep) a' ⟨h1.ext,h1.st,h1.keys,Vr h1.env keep,h1.sz,h1.fx,h1.df⟩ (hJ _ _ h2)
  | exit id=>exact he
  | ret=>exact he
  | panic ch=>exact he
  | goto l=>exact he
  | outgrown=>exact he
 | cond c t e iht ihe =>
  intro code Q hp hc γ w H ρ a hinv hs
  cases code<;>simp only[zE] at hc<;>try (cases hc;done)
  simp only[zH] at hc
  have hr:=ze hc.1.1 hinv.env
  simp only[Yr,Th] at hs
  cases hx:c.ev ρ<;>simp only[hx] at hs hr<;>try (exact False.elim hs)
  ·rename_i b
   generalize hv:a.eval _=v at hr
   cases hr
   cases b with
   | true=>exact wp_cond_true hv (iht _ Q (PA hp).1 hc.1.2 γ w H ρ a hinv hs)
   | false=>exact wp_cond_false hv (ihe _ Q (PA hp).2 hc.2 γ w H ρ a hinv hs)
  ·rename_i p
   generalize hv:a.eval _=v at hr
   cases hr with
   | ubool _ b hb =>
    cases b with
    | true=>exact wp_cond_true hv (iht _ Q (PA hp).1 hc.1.2 γ w H ρ a hinv (hs.1 (hb rfl)))
    | false=>exact wp_cond_false hv (ihe _ Q (PA hp).2 hc.2 γ w H ρ a hinv hs.2)
 | block id b ih =>
  intro code Q hp hc γ w H ρ a hinv hs
  cases code<;>simp only[zE] at hc<;>try (cases hc;done)
  simp only[zH,zU] at hc
  obtain⟨rfl,hc⟩:=hc
  rename_i id0 b0
  refine wp_block (wp_mono (ih _ _ hp hc γ w H ρ a hinv hs) fun e a' w' he=>?_)
  cases e with
  | normal=>exact he
  | exit i =>
   obtain⟨γ',H',ρ',h1,h2⟩:=he
   simp only[ZH] at h2
   simp only[Exit.inBlock]
   by_cases hid:i=id0
   ·simp only[hid,if_true] at h2 ⊢;exact⟨γ',H',ρ',h1,h2⟩
   ·simp only[hid,if_false] at h2 ⊢;exact⟨γ',H',ρ',h1,h2⟩
  | ret=>exact he
  | panic ch=>exact he
  | goto l=>exact he
  | outgrown=>exact he
 | loop keep b ih =>
  intro code Q hp hc γ w H ρ a hinv hs
  cases code<;>simp only[zE] at hc<;>try (cases hc;done)
  obtain⟨I,⟨n,h0⟩,hround⟩:=hs
  refine S0 (fun n a w=>∃ γ H ρ,yi γ0 w0 H0 F γ w H ρ a∧I n ρ H) (n:=n) ⟨γ,H,ρ.keep keep,⟨hinv.ext,hinv.st,hinv.keys,Vr hinv.env keep,hinv.sz,hinv.fx,hinv.df⟩,h0⟩ (fun n a w ⟨γ,H,ρ,h1,h2⟩=>?_)
  refine wp_mono (ih _ _ hp hc γ w H ρ a h1 (hround n ρ H h2)) fun e a' w' he=>?_
  cases e with
  | normal =>
   obtain⟨γ',H',ρ',h3,m,hm,h4⟩:=he
   exact⟨m,hm,γ',H',ρ'.keep keep,⟨h3.ext,h3.st,h3.keys,Vr h3.env keep,h3.sz,h3.fx,h3.df⟩,h4⟩
  | exit id=>exact he
  | ret=>exact he
  | panic ch=>exact he
  | goto l=>exact he
  | outgrown=>exact he
 | scope b ih =>
  intro code Q hp hc γ w H ρ a hinv hs
  cases code<;>simp only[zE] at hc<;>try (cases hc;done)
  refine wp_scope_straight (wp_mono (ih _ Q hp hc γ w H ρ a hinv hs) fun e a' w' he=>?_)
  cases e<;>exact he
 | exit id =>
  intro code Q hp hc γ w H ρ a hinv hs
  cases code<;>simp only[zE] at hc<;>try (cases hc;done)
  simp only[zU] at hc
  subst hc
  exact wp_exit ⟨γ,H,ρ,hinv,hs⟩
 | ret =>
  intro code Q hp hc γ w H ρ a hinv hs
  cases code<;>simp only[zE] at hc<;>try (cases hc;done)
  exact wp_ret ⟨γ,H,ρ,hinv,hs⟩
 | both x y ihx ihy =>
  intro code Q hp hc γ w H ρ a hinv hs
  cases code<;>(simp only[zE] at hc;cases hc;done)
 | rfun g ps asg body iha ihb =>
  intro code Q hp hc γ w H ρ a hinv hs
  have hrf:=hp.resolve_left (by simp[AC.plain])
  cases code<;>try (simp only[zE] at hc;cases hc;done)
  exact TH hrf.1 hrf.2.1 hrf.2.2 hc hinv hs
inductive XL where
 | t (n:Nat)
 | c (n sz:Nat) (ag:Bool)
structure zf where
 N:Nat
 np:Nat
 res:List XL
 body:AC
def WJ (ρ:Env) (H:zb):XL→Option AV
 | .t n=>some (ρ n)
 | .c n sz ag=>rev ρ H (.ld sz ag (.t n))
def yl (ρ:Env) (H:zb):List XL→Option (List AV)
 | []=>some []
 | r::rs=>match WJ ρ H r,yl ρ H rs with
  | some v,some vs=>some (v::vs)
  | _,_=>none
def zL:List AV→AV
 | [v]=>v
 | vs=>.tup vs
def Zb (P:Program):List ResultVar→List XL→Bool
 | [],[]=>true
 | .tmp t::rs,.t n::as=>t==n&&Zb P rs as
 | .cell a t::rs,.c n sz ag::as=>a==n&&((P.info? t).any fun ti=>decide (ti.size=sz))&&(P.underlying t).isSome&&decide (YB (P.underlying t)=ag)&&(ag||decide (sz=1))&&Zb P rs as
 | _,_=>false
def za (P:Program) (f:FuncId) (af:zf):Bool :=
 match P.funcs[f]? with
 | some fn=>match fn.body with
  | some code=>decide (fn.ntmps=af.N)&&decide (af.np≤af.N)&&Zb P fn.results.toList af.res&&zE P af.N 0 code af.body
  | none=>false
 | none=>false
def NU (A B:zb):Prop:=∀ b o,A b=some o→B b=some o
theorem NU.refl (A:zb):NU A A:=fun _ _ h=>h
structure Yt (B A:zb):Prop where
 keys:∀ b,(B b).isSome=true→(A b).isSome=true
 st:∀ γ w,zn γ w A→zn γ w B
theorem Yt.of_sub {A B:zb} (h:NU B A):Yt B A:=⟨fun b hb=>by
 cases hx:B b with
 | none=>simp[hx] at hb
 | some o=>simp[h b o hx],fun γ w hs=>hs.sub h⟩
theorem Yt.refl (A:zb):Yt A A:=Yt.of_sub (NU.refl A)
theorem Yt.trans {A B C:zb} (h:Yt A B) (h':Yt B C):Yt A C:=⟨fun b hb=>h'.keys b (h.keys b hb),fun γ w hs=>h.st γ w (h'.st γ w hs)⟩
theorem Yt.upd {A B:zb} (h:Yt B A) {b:Nat} {o:yf} (hb:A b=none):Yt B (A.upd b o) :=
 h.trans (Yt.of_sub fun c x hc=>by
  have hne:c≠b:=fun e=>by subst e;rw[hb] at hc;cases hc
  simp only[zb.upd,hne,if_false];exact hc)
theorem Yt.cells {A:zb} {b:Nat} {cs:List AV} (hb:A b=some (.cells cs)):Yt (A.upd b (.cells (cs.map AV.strip1))) A:=by
 refine⟨fun c hc=>?_,fun γ w hs c o hc=>?_⟩
 ·unfold zb.upd at hc
  split at hc
  ·rename_i e;subst e;simp[hb]
  ·exact hc
 ·unfold zb.upd at hc
  split at hc
  ·rename_i e
   subst e
   simp only[zx] at hc
   subst hc
   cases hs _ _ hb with
   | cells _ vs E hk hb' hl h1 hr =>
    refine .cells _ vs E hk hb' (by simpa using hl) h1 fun i c v hc hv=>?_
    rw[yr] at hc
    cases hx:cs[i]? with
    | none=>simp[hx] at hc
    | some x=>simp only[hx,yv,zx] at hc;subst hc;exact(hr i x v hx hv).strip1
  ·exact hs c o hc
def zX:Nat→List AV→List (Nat×AV)
 | _,[]=>[]
 | k,c::cs=>(k,c)::zX (k+1) cs
def YE (res:List XL) (Q:zZ→zb→Prop):zP→Env→zb→Prop
 | .exit _,_,_=>False
 | _,ρ,H=>match yl ρ H res with
  | some vs=>∃ H',Yt H' H∧Q (.ret (zL vs)) H'
  | none=>False
def Xx (Q:zZ→zb→Prop):AV→zb→Prop:=fun v H=>∃ H',Yt H' H∧Q (.pan v) H'
theorem Y0 (Q:zZ→zb→Prop):Vp (Xx Q):=fun v H b o hb ⟨H',hs,hq⟩=>⟨H',hs.upd hb,hq⟩
theorem Vm:∀(args:List AV) (k n:Nat),zd (zX k args) n=if k≤n then args.getD (n-k) .any else .any
 | [],k,n=>by simp[zX,zd]
 | c::cs,k,n=>by
  simp only[zX,zd,Vm cs (k+1) n]
  by_cases h:n=k
  ·subst h;simp
  ·simp only[h,if_false]
   by_cases h2:k≤n
   ·have h3:k+1≤n:=by omega
    simp only[h2,h3,if_true]
    rw[show n-k=(n-(k+1))+1 by omega]
    simp
   ·have h3:¬ k+1≤n:=by omega
    simp[h2,h3]
theorem XR {γ:Gh} {w:World} {args:List AV} {vs:List Value} (ht:y1 γ w) (h:zv γ w args vs) (m:Nat):yj γ w (zd (zX 0 args)) (vs.toArray++Array.replicate m undef):=by
 refine⟨ht,fun n=>?_⟩
 rw[Vm]
 simp only[Nat.zero_le,if_true,Nat.sub_zero]
 by_cases hn:n<args.length
 ·have hv:n<vs.length:=by rw[← h.1];exact hn
  have e1:args.getD n .any=args[n]:=by simp[List.getD,hn]
  have e2:(vs.toArray++Array.replicate m undef).getD n undef=vs[n]:=by
   simp only[UJ]
   rw[Array.getElem?_append_left (by simpa using hv)]
   simp[hv]
  rw[e1,e2]
  exact h.2 n _ _ (Yx hn) (Yx hv)
 ·have e1:args.getD n .any=.any:=by simp[List.getD,hn]
  rw[e1]
  exact .any _
theorem Uq {P:Program} {γ:Gh} {w:World} {H:zb} {ρ:Env} {a:Act} (he:yj γ w ρ a.tmps) (hs:zn γ w H):∀(rs:List ResultVar) (as:List XL) (cs:List AV),Zb P rs as=true→yl ρ H as=some cs →
  ∃ vs,(rs.mapM (m:=Sem) fun
   | .tmp t=>pure (a.tmps.getD t undef)
   | .cell x t=>do loadVar t (← asAddr (a.tmps.getD x undef))).run P w=.ok vs w∧zv γ w cs vs
 | [],[],cs,_,h=>by simp only[yl,zx] at h;subst h;exact⟨[],rfl,zv.nil⟩
 | [],_::_,_,h,_=>by simp[Zb] at h
 | .tmp t::_,[],_,h,_=>by simp[Zb] at h
 | .cell x t::_,[],_,h,_=>by simp[Zb] at h
 | .tmp t::rs,.c n sz ag::as,_,h,_=>by simp[Zb] at h
 | .cell x t::rs,.t n::as,_,h,_=>by simp[Zb] at h
 | .tmp t::rs,.t n::as,cs,hc,h=>by
  simp only[Zb,zH,beq_iff_eq] at hc
  obtain⟨rfl,hc⟩:=hc
  simp only[yl,WJ] at h
  cases hr:yl ρ H as with
  | none=>simp[hr] at h
  | some ds =>
   simp only[hr,zx] at h
   subst h
   obtain⟨vs,hv,hrep⟩:=Uq he hs rs as ds hc hr
   exact⟨a.tmps.getD t undef::vs,by simp only[List.mapM_cons,Sem.run_bind,Sem.run_pure,Result.andThen_ok,hv],zv.cons (he.rep t) hrep⟩
 | .cell x t::rs,.c n sz ag::as,cs,hc,h=>by
  simp only[Zb,zH,beq_iff_eq,zU,UK] at hc
  obtain⟨⟨⟨⟨⟨rfl,h1⟩,h2⟩,h3⟩,h4⟩,hc⟩:=hc
  obtain⟨ti,hti,h1⟩:=zw h1
  obtain⟨d,hd⟩:=Yv.1 h2
  simp only[yl,WJ] at h
  cases hv0:rev ρ H (.ld sz ag (.t x)) with
  | none=>simp[hv0] at h
  | some v0 =>
   cases hr:yl ρ H as with
   | none=>simp[hv0,hr] at h
   | some ds =>
    simp only[hv0,hr,zx] at h
    subst h
    obtain⟨vs,hv,hrep⟩:=Uq he hs rs as ds hc hr
    have hread := Pv (P := P) (o := { dst := none, op := .load t (.tmp x), type := 0, pos := "", after := #[], guard := none }) (x' := .t x) rfl (by simp [zl]) hti (by simpa using h1) hd h3 h4 γ w H ρ a v0 he hs hv0
    obtain⟨u,hu,hru⟩:=hread
    have hex:(do loadVar t (← asAddr (a.tmps.getD x undef)):Sem Value).run P w=.ok u w:=by
     have hr1:=he.rep x
     simp only[rev,zu.ev] at hv0
     simp only[execOp,Instr.loadAt,Act.eval,Sem.run_bind] at hu
     cases hx:ρ x<;>simp only[hx] at hv0 hr1<;>try (cases hv0;done)
     all_goals
      generalize hg:a.tmps.getD x undef=g at hr1 hu ⊢
      cases hr1
      simp only[Instr.sureAddr,asAddr,Sem.run_bind,Sem.run_pure,Result.andThen_ok] at hu ⊢
      generalize (loadVar t _).run P w=r at hu ⊢
      cases r with
      | ok v w'=>simp only[Result.andThen_ok,Result.ok.injEq,Next.value.injEq] at hu;rw[hu.1,hu.2]
      | halt x w'=>simp[Result.andThen] at hu
    exact⟨u::vs,by simp only[List.mapM_cons,Sem.run_bind] at hex ⊢;rw[hex];simp only[Result.andThen_ok,hv,Sem.run_pure],zv.cons hru hrep⟩
theorem YU {P:Program} {γ:Gh} {w:World} {H:zb} {ρ:Env} {a:Act} {fn:Func} {as:List XL} {cs:List AV} (he:yj γ w ρ a.tmps) (hs:zn γ w H) (hc:Zb P fn.results.toList as=true) (h:yl ρ H as=some cs) :
  ∃ v,(results fn a.tmps).run P w=.ok v w∧Rep γ w (zL cs) v:=by
 obtain⟨vs,hv,hrep⟩:=Uq (P:=P) he hs fn.results.toList as cs hc h
 have hm:(fn.results.mapM (m:=Sem) fun
   | .tmp t=>pure (a.tmps.getD t undef)
   | .cell x t=>do loadVar t (← asAddr (a.tmps.getD x undef))).run P w=.ok vs.toArray w:=by
  rw[Array.mapM_eq_mapM_toList]
  simp only[Sem.run_map]
  have e:∀ r:Result (List Value),r=.ok vs w→(r.andThen fun a w'=>Result.ok a.toArray w')=.ok vs.toArray w:=fun r hr=>by subst hr;rfl
  exact e _ hv
 unfold results
 rw[Sem.run_bind]
 have e:∀ r:Result (Array Value),r=.ok vs.toArray w→(r.andThen fun vs w'=>(pure (if h:vs.size=1 then vs[0] else .tuple vs):Sem Value).run P w')=.ok (if h:vs.toArray.size=1 then vs.toArray[0] else .tuple vs.toArray) w:=fun r hr=>by subst hr;rfl
 refine⟨_,e _ hm,?_⟩
 match cs,vs,hrep with
 | [],[],_=>exact .tup [] [] rfl (by simp)
 | [c],[v],h=>exact h.2 0 c v rfl rfl
 | c1::c2::cs,v1::v2::vs,h=>exact .tup _ _ h.1 h.2
 | [],_::_,h=>exact absurd h.1 (by simp)
 | _::_,[],h=>exact absurd h.1 (by simp)
 | [_],_::_::_,h=>exact absurd h.1 (by simp)
 | _::_::_,[_],h=>exact absurd h.1 (by simp)
theorem Yg {P:Program} {fn:Func} {tmps:Array Value} {R:Ending→World→Prop} {u:FrameMode} {γ:Gh} (hu:u≠.run):∀(bs:List Nat) (w:World) (H:zb),bs.Nodup→(∀ b∈bs,H b=none∧w.heap[b]?=some (.deferred (some [])))→zn γ w H →
  (∀ w',yV (fun b=>b∈bs) γ w γ w'→zn γ w' H→LeavesIn Fence.wide 0 P fn tmps R [] u w')→LeavesInM Fence.wide 0 P fn tmps R (bs.map Pe) u w
 | [],w,H,_,_,hs,h=>h w (.refl _ _ _) hs
 | b::bs,w,H,hnd,hb,hs,h=>by
  have h1:=hb b (Zc ..)
  obtain⟨hnb,hnd'⟩:=List.nodup_cons.1 hnd
  have hE:=WV γ (o':=.deferred none) h1.2 (fun _ _ _ h=>by cases h) (fun _ _ _ h=>by cases h)
  refine⟨hu,.inl ⟨b,w.putObj b (.deferred none),rfl,run_takeDeferred h1.2,?_⟩⟩
  have hs':zn γ (w.putObj b (.deferred none)) H:=hs.kept hE (fun c o hc e=>by subst e;rw[h1.1] at hc;cases hc)
  refine Yg hu bs _ H hnd' (fun c hc=>?_) hs' fun w' he hs2=>h w' ((hE.weaken fun c hc=>by subst hc;exact Zc ..).trans he fun c _ hc=>ZL _ hc) hs2
  have h2:=hb c (ZL _ hc)
  exact⟨h2.1,(World.putObj_heap_other (fun e=>by subst e;exact hnb hc)).trans h2.2⟩
theorem zt.of_fn {P:Program} {f:FuncId} (af:zf) (hc:za P f af=true) {args:List AV} {H:zb} {Q:zZ→zb→Prop} (hnp:args.length≤af.np)
  (h:Yr P (Xx Q) af.body (YE af.res Q) (zd (zX 0 args)) H):zt P f args H Q:=by
 intro γ w vs ht hs hv
 unfold za at hc
 cases hfn:P.funcs[f]? with
 | none=>simp[hfn] at hc
 | some fn =>
  simp only[hfn] at hc
  cases hbody:fn.body with
  | none=>simp[hbody] at hc
  | some code =>
   simp only[hbody,zH,zU] at hc
   obtain⟨⟨⟨hN,hnpN⟩,hres⟩,hcode⟩:=hc
   refine(callsIn_wide (n:=0)).1 (callsIn_of_wp_marks hfn hbody trivial (wpIn_wide.2 ?_))
   have hlen:vs.toArray.size≤af.N:=by simp only[List.size_toArray];rw[← hv.1];omega
   have hinv:yi γ w H (Fx.marks af.N w.heap.size) γ w H (zd (zX 0 args)) { tmps:=vs.toArray++Array.replicate (fn.ntmps-vs.toArray.size) undef,defers:=[] } :=
    ⟨.refl _ _ _,hs,zG.refl _ _,XR ht hv _,by show _=af.N;rw[hN,Array.size_append,Array.size_replicate];omega,fun n hn=>absurd hn (Nat.not_lt_zero n),X7.init rfl⟩
   refine wp_mono (Za (F:=Fx.marks af.N w.heap.size) (Y0 Q) af.body code _ (.inr ⟨rfl,rfl,yX _⟩) hcode γ w H _ _ hinv h) fun e a' w' he=>?_
   have old:∀(H':zb) (bs:List Nat),(∀ b∈bs,w.heap.size≤b∧H' b=none∧w'.heap[b]?=some (.deferred (some [])))→∀ b,b<w.heap.size→b∈bs→keysOf H b :=
    fun H' bs h b hb hm=>absurd (h b hm).1 (by omega)
   have fin:∀ γ' H' ρ',yi γ w H (Fx.marks af.N w.heap.size) γ' w' H' ρ' a'→(match yl ρ' H' af.res with|some vs=>∃ H'',Yt H'' H'∧Q (.ret (zL vs)) H''|none=>False) →
     LeavesInM Fence.wide 0 P fn a'.tmps (fun e w'=>∃ γ' H' r,yV (fun b=>(H b).isSome=true) γ w γ' w'∧zn γ' w' H' ∧
      (∀ b,(H' b).isSome=true→(H b).isSome=true∨w.heap.size≤b)∧X0 γ' w' e r∧Q r H') a'.defers .returning w':=by
    intro γ' H' ρ' h1 h2
    cases hr:yl ρ' H' af.res with
    | none=>simp[hr] at h2
    | some cs =>
     simp only[hr] at h2
     obtain⟨H'',hsub,hq⟩:=h2
     obtain⟨bs,hbs,hnd,_,hbk⟩:=h1.df.eq
     rw[hbs,show (Fx.marks af.N w.heap.size).D=[] from rfl,List.append_nil]
     refine Yg (γ:=γ') (by simp) bs w' H' hnd (fun b hb=>(hbk b hb).2) h1.st fun w2 he hs2=>?_
     obtain⟨v,hrun,hrep⟩:=YU (P:=P) (h1.env.mono he.mono) hs2 hres hr
     refine⟨v,hrun,γ',H'',.ret (zL cs),h1.ext.trans he (old H' bs hbk),hsub.st _ _ hs2,fun b hb=>?_,hrep,hq⟩
     exact h1.keys b (hsub.keys b hb)
   cases e with
   | normal=>obtain⟨γ',H',ρ',h1,h2⟩:=he;exact fin γ' H' ρ' h1 h2
   | ret=>obtain⟨γ',H',ρ',h1,h2⟩:=he;exact fin γ' H' ρ' h1 h2
   | exit id=>obtain⟨γ',H',ρ',h1,h2⟩:=he;exact h2.elim
   | goto l=>exact he.elim
   | outgrown=>exact he.elim
   | panic ch =>
    obtain⟨γ',H',c,v,rfl,hext,hst,hk,hrep,⟨H'',hsub,hq⟩,_,_,_,hdf⟩:=he
    obtain⟨bs,hbs,hnd,_,hbk⟩:=hdf.eq
    show LeavesInM Fence.wide 0 P fn a'.tmps _ a'.defers _ w'
    rw[hbs,show (Fx.marks af.N w.heap.size).D=[] from rfl,List.append_nil]
    refine Yg (γ:=γ') (by simp) bs w' H' hnd (fun b hb=>(hbk b hb).2) hst fun w2 he hs2=>?_
    exact⟨γ',H'',.pan c,hext.trans he (old H' bs hbk),hsub.st _ _ hs2,fun b hb=>hk b (hsub.keys b hb),⟨v,rfl,hrep.mono he.mono⟩,hq⟩
def zz (P:Program) (f:FuncId) (args:List AV) (r:AV):Prop:=zt P f args zb.emp fun e H'=>e=.ret r∧H'=zb.emp
theorem Y3 (H:zb):zb.union zb.emp H=H:=by funext n;simp[zb.union,zb.emp]
theorem Ti (H:zb):zb.Disj zb.emp H:=fun _=>.inl rfl
theorem zz.use {P:Program} {f:FuncId} {args:List AV} {r:AV} (h:zz P f args r) {H:zb} {K KP:AV→zb→Prop} (hk:K r H):zt P f args H (WQ K KP):=by
 have:=h.frame (Ti H)
 rw[Y3] at this
 refine this.mono fun e H' ⟨A',⟨he,hA⟩,_,hH⟩=>?_
 subst he;subst hA;subst hH
 rw[Y3]
 exact hk
theorem zt.strip {P:Program} {f:FuncId} {args:List AV} {H:zb} {Q:zZ→zb→Prop} (h:zt P f args H fun e H'=>match e with|.ret v=>Q (.ret v.strip) H'|.pan v=>Q (.pan v) H'):zt P f args H Q :=
 fun γ w vs ht hs hv=>(h γ w vs ht hs hv).mono fun e w' ⟨γ',H',r,a,b,c,d,q⟩=>by
  cases r with
  | ret v =>
   refine⟨γ',H',.ret v.strip,a,b,c,?_,q⟩
   cases e with
   | returned u=>exact Rep.strip d
   | panicked ch=>exact d
   | outgrown=>exact d
  | pan v=>exact⟨γ',H',.pan v,a,b,c,d,q⟩
def Rh (r:AV):zZ→zb→Prop
 | .ret v,H=>v.strip=r∧H=zb.emp
 | .pan _,_=>False
theorem zz.of_fn {P:Program} {f:FuncId} (af:zf) (hc:za P f af=true) {args:List AV} {r:AV} (hnp:args.length≤af.np)
  (h:Yr P (Xx (Rh r)) af.body (YE af.res (Rh r)) (zd (zX 0 args)) zb.emp):zz P f args r:=by
 unfold zz
 refine zt.strip ((zt.of_fn af hc hnp h).mono fun e H' hq=>?_)
 cases e with
 | ret v=>exact⟨by rw[hq.1],hq.2⟩
 | pan v=>exact hq.elim
theorem SD {res:List XL} {r:AV} {e:zP} {ρ:Env} {H:zb} (he:∀ i,e≠.exit i) (h:∃ ws,yl ρ H res=some ws∧(zL ws).strip=r):YE res (Rh r) e ρ H:=by
 obtain⟨ws,h1,h2⟩:=h
 cases e with
 | exit i=>exact absurd rfl (he i)
 | normal=>simp only[YE,h1];exact⟨zb.emp,Yt.of_sub fun b o hb=>by simp[zb.emp] at hb,h2,rfl⟩
 | ret=>simp only[YE,h1];exact⟨zb.emp,Yt.of_sub fun b o hb=>by simp[zb.emp] at hb,h2,rfl⟩
def RK (x:Option zg):List yQ:=match x with|some x=>entry x|none=>[]
theorem TI (d:Option Nat) (g:Option (Nat×Bool)) (op:z6) (c:List Nat):RK (some ⟨d,g,op,c⟩)=match d with|some d=>[(d,g,op)]|none=>[]:=by cases d<;>rfl
inductive Fr where
 | code (b:AC)
 | blk (id:Nat)
 | rep (keep:List Nat) (J:Env→zb→Prop)
def D (P:Program) (KP:AV→zb→Prop) (Q:zP→Env→zb→Prop):List Fr→zP→Env→zb→Prop
 | []=>Q
 | .code b::st=>Vq (Yr P KP b (D P KP Q st)) (D P KP Q st)
 | .blk id::st=>ZH id (D P KP Q st)
 | .rep keep J::st=>Vq (fun ρ H=>J (ρ.keep keep) H) (D P KP Q st)
def goC (P:Program) (KP:AV→zb→Prop) (Q:zP→Env→zb→Prop) (c:AC) (st:List Fr) (ρ:Env) (H:zb):Prop:=Yr P KP c (D P KP Q st) ρ H
def Ph (P:Program) (KP:AV→zb→Prop) (Q:zP→Env→zb→Prop) (st:List Fr) (ρ:Env) (H:zb):Prop:=D P KP Q st .normal ρ H
def Tx (P:Program) (KP:AV→zb→Prop) (Q:zP→Env→zb→Prop) (e:zP) (st:List Fr) (ρ:Env) (H:zb):Prop:=D P KP Q st e ρ H
def Su (P:Program) (KP:AV→zb→Prop) (Q:zP→Env→zb→Prop) (all l:List zg) (st:List Fr) (ρ:Env) (H:zb):Prop :=
 zO P KP (l.map fun it=>(it,Yu all it.chk)) ρ H (fun ρ' H'=>D P KP Q st .normal ρ' H')
def XN (P:Program) (KP:AV→zb→Prop) (Q:zP→Env→zb→Prop) (all l:List zg) (st:List Fr) (R:List yQ) (ρ:Env) (H:zb):Prop :=
 yg ρ H R∧Su P KP Q all l st ρ H
def PI (P:Program) (KP:AV→zb→Prop) (Q:zP→Env→zb→Prop) (all l:List zg) (st:List Fr) (g:AV) (want:Bool) (d:Option Nat) (op:z6) (R:List yQ) (ρ:Env) (H:zb):Prop :=
 match g with
 | .bool b=>if b==want then Zr P KP op ρ H (fun v H'=>XN P KP Q all l st R (ρ.set d v) H') else Su P KP Q all l st (ρ.set d (.tup [])) H
 | .tup []=>Su P KP Q all l st (ρ.set d (.tup [])) H
 | _=>False
def yD (P:Program) (KP:AV→zb→Prop) (Q:zP→Env→zb→Prop) (all l:List zg) (st:List Fr) (d:Option Nat) (op:z6) (R:List yQ) (ρ:Env) (H:zb):Prop :=
 Zr P KP op ρ H (fun v H'=>XN P KP Q all l st R (ρ.set d v) H')
def ZW (P:Program) (KP:AV→zb→Prop) (Q:zP→Env→zb→Prop) (all l:List zg) (st:List Fr) (d:Option Nat) (ρ:Env) (H:zb) (v:Option AV):Prop :=
 match v with
 | some v=>Su P KP Q all l st (ρ.set d v) H
 | none=>False
def OS (P:Program) (KP:AV→zb→Prop) (Q:zP→Env→zb→Prop) (all l:List zg) (st:List Fr) (d:Option Nat) (R:List yQ) (ρ:Env) (f:FuncId) (args:List AV) (H:zb):Prop :=
 zt P f args H (WQ (fun v H'=>XN P KP Q all l st R (ρ.set d v) H') KP)
def QU (P:Program) (KP:AV→zb→Prop) (Q:zP→Env→zb→Prop) (all l:List zg) (st:List Fr) (d:Option Nat) (R:List yQ) (ρ:Env) (H:zb) (op:z6) (x:Option yf):Prop :=
 match x with
 | some x=>∀ b,H b=none→XN P KP Q all l st R (ρ.set d (ZC ρ b op)) (H.upd b x)
 | none=>Yo H
def OQ (P:Program) (KP:AV→zb→Prop) (Q:zP→Env→zb→Prop) (all l:List zg) (st:List Fr) (d:Option Nat) (R:List yQ) (ρ:Env) (sz bytes:Nat) (x y:AV) (H:zb):Prop :=
 UA sz bytes x y H (fun v H'=>XN P KP Q all l st R (ρ.set d v) H')
def NQ (P:Program) (KP:AV→zb→Prop) (Q:zP→Env→zb→Prop) (all l:List zg) (st:List Fr) (d:Option Nat) (R:List yQ) (ρ:Env) (n:Nat) (x:AV) (y:List AV) (bx:Bool) (H:zb):Prop :=
 match x with
 | .ptr b off=>match H b with
  | some (.cells cs)=>y.length=n∧off+n≤cs.length∧bx=true∧XN P KP Q all l st R (ρ.set d (.tup [])) (H.upd b (.cells (splice cs off y)))
  | _=>False
 | _=>False
def NV (P:Program) (KP:AV→zb→Prop) (Q:zP→Env→zb→Prop) (c:AV) (t e:AC) (st:List Fr) (ρ:Env) (H:zb):Prop :=
 Th c (goC P KP Q t st ρ H) (goC P KP Q e st ρ H)
def MK (P:Program) (KP:AV→zb→Prop) (Q:zP→Env→zb→Prop) (keep:List Nat) (a b:AC) (st:List Fr) (ρ:Env) (H:zb):Prop:=goC P KP Q (.join keep a b) st ρ H
def Mi (P:Program) (KP:AV→zb→Prop) (Q:zP→Env→zb→Prop) (keep:List Nat) (b:AC) (st:List Fr) (ρ:Env) (H:zb):Prop:=goC P KP Q (.loop keep b) st ρ H
section
variable {P:Program} {KP:AV→zb→Prop} {Q:zP→Env→zb→Prop} {st:List Fr} {ρ:Env} {H:zb}
theorem go_skip:goC P KP Q .skip st ρ H=Ph P KP Q st ρ H:=rfl
theorem PN (a b:AC):goC P KP Q (.seq a b) st ρ H=goC P KP Q a (.code b::st) ρ H:=rfl
theorem Qo (keep:List Nat) (a b:AC):goC P KP Q (.join keep a b) st ρ H=MK P KP Q keep a b st ρ H:=rfl
theorem PQ (c:List Nat) (l:List zg):goC P KP Q (.reg c l) st ρ H=Su P KP Q l l st ρ H:=rfl
theorem Pi (a b:AC):goC P KP Q (.both a b) st ρ H=(goC P KP Q a st ρ H∧goC P KP Q b st ρ H):=rfl
theorem QP (c:zu) (t e:AC):goC P KP Q (.cond c t e) st ρ H=NV P KP Q (c.ev ρ) t e st ρ H:=rfl
theorem S7 (id:Nat) (b:AC):goC P KP Q (.block id b) st ρ H=goC P KP Q b (.blk id::st) ρ H:=rfl
theorem RZ (b:AC):goC P KP Q (.scope b) st ρ H=goC P KP Q b st ρ H:=rfl
theorem Qq (id:Nat):goC P KP Q (.exit id) st ρ H=Tx P KP Q (.exit id) st ρ H:=rfl
theorem go_ret:goC P KP Q .ret st ρ H=Tx P KP Q .ret st ρ H:=rfl
theorem go_loop (keep:List Nat) (b:AC):goC P KP Q (.loop keep b) st ρ H=Mi P KP Q keep b st ρ H:=rfl
theorem Ry (b:AC):Ph P KP Q (.code b::st) ρ H=goC P KP Q b st ρ H:=rfl
theorem QF (id:Nat):Ph P KP Q (.blk id::st) ρ H=Ph P KP Q st ρ H:=rfl
theorem Pf (keep:List Nat) (J:Env→zb→Prop):Ph P KP Q (.rep keep J::st) ρ H=J (ρ.keep keep) H:=rfl
theorem QA:Ph P KP Q [] ρ H=Q .normal ρ H:=rfl
theorem Qp (e:zP):Tx P KP Q e [] ρ H=Q e ρ H:=rfl
theorem UO (b:AC):Tx P KP Q .ret (.code b::st) ρ H=Tx P KP Q .ret st ρ H:=rfl
theorem Tg (id:Nat):Tx P KP Q .ret (.blk id::st) ρ H=Tx P KP Q .ret st ρ H:=rfl
theorem U1 (keep:List Nat) (J:Env→zb→Prop):Tx P KP Q .ret (.rep keep J::st) ρ H=Tx P KP Q .ret st ρ H:=rfl
theorem VH (i:Nat) (b:AC):Tx P KP Q (.exit i) (.code b::st) ρ H=Tx P KP Q (.exit i) st ρ H:=rfl
theorem UG (i id:Nat):Tx P KP Q (.exit i) (.blk id::st) ρ H=if i=id then Ph P KP Q st ρ H else Tx P KP Q (.exit i) st ρ H:=by
 simp only[Tx,Ph,D,ZH];split<;>rfl
theorem US (i:Nat) (keep:List Nat) (J:Env→zb→Prop):Tx P KP Q (.exit i) (.rep keep J::st) ρ H=Tx P KP Q (.exit i) st ρ H:=rfl
variable {all l:List zg} {d:Option Nat} {R:List yQ}
theorem Pa:Su P KP Q all [] st ρ H=Ph P KP Q st ρ H:=rfl
theorem Qi (op:z6) (c:List Nat):Su P KP Q all (⟨d,none,op,c⟩::l) st ρ H=yD P KP Q all l st d op (Yu all c) ρ H:=rfl
theorem SE (s:Nat) (w:Bool) (op:z6) (c:List Nat):Su P KP Q all (⟨d,some (s,w),op,c⟩::l) st ρ H=PI P KP Q all l st (ρ s) w d op (Yu all c) ρ H:=by
 simp only[Su,List.map_cons,zO,yn,gv,PI]
 cases hx:ρ s<;>try rfl
 ·rename_i b
  cases b<;>cases w<;>rfl
 ·rename_i vs
  cases vs<;>rfl
theorem Uw:XN P KP Q all l st [] ρ H=Su P KP Q all l st ρ H:=by simp[XN,yg]
theorem Sx (items:List zg):Yu items []=[]:=rfl
theorem OP (op:z6):PI P KP Q all l st (.bool true) true d op R ρ H=yD P KP Q all l st d op R ρ H:=rfl
theorem P3 (op:z6):PI P KP Q all l st (.bool false) false d op R ρ H=yD P KP Q all l st d op R ρ H:=rfl
theorem OA (op:z6):PI P KP Q all l st (.bool true) false d op R ρ H=Su P KP Q all l st (ρ.set d (.tup [])) H:=rfl
theorem OI (op:z6):PI P KP Q all l st (.bool false) true d op R ρ H=Su P KP Q all l st (ρ.set d (.tup [])) H:=rfl
theorem P0 (w:Bool) (op:z6):PI P KP Q all l st (.tup []) w d op R ρ H=Su P KP Q all l st (ρ.set d (.tup [])) H:=rfl
theorem zA (op:z6) (h:op.cls=.pure):yD P KP Q all l st d op [] ρ H=ZW P KP Q all l st d ρ H (zY ρ op):=by
 simp only[yD,Zr,h,ZW]
 cases zY ρ op with
 | none=>rfl
 | some v=>simp only[Uw]
theorem W6 (op:z6) (h:op.cls=.read):yD P KP Q all l st d op [] ρ H=ZW P KP Q all l st d ρ H (rev ρ H op):=by
 simp only[yD,Zr,h,ZW]
 cases rev ρ H op with
 | none=>rfl
 | some v=>simp only[Uw]
theorem Qg (v:AV):ZW P KP Q all l st d ρ H (some v)=Su P KP Q all l st (ρ.set d v) H:=rfl
theorem Zv (op:z6) (h:op.cls=.alloc):yD P KP Q all l st d op R ρ H=QU P KP Q all l st d R ρ H op (ZN ρ op):=by
 simp only[yD,Zr,h,QU]
 cases ZN ρ op<;>rfl
theorem Mg (x:zu):yD P KP Q all l st d (.mv x) [] ρ H=ZW P KP Q all l st d ρ H (zY ρ (.mv x)):=zA _ rfl
theorem OB (c a b:zu):yD P KP Q all l st d (.pick c a b) [] ρ H=ZW P KP Q all l st d ρ H (zY ρ (.pick c a b)):=zA _ rfl
theorem RC (x:zu):yD P KP Q all l st d (.nilchk x) [] ρ H=ZW P KP Q all l st d ρ H (zY ρ (.nilchk x)):=zA _ rfl
theorem Ma (o:BinOp) (k:IntKind) (x y:zu):yD P KP Q all l st d (.bi o k x y) [] ρ H=ZW P KP Q all l st d ρ H (zY ρ (.bi o k x y)):=zA _ rfl
theorem NC (o:BinOp) (x y:zu):yD P KP Q all l st d (.shf o x y) [] ρ H=ZW P KP Q all l st d ρ H (zY ρ (.shf o x y)):=zA _ rfl
theorem NY (o:BinOp) (x y:zu):yD P KP Q all l st d (.bs o x y) [] ρ H=ZW P KP Q all l st d ρ H (zY ρ (.bs o x y)):=zA _ rfl
theorem Mw (neg:Bool) (x y:zu):yD P KP Q all l st d (.bb neg x y) [] ρ H=ZW P KP Q all l st d ρ H (zY ρ (.bb neg x y)):=zA _ rfl
theorem Nf (neg:Bool) (ks:List K1) (x y:zu):yD P KP Q all l st d (.eqa neg ks x y) [] ρ H=ZW P KP Q all l st d ρ H (zY ρ (.eqa neg ks x y)):=zA _ rfl
theorem QB (nk:NK) (x:zu):yD P KP Q all l st d (.isnil nk x) [] ρ H=ZW P KP Q all l st d ρ H (zY ρ (.isnil nk x)):=zA _ rfl
theorem Ou (nk:NK) (x:zu):yD P KP Q all l st d (.isnn nk x) [] ρ H=ZW P KP Q all l st d ρ H (zY ρ (.isnn nk x)):=zA _ rfl
theorem PL (x:zu):yD P KP Q all l st d (.ineg x) [] ρ H=ZW P KP Q all l st d ρ H (zY ρ (.ineg x)):=zA _ rfl
theorem QV (neg:Bool) (x:zu):yD P KP Q all l st d (.ifnil neg x) [] ρ H=ZW P KP Q all l st d ρ H (zY ρ (.ifnil neg x)):=zA _ rfl
theorem O0 (t:TypeId) (z:AV) (x:zu):yD P KP Q all l st d (.tas t z x) [] ρ H=ZW P KP Q all l st d ρ H (zY ρ (.tas t z x)):=zA _ rfl
theorem No (x:zu):yD P KP Q all l st d (.not x) [] ρ H=ZW P KP Q all l st d ρ H (zY ρ (.not x)):=zA _ rfl
theorem Nx (k:IntKind) (x:zu):yD P KP Q all l st d (.cvi k x) [] ρ H=ZW P KP Q all l st d ρ H (zY ρ (.cvi k x)):=zA _ rfl
theorem PE (x:zu):yD P KP Q all l st d (.cvid x) [] ρ H=ZW P KP Q all l st d ρ H (zY ρ (.cvid x)):=zA _ rfl
theorem Q4 (x:zu):yD P KP Q all l st d (.cvb2s x) [] ρ H=ZW P KP Q all l st d ρ H (zY ρ (.cvb2s x)):=zA _ rfl
theorem Nz (zero:List AV) (parts:List (Nat×Nat×zu)):yD P KP Q all l st d (.bld zero parts) [] ρ H=ZW P KP Q all l st d ρ H (zY ρ (.bld zero parts)):=zA _ rfl
theorem PG (sz len:Nat) (zero:List AV) (parts:List (Nat×zu)):yD P KP Q all l st d (.bls2 sz len zero parts) [] ρ H=ZW P KP Q all l st d ρ H (zY ρ (.bls2 sz len zero parts)):=zA _ rfl
theorem O6 (sz len:Nat) (zero:List AV) (parts:List (Nat×zu)):yD P KP Q all l st d (.bls sz len zero parts) [] ρ H=ZW P KP Q all l st d ρ H (zY ρ (.bls sz len zero parts)):=zA _ rfl
theorem Om (f:FuncId) (first caps:List zu):yD P KP Q all l st d (.mkfn f first caps) [] ρ H=ZW P KP Q all l st d ρ H (zY ρ (.mkfn f first caps)):=zA _ rfl
theorem OZ (x:zu) (i:Nat):yD P KP Q all l st d (.ext x i) [] ρ H=ZW P KP Q all l st d ρ H (zY ρ (.ext x i)):=zA _ rfl
theorem Nh (t:TypeId) (x:zu):yD P KP Q all l st d (.mki t x) [] ρ H=ZW P KP Q all l st d ρ H (zY ρ (.mki t x)):=zA _ rfl
theorem Mt (off:Nat) (x:zu):yD P KP Q all l st d (.fa off x) [] ρ H=ZW P KP Q all l st d ρ H (zY ρ (.fa off x)):=zA _ rfl
theorem Nk (off n:Nat) (ag:Bool) (x:zu):yD P KP Q all l st d (.fld off n ag x) [] ρ H=ZW P KP Q all l st d ρ H (zY ρ (.fld off n ag x)):=zA _ rfl
theorem NG (n sz:Nat) (x i:zu):yD P KP Q all l st d (.iar n sz x i) [] ρ H=ZW P KP Q all l st d ρ H (zY ρ (.iar n sz x i)):=zA _ rfl
theorem Mr (sz:Nat) (x i:zu):yD P KP Q all l st d (.ia sz x i) [] ρ H=ZW P KP Q all l st d ρ H (zY ρ (.ia sz x i)):=zA _ rfl
theorem Na (x i:zu):yD P KP Q all l st d (.ixs x i) [] ρ H=ZW P KP Q all l st d ρ H (zY ρ (.ixs x i)):=zA _ rfl
theorem Ns (x:zu) (lo hi:Option zu):yD P KP Q all l st d (.sls x lo hi) [] ρ H=ZW P KP Q all l st d ρ H (zY ρ (.sls x lo hi)):=zA _ rfl
theorem OU (sz:Nat) (x:zu) (lo hi mx:Option zu):yD P KP Q all l st d (.sll sz x lo hi mx) [] ρ H=ZW P KP Q all l st d ρ H (zY ρ (.sll sz x lo hi mx)):=zA _ rfl
theorem Ow (n:Nat) (x hi:zu):yD P KP Q all l st d (.slar n x hi) [] ρ H=ZW P KP Q all l st d ρ H (zY ρ (.slar n x hi)):=zA _ rfl
theorem PK (sz:Nat) (x hi:zu):yD P KP Q all l st d (.sllx sz x hi) [] ρ H=ZW P KP Q all l st d ρ H (zY ρ (.sllx sz x hi)):=zA _ rfl
theorem Nn (x:zu):yD P KP Q all l st d (.len x) [] ρ H=ZW P KP Q all l st d ρ H (zY ρ (.len x)):=zA _ rfl
theorem PU (x:zu):yD P KP Q all l st d (.lens x) [] ρ H=ZW P KP Q all l st d ρ H (zY ρ (.lens x)):=zA _ rfl
theorem NZ (mx:Bool) (x:zu) (ys:List zu):yD P KP Q all l st d (.mm mx x ys) [] ρ H=ZW P KP Q all l st d ρ H (zY ρ (.mm mx x ys)):=zA _ rfl
theorem P1 (x:zu):yD P KP Q all l st d (.boxv x) [] ρ H=ZW P KP Q all l st d ρ H (zY ρ (.boxv x)):=zA _ rfl
theorem Mq (n:Nat) (ag:Bool) (x:zu):yD P KP Q all l st d (.ld n ag x) [] ρ H=ZW P KP Q all l st d ρ H (rev ρ H (.ld n ag x)):=W6 _ rfl
theorem Nr (kt:KT) (zero:AV) (ok:Bool) (m k:zu):yD P KP Q all l st d (.lkp kt zero ok m k) [] ρ H=ZW P KP Q all l st d ρ H (rev ρ H (.lkp kt zero ok m k)):=W6 _ rfl
theorem OK (x:zu):yD P KP Q all l st d (.lenm x) [] ρ H=ZW P KP Q all l st d ρ H (rev ρ H (.lenm x)):=W6 _ rfl
theorem QN (zero:List AV):yD P KP Q all l st d (.alloc zero) R ρ H=QU P KP Q all l st d R ρ H (.alloc zero) (ZN ρ (.alloc zero)):=Zv _ rfl
theorem Nt (x:zu):yD P KP Q all l st d (.box x) R ρ H=QU P KP Q all l st d R ρ H (.box x) (ZN ρ (.box x)):=Zv _ rfl
theorem OX (kt:KT):yD P KP Q all l st d (.mkm kt) R ρ H=QU P KP Q all l st d R ρ H (.mkm kt) (ZN ρ (.mkm kt)):=Zv _ rfl
theorem OW (sz bytes:Nat) (n:zu):yD P KP Q all l st d (.mks sz bytes n) R ρ H=QU P KP Q all l st d R ρ H (.mks sz bytes n) (ZN ρ (.mks sz bytes n)):=Zv _ rfl
theorem Of (zero:List AV) (bytes:Nat) (n:zu):yD P KP Q all l st d (.mksn zero bytes n) R ρ H=QU P KP Q all l st d R ρ H (.mksn zero bytes n) (ZN ρ (.mksn zero bytes n)):=Zv _ rfl
theorem TB (items:List zg) (k:Nat) (ks:List Nat):Yu items (k::ks)=RK items[k]?++Yu items ks:=by
 simp only[Yu,List.flatMap_cons,RK]<;>rfl
theorem RA (n:Nat) (o:z6):XN P KP Q all l st ((n,none,o)::R) ρ H=(rev ρ H o=some (ρ n)∧XN P KP Q all l st R ρ H):=by
 simp[XN,yg,gv,and_assoc]
theorem Rq (n s:Nat) (w:Bool) (o:z6):XN P KP Q all l st ((n,some (s,w),o)::R) ρ H=((gv (some (s,w)) ρ=some true→rev ρ H o=some (ρ n))∧XN P KP Q all l st R ρ H):=by
 simp[XN,yg,and_assoc]
theorem z7 {op:z6} {x:yf} (h:∀ b,H b=none→XN P KP Q all l st R (ρ.set d (ZC ρ b op)) (H.upd b x)):QU P KP Q all l st d R ρ H op (some x):=h
theorem OL (f:FuncId) (args:List zu):yD P KP Q all l st d (.call f args) R ρ H=OS P KP Q all l st d R ρ f (args.map (zu.ev ρ)) H:=rfl
theorem NP (sz bytes:Nat) (x y:zu):yD P KP Q all l st d (.app sz bytes x y) R ρ H=OQ P KP Q all l st d R ρ sz bytes (x.ev ρ) (y.ev ρ) H:=rfl
theorem N1 (n:Nat) (x y:zu):yD P KP Q all l st d (.st n x y) R ρ H=NQ P KP Q all l st d R ρ n (x.ev ρ) (y.ev ρ).cells (y.ev ρ).boxable H:=by
 simp only[yD,Zr,z6.cls,eff,NQ]
 cases x.ev ρ<;>rfl
def goT (P:Program) (KP:AV→zb→Prop) (Q:zP→Env→zb→Prop) (all l:List zg) (st:List Fr) (d:Option Nat) (R:List yQ) (ρ:Env) (n b off:Nat) (y:List AV) (bx:Bool) (H:zb) (o:Option yf):Prop :=
 match o with
 | some (.cells cs)=>y.length=n∧off+n≤cs.length∧bx=true∧XN P KP Q all l st R (ρ.set d (.tup [])) (H.upd b (.cells (splice cs off y)))
 | _=>False
theorem QH {b off n:Nat} {y:List AV} {bx:Bool}:NQ P KP Q all l st d R ρ n (.ptr b off) y bx H=goT P KP Q all l st d R ρ n b off y bx H (H b):=by
 simp only[NQ,goT]
theorem SA {b off n:Nat} {y cs:List AV} {bx:Bool}:goT P KP Q all l st d R ρ n b off y bx H (some (.cells cs))=(y.length=n∧off+n≤cs.length∧bx=true∧XN P KP Q all l st R (ρ.set d (.tup [])) (H.upd b (.cells (splice cs off y)))):=rfl
theorem zq {f:FuncId} {args:List AV} {r:AV} (h:zz P f args r) (hk:XN P KP Q all l st R (ρ.set d r) H):OS P KP Q all l st d R ρ f args H:=h.use hk
theorem V2 {f:FuncId} {args:List AV} {X:zZ→zb→Prop} (h:zt P f args H X) (hk:∀ e H',X e H'→WQ (fun v H'=>XN P KP Q all l st R (ρ.set d v) H') KP e H'):OS P KP Q all l st d R ρ f args H:=h.mono hk
theorem NJ (t e:AC):NV P KP Q (.bool true) t e st ρ H=goC P KP Q t st ρ H:=rfl
theorem Nl (t e:AC):NV P KP Q (.bool false) t e st ρ H=goC P KP Q e st ρ H:=rfl
theorem W8 {p:Prop} {t e:AC} (h1:p→goC P KP Q t st ρ H) (h2:goC P KP Q e st ρ H):NV P KP Q (.ubool p) t e st ρ H:=⟨h1,h2⟩
theorem Rf {keep:List Nat} {b:AC} (I:Nat→Env→zb→Prop) (n0:Nat) (h0:I n0 (ρ.keep keep) H)
  (hr:∀ n ρ H (J:Env→zb→Prop),I n ρ H→(∀ m ρ' H',m<n→I m ρ' H'→J ρ' H')→goC P KP Q b (.rep keep J::st) ρ H):Mi P KP Q keep b st ρ H:=by
 refine⟨I,⟨n0,h0⟩,fun n ρ H hI=>?_⟩
 exact hr n ρ H (fun ρ' H'=>∃ m,m<n∧I m ρ' H') hI fun m ρ' H' hm hi=>⟨m,hm,hi⟩
end
theorem upd_same (H:zb) (b:Nat) (o:yf):(H.upd b o) b=some o:=by simp[zb.upd]
theorem upd_ne {H:zb} {b c:Nat} {o:yf} (h:c≠b):(H.upd b o) c=H c:=by simp[zb.upd,h]
theorem Sl (H:zb) (b:Nat) (o o':yf):(H.upd b o).upd b o'=H.upd b o':=by funext c;simp only[zb.upd];split<;>rfl
def VT (ρ:Env):List Nat→List (Nat×AV)
 | []=>[]
 | n::l=>(n,ρ n)::VT ρ l
theorem SX (ρ:Env):VT ρ []=[]:=rfl
theorem TM (ρ:Env) (n:Nat) (l:List Nat):VT ρ (n::l)=(n,ρ n)::VT ρ l:=rfl
theorem keep_eq (ρ:Env) (l:List Nat):ρ.keep l=zd (VT ρ l):=by
 unfold Env.keep
 congr 1
 induction l with
 | nil=>rfl
 | cons n l ih=>simp[VT,ih]
theorem QT (ρ:Env):[].map (zu.ev ρ)=[]:=rfl
theorem R4 (ρ:Env) (x:zu) (xs:List zu):(x::xs).map (zu.ev ρ)=x.ev ρ::xs.map (zu.ev ρ):=rfl
theorem NF (a b:Prop):(if True then a else b)=a:=if_pos trivial
theorem NH (a b:Prop):(if False then a else b)=b:=if_neg id
theorem Nw (a b:Option AV):(if True then a else b)=a:=if_pos trivial
theorem OV (a b:Option AV):(if False then a else b)=b:=if_neg id
theorem Nb (a b:AV):(if True then a else b)=a:=if_pos trivial
theorem Np (a b:AV):(if False then a else b)=b:=if_neg id
theorem RG (ρ:Env) (c:AV):ρ.set none c=ρ:=rfl
theorem Rj (l:List (Nat×AV)) (d:Nat) (c:AV):(zd l).set (some d) c=zd ((d,c)::l):=rfl
theorem SF (n:Nat):zd [] n=.any:=rfl
theorem Mm (ρ:Env) (n:Nat):(zu.t n).ev ρ=ρ n:=rfl
theorem Me (ρ:Env) (c:AV):(zu.k c).ev ρ=c:=rfl
theorem Mo (a b:Int):(a==b)=decide (a=b):=rfl
theorem Mf (a b:Int):(a != b)=decide (a≠b):=by rw[decide_not];rfl
theorem Ml (a b:List UInt8):(a==b)=decide (a=b):=by by_cases h:a=b<;>simp[h]
def PZ (S:AV→AV) (P:Program) (KP:AV→zb→Prop) (Q:zP→Env→zb→Prop) (all l:List zg) (st:List Fr) (d:Option Nat) (R:List yQ) (ρ:Env) (sz bytes:Nat) (zero:List AV) (x y:AV) (H:zb):Prop :=
 W2 S sz bytes zero x y H (fun v H'=>XN P KP Q all l st R (ρ.set d v) H')
def Mk (P:Program) (KP:AV→zb→Prop) (Q:zP→Env→zb→Prop) (all l:List zg) (st:List Fr) (d:Option Nat) (R:List yQ) (ρ:Env) (sz:Nat) (x:AV) (H:zb):Prop :=
 WG sz x H (fun v H'=>XN P KP Q all l st R (ρ.set d v) H')
section
variable {P:Program} {KP:AV→zb→Prop} {Q:zP→Env→zb→Prop} {st:List Fr} {ρ:Env} {H:zb} {all l:List zg} {d:Option Nat} {R:List yQ}
theorem OJ (sz bytes:Nat) (zero:List AV) (x y:zu):yD P KP Q all l st d (.appm sz bytes zero x y) R ρ H=PZ AV.strip1 P KP Q all l st d R ρ sz bytes zero (x.ev ρ) (y.ev ρ) H:=rfl
theorem Qx (sz bytes:Nat) (zero:List AV) (x y:zu):yD P KP Q all l st d (.appm2 sz bytes zero x y) R ρ H=PZ AV.strip2 P KP Q all l st d R ρ sz bytes zero (x.ev ρ) (y.ev ρ) H:=rfl
theorem ND (sz:Nat) (x:zu):yD P KP Q all l st d (.frz sz x) R ρ H=Mk P KP Q all l st d R ρ sz (x.ev ρ) H:=rfl
theorem Ot (sz n:Nat) (zero:List AV) (qs:List (Nat×zu)):yD P KP Q all l st d (.blsm sz n zero qs) R ρ H=QU P KP Q all l st d R ρ H (.blsm sz n zero qs) (ZN ρ (.blsm sz n zero qs)):=Zv _ rfl
theorem UW {S:AV→AV} {sz bytes:Nat} {zero:List AV} {o2:Own} {ys:List (List AV)} (hz:zero.length=sz) (h1:ys.length*bytes≤140737488355328) (h2:ys.length≤maxLen) (h3:ys=[]→XN P KP Q all l st R (ρ.set d (.sl .nil sz [])) H)
 (h4:ys≠[]→∀ b cap,H b=none→ys.length≤cap→cap≤maxLen→XN P KP Q all l st R (ρ.set d (.ms b 0 ys.length cap)) (H.upd b (.cells (ys.flatten.map S++yL zero (cap-ys.length))))) :
 PZ S P KP Q all l st d R ρ sz bytes zero (.sl .nil sz []) (.sl o2 sz ys) H:=⟨rfl,hz,rfl,rfl,h1,h2,h3,h4⟩
theorem ON {sz b off len cap:Nat} {cs:List AV} (hb:H b=some (.cells cs)) (hz:0<sz) (h1:off+len*sz≤cs.length) (h2:XN P KP Q all l st R (ρ.set d (.sl .no sz (ZT sz len (cs.drop off)))) (H.del b)):Mk P KP Q all l st d R ρ sz (.ms b off len cap) H:=by
 simp only[Mk,WG,hb]
 exact⟨hz,h1,h2⟩
end
theorem zy {a b:Prop} (x:a) (y:b):a∧b:=⟨x,y⟩
def steps:=zy @go_skip<|zy @PN<|zy @Qo<|zy @PQ<|zy @Pi<|zy @QP<|zy @S7<|zy @RZ<|zy @Qq<|zy @go_ret<|zy @go_loop<|zy @Ry<|zy @QF<|zy @Pf<|zy @QA<|zy @Qp<|zy @UO<|zy @Tg<|zy @U1<|zy @VH<|zy @UG<|zy @US<|zy @Pa<|zy @Qi<|zy @SE<|zy @Uw<|zy @Sx<|zy @TB<|zy @TI<|zy @RA<|zy @Rq<|zy @OW<|zy @Of<|zy @OP<|zy @P3<|zy @OA<|zy @OI<|zy @P0<|zy @Qg<|zy @Mg<|zy @OB<|zy @RC<|zy @Ma<|zy @NC<|zy @NY<|zy @Mw<|zy @Nf<|zy @QB<|zy @Ou<|zy @PL<|zy @QV<|zy @O0<|zy @No<|zy @Nx<|zy @PE<|zy @Q4<|zy @Nz<|zy @O6<|zy @PG<|zy @Om<|zy @OZ<|zy @Nh<|zy @Mt<|zy @Nk<|zy @Mr<|zy @NG<|zy @Na<|zy @Ns<|zy @OJ<|zy @Qx<|zy @ND<|zy @Ot<|zy @OU<|zy @PK<|zy @Ow<|zy @Nn<|zy @PU<|zy @NZ<|zy @P1<|zy @Mq<|zy @Nr<|zy @OK<|zy @QN<|zy @Nt<|zy @OX<|zy @OL<|zy @NP<|zy @N1<|zy @QH<|zy @SA<|zy @NJ<|zy @Nl<|zy @keep_eq<|zy @RG<|zy @Rj<|zy @SF<|zy @TZ<|zy @Mm<|zy @Me<|zy @Mo<|zy @Mf<|zy @Ml<|zy @upd_same<|zy @Sl<|zy @R4<|zy @QT<|zy @TM<|zy @SX<|zy @NF<|zy @NH<|zy @Nw<|zy @OV<|zy @Nb<|zy @Np<|zy @and_self<|zy @true_and<|@and_true
theorem zz.go {P:Program} {f:FuncId} (af:zf) (hc:za P f af=true) {args:List AV} {r:AV} (hnp:args.length≤af.np)
  (h:∀ KP Q,(∀ e ρ H vs,(∀ i,e≠.exit i)→yl ρ H af.res=some vs→(zL vs).strip=r→Q e ρ H)→goC P KP Q af.body [] (zd (zX 0 args)) zb.emp):zz P f args r :=
 zz.of_fn af hc hnp (h _ _ fun e ρ H vs he hv hr=>SD he ⟨vs,hv,hr⟩)
def yI (H:zb) (o:Own) (n sz:Nat):Prop :=
 match o with
 | .no=>False
 | .nil=>n=0
 | .full=>True
 | .tip b d=>H b=some (.tip (d+n) sz)
def Kept (H:zb) (o:Own) (H':zb):Prop:=∀ b x,H b=some x→(∀ d,o≠.tip b d)→H' b=some x
def Ri (H:zb) (o o':Own):Prop:=∀ b d,o'=.tip b d→H b=none∨∃ d0,o=.tip b d0
theorem yI.nil (H:zb) (sz:Nat):yI H .nil 0 sz:=rfl
theorem yI.full (H:zb) (n sz:Nat):yI H .full n sz:=trivial
theorem ZR {P:Program} {KP:AV→zb→Prop} {Q:zP→Env→zb→Prop} {st:List Fr} {ρ:Env} {H:zb} {all l:List zg} {d:Option Nat} {R:List yQ} {sz bytes:Nat} {o o2:Own} {xs ys:List (List AV)}
  (how:yI H o xs.length sz) (h1:(xs.length+ys.length)*bytes≤140737488355328) (h2:xs.length+ys.length≤maxLen)
  (hk:∀ o' H',yI H' o' (xs.length+ys.length) sz→Kept H o H'→Ri H o o'→XN P KP Q all l st R (ρ.set d (.sl o' sz (xs++ys.map (·.map AV.strip1)))) H') :
  OQ P KP Q all l st d R ρ sz bytes (.sl o sz xs) (.sl o2 sz ys) H:=by
 refine⟨rfl,rfl,h1,h2,?_⟩
 cases o with
 | no=>exact how.elim
 | nil =>
  refine⟨fun hy=>?_,fun hy b hb=>hk _ _ (by simp[yI,zb.upd]) (fun c x hc hn=>?_) (fun c d' e=>?_)⟩
  ·subst hy
   have hx:xs=[]:=List.eq_nil_of_length_eq_zero how
   subst hx
   exact hk .nil H rfl (fun b x hb _=>hb) (fun b d' e=>by cases e)
  ·have hne:c≠b:=fun e=>by subst e;rw[hb] at hc;cases hc
   simp[zb.upd,hne,hc]
  ·cases e;exact .inl hb
 | full =>
  refine⟨fun hy=>?_,fun hy b hb=>hk _ _ (by simp[yI,zb.upd]) (fun c x hc hn=>?_) (fun c d' e=>?_)⟩
  ·subst hy
   have:=hk .full H trivial (fun b x hb _=>hb) (fun b d' e=>by cases e)
   simpa using this
  ·have hne:c≠b:=fun e=>by subst e;rw[hb] at hc;cases hc
   simp[zb.upd,hne,hc]
  ·cases e;exact .inl hb
 | tip b dr =>
  refine⟨how,fun b' dr' hb'=>hk _ _ (by simp[yI,zb.upd]) (fun c x hc hn=>?_) (fun c d' e=>?_)⟩
  ·have hcb:c≠b:=fun e=>by subst e;exact hn dr rfl
   have hcb':c≠b':=fun e=>by subst e;simp[zb.del,hcb,hc] at hb'
   simp[zb.upd,zb.del,hcb,hcb',hc]
  ·cases e
   by_cases hbb:b'=b
   ·subst hbb;exact .inr ⟨dr,rfl⟩
   ·left;simpa[zb.del,hbb] using hb'
theorem zt.go {P:Program} {f:FuncId} (af:zf) (hc:za P f af=true) {args:List AV} {H:zb} {R:AV→zb→Prop} (hnp:args.length≤af.np)
  (h:∀ KP Q,(∀ e ρ H1 H2 vs,(∀ i,e≠.exit i)→yl ρ H1 af.res=some vs→Yt H2 H1→R (zL vs).strip H2→Q e ρ H1)→goC P KP Q af.body [] (zd (zX 0 args)) H):zt P f args H (fun e H'=>∃ v,e=.ret v∧R v H'):=by
 refine zt.strip ((zt.of_fn (Q:=fun e H'=>match e with|.ret v=>R v.strip H'|.pan _=>False) af hc hnp (h _ _ fun e ρ H1 H2 vs he hv hs hr=>?_)).mono fun e H' hq=>?_)
 ·cases e with
  | exit i=>exact absurd rfl (he i)
  | normal=>simp only[YE,hv];exact⟨H2,hs,hr⟩
  | ret=>simp only[YE,hv];exact⟨H2,hs,hr⟩
 ·cases e with
  | ret v=>exact⟨_,rfl,hq⟩
  | pan v=>exact hq.elim
theorem yI.upd {H:zb} {o:Own} {n sz b:Nat} {x:yf} (h:yI H o n sz) (hb:H b=none):yI (H.upd b x) o n sz:=by
 cases o with
 | tip c d =>
  have hc:H c=some (.tip (d+n) sz):=h
  have hne:c≠b:=fun e=>by subst e;rw[hb] at hc;cases hc
  show (H.upd b x) c=_
  simp[zb.upd,hne,hc]
 | no=>exact h
 | nil=>exact h
 | full=>exact h
theorem Wi (c:AV) (cs:List AV) (v:AV) (vs:List AV):splice (c::cs) 0 (v::vs)=v::splice cs 0 vs:=by simp[splice]
theorem Wx (c:AV) (cs:List AV) (n:Nat) (vs:List AV):splice (c::cs) (n+1) vs=c::splice cs n vs:=by simp[splice,Nat.add_right_comm]
theorem Wq (cs:List AV):splice cs 0 []=cs:=by simp[splice]
open Go.ChangeAt Go.ChangeShapes Go.RowKit Go.WideElems Go.WideShapes
def Vn:Gh:=fun _=>.imm
section
variable {P:Program} {m:Nat} {t:TypeId}
theorem Z1 {γ:Gh} {w:World} {c:AV} {v:Value} (h:Rep γ w c v) (h1:v.oneCell'=true):zi γ w [c] [v] :=
 ⟨rfl,fun i u hu=>by cases i<;>simp at hu;subst hu;exact h1,fun i d u hd hu=>by cases i<;>simp at hd hu;subst hd;subst hu;exact h⟩
theorem addr_add_add (a:Addr) (x y:Nat):(a.add x).add y=a.add (x+y):=by
 unfold Addr.add
 by_cases hx:x=0
 ·subst hx;simp
 ·by_cases hy:y=0
  ·subst hy;simp[hx]
  ·simp[hx,hy,Nat.add_assoc]
theorem Wl {H:Type} {e:TypeId}:∀ {ds:List (DataW H)} {d:DataW H},d∈ds→∀ n∈d.weights P e,n∈DataW.weightsAll P e ds
 | x::ds,d,hd,n,hn=>by
  simp only[DataW.weightsAll,List.mem_append]
  rcases List.mem_cons.1 hd with rfl|hd
  ·exact .inl hn
  ·exact .inr (Wl hd n hn)
def Pj (P:Program) (t:TypeId):Option (List (Nat×TypeId)) :=
 match P.underlying t with
 | some (.struct fs)=>some (fs.toList.map fun f=>(f.offset,f.type))
 | _=>none
theorem Ud {P:Program} {t:TypeId} {l:List (Nat×TypeId)} (h:Pj P t=some l):∃ fs:Array Field,P.underlying t=some (.struct fs)∧fs.toList.map (fun f=>(f.offset,f.type))=l:=by
 unfold Pj at h
 split at h
 ·rename_i fs hf;simp only[zx] at h;exact⟨fs,hf,h⟩
 ·cases h
end
theorem V7 {P:Program} {W:World} {r:Reach} {b:Nat} {t:TypeId} {k:IntKind} {v:Value} (ht:P.underlying t=some (.int k)) (h:Value.okWide P W r b t v):∀ cs,v≠.agg cs:=fun cs e=>by
 subst e;simp[Value.okWide,Cell.okWide,Cell.ok,ht] at h
theorem SW {P:Program} {W:World} {r:Reach} {b:Nat} {t:TypeId} {v:Value} (ht:P.underlying t=some .string) (h:Value.okWide P W r b t v):∀ cs,v≠.agg cs:=fun cs e=>by
 subst e;simp[Value.okWide,Cell.okWide,Cell.ok,ht] at h
theorem isAgg {P:Program} {W:World} {r:Reach} {b:Nat} {t:TypeId} {v:Value} {l:List (Nat×TypeId)} (ht:Pj P t=some l) (h:Value.okWide P W r b t v):∃ cs,v=.agg cs:=by
 obtain⟨fs,hf,_⟩:=Ud ht
 simp only[Value.okWide,hf] at h
 obtain⟨cs,rfl,_⟩:=h
 exact⟨cs,rfl⟩
theorem sized {P:Program} {H:Type} {ts:List TypeId} {ds:List (DataW H)} (h:(DataW.weightsEach P ts ds).all (·≤reachBytes)=true) {j:Nat} {t:TypeId} {d:DataW H} (ht:ts[j]?=some t) (hd:ds[j]?=some d):∀ n∈d.weights P t,n≤reachBytes:=fun n hn=>by
 have:=Zn.1 h n (DataW.weights_mem_each ht hd n hn)
 simpa using this
theorem Xc {P:Program} {H:Type} {enc:TypeId×Value→H} (hl:laidOutB P=true) {W W':World} {sp':Nat→Bool}:∀ {ts:List TypeId} {vs:List Value} {ds:List (DataW H)} {ps:List MemPlace},
  (∀ t∈ts,P.readableRec t=true∧t<P.types.size)→DataW.TrodAll enc P W 0 (fun _=>true) true ts vs ds ps→(∀ p∈ps,W.sameAt W' p)→(∀ p∈ps,sp' p.block=true)→DataW.TrodAll enc P W' 0 sp' true ts vs ds ps
 | [],_,_,_,_,h,_,_=>by
  obtain⟨rfl,rfl,rfl⟩:=trodAll_nil h
  exact rfl
 | t::ts,_,_,_,hr,h,hs,hsp=>by
  obtain⟨v,vs1,d,ds1,a,b,rfl,rfl,rfl,h1,h2⟩:=trodAll_cons h
  exact⟨a,b,Trod_stays hl (hr t (Zc ..)).1 (hr t (Zc ..)).2 h1 (fun p hp=>hs p (Y8 _ hp)) (fun p hp=>hsp p (Y8 _ hp)),
   Xc hl (fun t ht=>hr t (ZL _ ht)) h2 (fun p hp=>hs p (List.mem_append_right _ hp)) (fun p hp=>hsp p (List.mem_append_right _ hp)),rfl⟩
theorem X2 {P:Program} {H:Type} {enc:TypeId×Value→H} {f:Func} {s:ChangeSpec} {apart fresh handsOn again:Bool} {W W':World} {args:Array Value} {v:Value} {ds gs:List (DataW H)} {before pa pv:List MemPlace}
  (hW:DataW.Whole enc P f.params.toList s.vars apart W args.toList ds gs before)
  (hres:∀(b:Nat) (sp:Nat→Bool) (hd:Bool),DataW.TrodAll enc P W' b sp hd f.resultTypes.toList (v.resultList f.resultTypes.size) (s.fn H (ds++gs)).results [])
  (hargs:∀ sp:Nat→Bool,(∀ p∈before,sp p.block=true)→DataW.TrodAll enc P W' 0 sp true f.params.toList args.toList (s.fn H (ds++gs)).args pa)
  (hvars:∀ sp:Nat→Bool,(∀ p∈before,sp p.block=true)→DataW.TrodVars enc P W' sp s.vars (s.fn H (ds++gs)).vars pv)
  (hps:before=pa++pv) (hk:W.keptBut W' (·∈before)) (hfz:∀ a,a.block<W.heap.size→W'.frozen? a=W.frozen? a)
  (hok:∀(j:Nat) (t:TypeId) (r:Value),f.resultTypes[j]?=some t→(v.resultList f.resultTypes.size)[j]?=some r→Value.okWide P W' .any 0 t r) :
  s.post enc P f apart fresh handsOn again W args v W':=by
 have hlt:∀ p∈before,p.block<W.heap.size:=fun p hp=>hW.lt p hp
 have hold:∀ p∈before,(fun b=>decide (b<W.heap.size)) p.block=true:=fun p hp=>by simpa using hlt p hp
 refine⟨ds,gs,before,[],pa,pv,hW,hres _ _ _,hargs _ hold,hvars _ hold,World.keptBut_mono (fun p hp=>⟨hp,?_⟩) hk,fun _=>?_⟩
 ·rw[hps,List.mem_append] at hp
  exact Or.inr hp
 ·obtain⟨_,_,_,_,_,hz,hn⟩:=hW
  refine⟨hok,_,_,([]++pa)++pv,⟨[]++pa,pv,trodAll_append (hargs _ (fun _ _=>rfl)) (hres _ _ _),hvars _ (fun _ _=>rfl),rfl,?_,?_⟩,?_⟩
  ·intro b off hp
   have hp':MemPlace.cell b off∈before:=by rw[hps];simpa using hp
   rw[hfz _ (hlt _ hp')]
   exact hz b off hp'
  ·intro ha
   have:=hn ha
   rw[hps] at this
   simpa using this
  ·intro p hp _
   rw[hps]
   simpa using hp
theorem XK {P:Program} {f:FuncId} {fn:Func} {s:ChangeSpec} {apart fresh handsOn again:Bool} {H:Type} {enc:TypeId×Value→H} {W:World} {args:Array Value} {ds gs:List (DataW H)} {before:List MemPlace} {tb:TypeId}
  (hl:laidOutB P=true) (hvars:s.vars=[]) (hr:∀ t∈fn.params.toList,P.readableRec t=true∧t<P.types.size) (hres:fn.resultTypes=#[tb]) (htb:P.underlying tb=some .bool)
  (hW:DataW.Whole enc P fn.params.toList s.vars apart W args.toList ds gs before) (hs:s.fn H (ds++gs)={ results:=[.lit (.bool true)],args:=ds })
  {avs:List AV} (htab:y1 Vn W) (hrep:zv Vn W avs args.toList) (hp:zz P f avs (.bool true)) :
  Calls P f args W fun e W'=>∃ v,e=.returned v∧s.post enc P fn apart fresh handsOn again W args v W':=by
 have h:=hp Vn W args.toList htab (fun b o hb=>by simp[zb.emp] at hb) hrep
 have ha:args.toList.toArray=args:=by simp
 rw[ha] at h
 refine h.mono fun e W' ⟨γ',H',r,hext,_,_,hend,hq,_⟩=>?_
 subst hq
 cases e with
 | panicked ch=>exact hend.elim
 | outgrown=>exact hend.elim
 | returned v =>
  have hv:Rep γ' W' (.bool true) v:=hend
  cases hv
  refine⟨_,rfl,?_⟩
  have hframe:∀ b,b<W.heap.size→W'.heap[b]?=W.heap[b]?:=fun b hb=>(hext.frame b hb (by simp[zb.emp])).2
  obtain⟨p,q,hA,hV,rfl,hfz,hnd⟩:=id hW
  rw[hvars] at hV
  obtain⟨rfl,rfl⟩:=trodVars_none hV
  have hlt:∀ x∈p,x.block<W.heap.size:=fun x hx=>hW.lt x (Y8 _ hx)
  have hsame:∀ x∈p,W.sameAt W' x:=fun x hx=>by
   have h1:=hframe _ (hlt x hx)
   cases x with
   | cell b off =>
    simp only[MemPlace.block] at h1
    simp only[World.sameAt,World.cell?,h1]
   | map b=>exact h1
  refine X2 (pa:=p) (pv:=[]) hW (fun b sp hd=>?_) (fun sp hsp=>?_) (fun sp hsp=>?_) rfl ⟨hext.os,hext.output,fun i hi=>?_⟩ hext.frozen ?_
  ·rw[hres,hs]
   exact trodAll_mk1 (shut_bool htb true)
  ·rw[hs]
   exact Xc hl hr hA hsame fun x hx=>hsp x (Y8 _ hx)
  ·rw[hs,hvars]
   exact rfl
  ·rw[hframe i hi]
   cases W.heap[i]? with
   | none=>rfl
   | some o=>cases o<;>first|exact⟨rfl,rfl,rfl,fun _ _=>rfl⟩|exact .inr ⟨rfl,rfl⟩|rfl
  ·exact ok_one hres rfl (okWide_bool_mk htb true)
end Go.Ab
namespace Go.Ab
def YS (ρ:Env):List (Nat×AV)→Env
 | []=>ρ
 | (d,v)::r=>(YS ρ r).set (some d) v
theorem Vt (ρ:Env):YS ρ []=ρ:=rfl
theorem Wo (ρ:Env) (d:Nat) (v:AV) (r:List (Nat×AV)):YS ρ ((d,v)::r)=(YS ρ r).set (some d) v:=rfl
section
variable {P:Program} {KP:AV→zb→Prop} {Q:zP→Env→zb→Prop} {st:List Fr} {ρ:Env} {H:zb} {keep:List Nat} {b:AC}
theorem R0 {σ:Type} (m:σ→List (Nat×AV)) (I:σ→zb→Prop) (meas:σ→Nat) (s0:σ) (hm:ρ.keep keep=(YS ρ (m s0)).keep keep) (h0:I s0 H)
  (hr:∀ s H' J,I s H'→(∀ s' H'',meas s'<meas s→I s' H''→J ((YS ρ (m s')).keep keep) H'')→goC P KP Q b (.rep keep J::st) ((YS ρ (m s)).keep keep) H'):Mi P KP Q keep b st ρ H:=by
 refine Rf (fun n ρ' H'=>∃ s,n=meas s∧ρ'=(YS ρ (m s)).keep keep∧I s H') (meas s0) ⟨s0,rfl,hm,h0⟩ ?_
 rintro n ρ' H' J ⟨s,rfl,rfl,hs⟩ hJ
 exact hr s H' J hs fun s' H'' h1 h2=>hJ _ _ _ h1 ⟨s',rfl,rfl,h2⟩
end
section
variable {P:Program} {KP:AV→zb→Prop} {Q:zP→Env→zb→Prop} {st:List Fr} {ρ:Env} {H:zb} {all l:List zg} {d:Option Nat} {R:List yQ}
def Mh (P:Program) (KP:AV→zb→Prop) (Q:zP→Env→zb→Prop) (all l:List zg) (st:List Fr) (d:Option Nat) (R:List yQ) (ρ:Env) (v:AV) (args:List AV) (H:zb):Prop :=
 match v with
 | .clo f first caps=>Program.callable P f=true∧OS P KP Q all l st d R ρ f (first++args++caps) H
 | _=>False
theorem Sn (g:zu) (args:List zu):yD P KP Q all l st d (.callv g args) R ρ H=Mh P KP Q all l st d R ρ (g.ev ρ) (args.map (zu.ev ρ)) H:=by
 simp only[yD,Zr,z6.cls,eff,Mh,OS]
 cases g.ev ρ<;>rfl
theorem Sv (f:FuncId) (first caps args:List AV):Mh P KP Q all l st d R ρ (.clo f first caps) args H=(Program.callable P f=true∧OS P KP Q all l st d R ρ f (first++args++caps) H):=rfl
def Mu (P:Program) (KP:AV→zb→Prop) (Q:zP→Env→zb→Prop) (all l:List zg) (st:List Fr) (d:Option Nat) (R:List yQ) (ρ:Env) (x y:AV) (H:zb):Prop :=
 match y with
 | .str s=>OQ P KP Q all l st d R ρ 1 1 x (.sl .no 1 (bytesOf s)) H
 | _=>False
theorem RP (x y:zu):yD P KP Q all l st d (.apps x y) R ρ H=Mu P KP Q all l st d R ρ (x.ev ρ) (y.ev ρ) H:=by
 simp only[yD,Zr,z6.cls,eff,Mu,OQ]
 cases y.ev ρ<;>rfl
theorem Sj (x:AV) (s:List UInt8):Mu P KP Q all l st d R ρ x (.str s) H=OQ P KP Q all l st d R ρ 1 1 x (.sl .no 1 (bytesOf s)) H:=rfl
def N6 (KP:AV→zb→Prop) (v:AV) (H:zb):Prop :=
 match v with
 | .ifc t y=>KP (.ifc t y) H
 | _=>False
theorem Pw (x:zu):yD P KP Q all l st d (.pan x) R ρ H=N6 KP (x.ev ρ) H:=by
 simp only[yD,Zr,z6.cls,eff,N6]
 cases x.ev ρ<;>rfl
theorem T1 (t:TypeId) (y:AV):N6 KP (.ifc t y) H=KP (.ifc t y) H:=rfl
def NR (P:Program) (KP:AV→zb→Prop) (Q:zP→Env→zb→Prop) (all l:List zg) (st:List Fr) (d:Option Nat) (R:List yQ) (ρ:Env) (kt:KT) (b:Nat) (k v:AV) (H:zb) (o:Option yf):Prop :=
 match o with
 | some (.map kt' es)=>kt'=kt∧kt.fits k=true∧XN P KP Q all l st R (ρ.set d (.tup [])) (H.upd b (.map kt (XX es k v)))
 | _=>False
def Oc (P:Program) (KP:AV→zb→Prop) (Q:zP→Env→zb→Prop) (all l:List zg) (st:List Fr) (d:Option Nat) (R:List yQ) (ρ:Env) (kt:KT) (m k v:AV) (H:zb):Prop :=
 match m with
 | .mp b=>NR P KP Q all l st d R ρ kt b k v H (H b)
 | _=>False
theorem Pq (kt:KT) (m k v:zu):yD P KP Q all l st d (.mup kt m k v) R ρ H=Oc P KP Q all l st d R ρ kt (m.ev ρ) (k.ev ρ) (v.ev ρ) H:=by
 simp only[yD,Zr,z6.cls,eff,Oc,NR]
 cases m.ev ρ<;>rfl
theorem Ss (kt:KT) (b:Nat) (k v:AV):Oc P KP Q all l st d R ρ kt (.mp b) k v H=NR P KP Q all l st d R ρ kt b k v H (H b):=rfl
theorem T5 (kt kt':KT) (b:Nat) (es:List (AV×AV)) (k v:AV):NR P KP Q all l st d R ρ kt b k v H (some (.map kt' es))=(kt'=kt∧kt.fits k=true∧XN P KP Q all l st R (ρ.set d (.tup [])) (H.upd b (.map kt (XX es k v)))):=rfl
end
structure VG (H:zb) (o:Own) (H':zb) (o':Own) (n sz:Nat):Prop where
 own:yI H' o' n sz
 kept:Kept H o H'
 new:Ri H o o'
theorem VG.refl {H:zb} {o:Own} {n sz:Nat} (h:yI H o n sz):VG H o H o n sz:=⟨h,fun b x hb _=>hb,fun b d e=>.inr ⟨d,e⟩⟩
theorem VG.trans {H H1 H2:zb} {o o1 o2:Own} {n n2 sz:Nat} (h:VG H o H1 o1 n sz) (h':VG H1 o1 H2 o2 n2 sz):VG H o H2 o2 n2 sz:=by
 refine⟨h'.own,fun b x hb hn=>h'.kept b x (h.kept b x hb hn) fun d e=>?_,fun b d e=>?_⟩
 ·rcases h.new b d e with h1|⟨d0,h1⟩
  ·rw[hb] at h1;cases h1
  ·exact hn d0 h1
 ·rcases h'.new b d e with h1|⟨d0,h1⟩
  ·cases hb:H b with
   | none=>exact .inl rfl
   | some x =>
    by_cases hx:∃ d,o=.tip b d
    ·exact .inr hx
    ·have:=h.kept b x hb (fun d e=>hx ⟨d,e⟩);rw[h1] at this;cases this
  ·exact h.new b d0 h1
theorem VG.upd {H H1:zb} {o o1:Own} {n sz b:Nat} {x:yf} (h:VG H o H1 o1 n sz) (hb:H1 b=none):VG H o (H1.upd b x) o1 n sz:=by
 refine⟨h.own.upd hb,fun c y hc hn=>?_,h.new⟩
 have:=h.kept c y hc hn
 have hne:c≠b:=fun e=>by subst e;rw[hb] at this;cases this
 simp only[zb.upd,hne,if_false];exact this
theorem R2 {P:Program} {KP:AV→zb→Prop} {Q:zP→Env→zb→Prop} {st:List Fr} {ρ:Env} {H:zb} {all l:List zg} {d:Option Nat} {R:List yQ} {sz bytes:Nat} {o o2:Own} {xs ys:List (List AV)}
 (how:yI H o xs.length sz) (h1:(xs.length+ys.length)*bytes≤140737488355328) (h2:xs.length+ys.length≤maxLen)
 (hk:∀ o' H',VG H o H' o' (xs.length+ys.length) sz→XN P KP Q all l st R (ρ.set d (.sl o' sz (xs++ys.map (·.map AV.strip1)))) H') :
 OQ P KP Q all l st d R ρ sz bytes (.sl o sz xs) (.sl o2 sz ys) H:=ZR how h1 h2 fun o' H' a b c=>hk o' H' ⟨a,b,c⟩
theorem zz.of_calls {P:Program} {f:FuncId} {args:List AV} {r:AV} (h:∀(γ:Gh) (w:World) (vs:List Value),y1 γ w→zv γ w args vs→Calls P f vs.toArray w fun e w'=>w'=w∧∃ v,e=.returned v∧Rep γ w r v):zz P f args r:=by
 intro γ w vs ht _ hv
 refine(h γ w vs ht hv).mono fun e w' ⟨hw,v,he,hr⟩=>?_
 subst hw;subst he
 exact⟨γ,zb.emp,.ret r,.refl _ _ _,fun b o hb=>by simp[zb.emp] at hb,fun b hb=>by simp[zb.emp] at hb,hr,rfl,rfl⟩
def Se (γ:Gh) (w:World):Option AV→FrameMode→Prop
 | none,u=>u=.returning
 | some c,u=>∃ v,u=.panicking [{ v,recovered:=false }]∧Rep γ w c v
def yM:FrameMode→FrameMode
 | .panicking ({ v,recovered:=false,goexit:=false }::older)=>.panicking ({ v,recovered:=true }::older)
 | u=>u
def yE (P:Program) (f:FuncId) (args:List AV) (rv:Option AV) (H:zb) (Q:zb→Prop):Prop :=
 ∀(γ:Gh) (w:World) (vs:List Value) (u:FrameMode),y1 γ w→zn γ w H→zv γ w args vs→Se γ w rv u →
  CallsD P f vs.toArray u w fun e u' w'=>∃ γ' H' v,e=.returned v∧u'=yM u∧yV (fun b=>(H b).isSome=true) γ w γ' w'∧zn γ' w' H' ∧
   (∀ b,(H' b).isSome=true→(H b).isSome=true∨w.heap.size≤b)∧Q H'
theorem yE.mono {P:Program} {f:FuncId} {args:List AV} {rv:Option AV} {H:zb} {Q Q':zb→Prop} (h:yE P f args rv H Q) (hq:∀ H',Q H'→Q' H'):yE P f args rv H Q' :=
 fun γ w vs u ht hs hv hu=>(h γ w vs u ht hs hv hu).mono fun _ _ _ ⟨γ',H',v,a,b,c,d,e,q⟩=>⟨γ',H',v,a,b,c,d,e,hq _ q⟩
theorem yE.beside {P:Program} {f:FuncId} {args:List AV} {rv:Option AV} {H:zb} {Q:zb→Prop} {b:Nat} {o:yf} (hb:H b=none) (h:yE P f args rv H Q) :
  yE P f args rv (H.upd b o) (fun H'=>∃ H0,H0 b=none∧H'=H0.upd b o∧Q H0):=by
 intro γ w vs u ht hs hv hu
 have hne:∀ c x,H c=some x→c≠b:=fun c x hc e=>by subst e;rw[hb] at hc;cases hc
 have hA:zn γ w H:=hs.sub fun c x hc=>by simp[zb.upd,hne c x hc,hc]
 have hB:Zo γ w b o:=hs b o (by simp[zb.upd])
 refine(h γ w vs u ht hA hv hu).mono fun e u' w' ⟨γ',H',v,he,hu',hext,hst,hk,hq⟩=>?_
 have hHb:H' b=none:=by
  cases hx:H' b with
  | none=>rfl
  | some x =>
   rcases hk b (by simp[hx]) with h1|h1
   ·simp[hb] at h1
   ·have:=hB.lt;omega
 refine⟨γ',H'.upd b o,v,he,hu',hext.weaken fun c hc=>?_,fun c x hc=>?_,fun c hc=>?_,H',hHb,rfl,hq⟩
 ·unfold zb.upd;split
  ·rfl
  ·exact hc
 ·unfold zb.upd at hc
  split at hc
  ·rename_i e;subst e
   simp only[zx] at hc;subst hc
   obtain⟨g,k⟩:=hext.frame _ hB.lt (by simp[hb])
   exact hB.kept hext.mono g k
  ·exact hst c x hc
 ·unfold zb.upd at hc ⊢
  split at hc
  ·rename_i e;subst e;left;simp
  ·rename_i e
   simp only[e,if_false]
   exact hk c hc
theorem yO {P:Program} {ops:Array Oper} {Q:Exit→Act→List Frame→World→Prop} {cs:List Frame} (hno:∀ a w,¬ Q .outgrown a cs w):∀(l:List Nat) (a:Act) (w:World),wpOps P ops (fun e a w=>Q e a cs w) l a w→wpOpsS P ops Q l a cs w
 | [],a,w,h=>h
 | i::rest,a,w,h=>by
  simp only[wpOps] at h
  simp only[wpOpsS]
  cases ho:ops[i]? with
  | none=>simp only[ho] at h ⊢;exact yO hno rest a w h
  | some o =>
   simp only[ho] at h ⊢
   by_cases hw:Region.wanted o (yielded ops a.tmps)=true
   ·simp only[hw,if_true] at h ⊢
    rcases h with h|⟨_,a0,w0,h0⟩
    ·unfold Oper.wp at h
     generalize (execOp a.eval o).run P w=r at h ⊢
     have ih:=yO (P:=P) (ops:=ops) hno rest
     cases r with
     | ok n w' =>
      cases n<;>first|exact ih _ _ h|exact h.elim|skip
      ·exact Calls.mono h fun e w2 hq=>by cases e<;>first|exact ih _ _ hq|exact hq
      ·rename_i row args
       intro c cs'
       obtain⟨v,w2,hq,hs⟩:=h c cs'
       exact⟨v,w2,ih _ _ hq,hs⟩
     | halt x w'=>cases x<;>first|exact h|exact h.elim
    ·exact(hno _ _ h0).elim
   ·simp only[hw,if_false,V6] at h ⊢
    exact yO hno rest _ _ h
structure X9 where
 N:Nat
 np:Nat
 d:Nat
 items:List zg
 body:AC
def isRecover (o:Oper) (n:Nat):Bool :=
 decide (o.dst=some n)&&o.guard.isNone&&(match o.op with
  | .call c=>(match c.callee with|.builtin .recover=>true|_=>false)&&decide (c.args.size=0)
  | _=>false)
def YH (P:Program) (f:FuncId) (ad:X9):Bool :=
 match P.funcs[f]? with
 | some fn=>match fn.body with
  | some (.seq (.region _ ops false) code)=>decide (fn.ntmps=ad.N)&&decide (ad.np≤ad.N)&&decide (ad.d<ad.N)&&decide (fn.results.size=0) &&
   (match ops.toList with|o::r=>isRecover o ad.d&&decide (r.length=ad.items.length)&&((r.zip ad.items).all fun x=>yt ad.N 0 ops P x.1 x.2)|[]=>false)&&zE P ad.N 0 code ad.body&&ad.body.plain
  | _=>false
 | none=>false
def PC (Q:zb→Prop):zP→Env→zb→Prop
 | .exit _,_,_=>False
 | _,_,H=>Q H
theorem W4 {o:Oper} {d:Nat} (h:isRecover o d=true):o.dst=some d∧o.guard=none∧∃ c,o.op=.call c∧c.callee=.builtin .recover∧c.args=#[]:=by
 unfold isRecover at h
 simp only[zH,zU,Option.isNone_iff_eq_none] at h
 obtain⟨⟨h1,h2⟩,h3⟩:=h
 refine⟨h1,h2,?_⟩
 split at h3
 ·rename_i c hc
  simp only[zH,zU] at h3
  obtain⟨h3,h4⟩:=h3
  split at h3
  ·rename_i hcal;exact⟨c,hc,hcal,by simpa using h4⟩
  ·cases h3
 ·cases h3
theorem yE.of_fn {P:Program} {f:FuncId} (ad:X9) (hc:YH P f ad=true) {args:List AV} {rv:Option AV} {H:zb} {Q:zb→Prop} (hnp:args.length≤ad.np)
  (h:zO P (fun _ _=>False) (ya ad.items) ((zd (zX 0 args)).set (some ad.d) (rv.getD (.oth .nilIface))) H fun ρ' H'=>Yr P (fun _ _=>False) ad.body (PC Q) ρ' H'):yE P f args rv H Q:=by
 intro γ w vs u ht hs hv hu
 unfold YH at hc
 cases hfn:P.funcs[f]? with
 | none=>simp[hfn] at hc
 | some fn =>
  simp only[hfn] at hc
  split at hc
  ·rename_i id ops code hbody
   simp only[zH,zU] at hc
   obtain⟨⟨⟨⟨⟨⟨hN,hnpN⟩,hd⟩,hres⟩,hops⟩,hcode⟩,hpl⟩:=hc
   split at hops
   ·rename_i o r hor
    simp only[zH,zU] at hops
    obtain⟨⟨hrec,hlen⟩,hall⟩:=hops
    obtain⟨hdst,hguard,cl,hop,hcal,hargs⟩:=W4 hrec
    have hsz:ops.size=ad.items.length+1:=by
     have:=congrArg List.length hor
     simpa[hlen] using this
    have h0:ops[0]?=some o:=by rw[← Array.getElem?_toList,hor];rfl
    have hk:∀ k,ops[k+1]?=r[k]?:=fun k=>by rw[← Array.getElem?_toList,hor];rfl
    refine callsD_of_wpS hfn hbody (fun c₀ cs hc0=>wpS_seq (wpS_region ?_))
    rw[hsz,List.range_succ_eq_map]
    simp only[wpOpsS,h0]
    have hw:Region.wanted o (yielded ops (vs.toArray++Array.replicate (fn.ntmps-vs.toArray.size) undef))=true:=by simp[Region.wanted,hguard]
    simp only[hw,if_true]
    have hrun:∀ a:Act,(execOp a.eval o).run P w=.ok .recover w:=fun a=>by
     simp[execOp,hop,hcal,hargs,resolve,invoke,builtin,Sem.run_bind,Result.andThen]
    rw[hrun]
    have hlen':vs.toArray.size≤ad.N:=by simp only[List.size_toArray];rw[← hv.1];omega
    have key:∀ v,Rep γ w (rv.getD (.oth .nilIface)) v→wpOpsS P ops (Exit.thenS (code.wpS P (bodyPostS P fn c₀ cs fun e u' w'=>∃ γ' H' v,e=.returned v∧u'=yM u∧yV (fun b=>(H b).isSome=true) γ w γ' w'∧zn γ' w' H' ∧
      (∀ b,(H' b).isSome=true→(H b).isSome=true∨w.heap.size≤b)∧Q H')) (bodyPostS P fn c₀ cs fun e u' w'=>∃ γ' H' v,e=.returned v∧u'=yM u∧yV (fun b=>(H b).isSome=true) γ w γ' w'∧zn γ' w' H' ∧
      (∀ b,(H' b).isSome=true→(H b).isSome=true∨w.heap.size≤b)∧Q H')) ((List.range ad.items.length).map Nat.succ) (Act.put { tmps:=vs.toArray++Array.replicate (fn.ntmps-vs.toArray.size) undef,defers:=[] } o.dst v) ({ c₀ with mode:=yM u }::cs) w:=by
     intro v hrep
     have hinv0:yi γ w H (Fx.plain ad.N) γ w H (zd (zX 0 args)) { tmps:=vs.toArray++Array.replicate (fn.ntmps-vs.toArray.size) undef,defers:=[] } :=
      ⟨.refl _ _ _,hs,zG.refl _ _,XR ht hv _,by show _=ad.N;rw[hN,Array.size_append,Array.size_replicate];omega,fun n hn=>absurd hn (Nat.not_lt_zero n),X7.init rfl⟩
     have hinv:yi γ w H (Fx.plain ad.N) γ w H ((zd (zX 0 args)).set (some ad.d) (rv.getD (.oth .nilIface))) (Act.put { tmps:=vs.toArray++Array.replicate (fn.ntmps-vs.toArray.size) undef,defers:=[] } o.dst v):=by
      rw[hdst]
      exact hinv0.step (.refl _ _ _) hs (zG.refl _ _) (fun x hx=>by cases hx;exact⟨Nat.zero_le _,hd⟩) hrep
     refine yO (fun a w' hq=>?_) _ _ _ ?_
     ·obtain⟨u',_,_,_,he,_⟩:=hq
      cases he
     ·have endp:∀(e:Exit) γ' w' H' ρ' a',(e=.normal∨e=.ret)→yi γ w H (Fx.plain ad.N) γ' w' H' ρ' a'→Q H'→bodyPostS P fn c₀ cs (fun e u' w'=>∃ γ' H' v,e=.returned v∧u'=yM u∧yV (fun b=>(H b).isSome=true) γ w γ' w'∧zn γ' w' H' ∧
        (∀ b,(H' b).isSome=true→(H b).isSome=true∨w.heap.size≤b)∧Q H') e a' ({ c₀ with mode:=yM u }::cs) w':=by
       intro e γ' w' H' ρ' a' he hi hq
       have hr:(results fn a'.tmps).run P w'=.ok (.tuple #[]) w':=by
        have:fn.results=#[]:=by simpa using hres
        simp[results,this,Sem.run_bind]
       rcases he with rfl|rfl<;>exact⟨hi.df.plain rfl,_,rfl,_,hr,γ',H',_,rfl,rfl,hi.ext,hi.st,hi.keys,hq⟩
      refine yT (F:=Fx.plain ad.N) (KP:=fun _ _=>False) (K:=fun ρ' H'=>Yr P (fun _ _=>False) ad.body (PC Q) ρ' H') (fun ch a w' hp=>?_) (fun γ' w' H' ρ' a' hi hawp=>?_) _ (ya ad.items) (by simp[ya]) (fun k i it hki hit=>?_) γ w H _ _ hinv h
      ·obtain⟨_,_,_,_,_,_,_,_,_,hf,_⟩:=hp;exact hf.elim
      ·refine wpS_of_wp (wp_mono (Za (F:=Fx.plain ad.N) (KP:=fun _ _=>False) (fun _ _ _ _ _ hf=>hf) ad.body code (PC Q) (.inl hpl) hcode γ' w' H' ρ' a' hi hawp) fun e a2 w2 he=>?_)
       cases e with
       | normal=>obtain⟨g,hh,rr,h1,h2⟩:=he;exact endp .normal g w2 hh rr a2 (.inl rfl) h1 h2
       | ret=>obtain⟨g,hh,rr,h1,h2⟩:=he;exact endp .ret g w2 hh rr a2 (.inr rfl) h1 h2
       | exit id=>obtain⟨g,hh,rr,h1,h2⟩:=he;exact h2.elim
       | goto l=>exact he.elim
       | outgrown=>exact he.elim
       | panic ch=>obtain⟨_,_,_,_,_,_,_,_,_,hf,_⟩:=he;exact hf.elim
      ·rw[yr,Zh] at hki
       obtain⟨k',hk',rfl⟩:=hki
       obtain⟨h1,h2⟩:=yK.1 hk'
       simp at h1 h2
       subst h2
       simp only[ya,yr,Zh] at hit
       obtain⟨x,hx,rfl⟩:=hit
       have hkr:k<r.length:=by omega
       refine⟨r[k],by show ops[k+1]?=_;rw[hk,Yx hkr],?_⟩
       have hz:(r.zip ad.items)[k]?=some (r[k],x):=by
        rw[List.getElem?_zip_eq_some]
        exact⟨Yx hkr,hx⟩
       exact Zn.1 hall _ (List.mem_of_getElem? hz)
    cases rv with
    | none =>
     have hu':u=.returning:=hu
     subst hu'
     have hrd:recoverD (c₀::cs)=none:=by simp[recoverD,hc0]
     have e0:({ c₀ with mode:=yM .returning }:Frame)=c₀:=by
      have:yM .returning=c₀.mode:=by rw[hc0];rfl
      rw[this]
     simp only[hrd]
     have:=key .nilIface (.oth _)
     rwa [e0] at this
    | some c =>
     obtain⟨v,rfl,hrep⟩:=hu
     have hrd:recoverD (c₀::cs)=some (v,{ c₀ with mode:=yM (.panicking [{ v,recovered:=false }]) }::cs):=by
      simp[recoverD,hc0,yM]
     simp only[hrd]
     exact key v hrep
   ·cases hops
  ·cases hc
theorem st2:type_of% (And.intro @Sn<|And.intro @Sv<|And.intro @RP<|And.intro @Sj<|And.intro @Pw<|And.intro @T1<|And.intro @Pq<|And.intro @Ss<|And.intro @T5<|And.intro @List.append_nil.{0}<|And.intro @Vt<|And.intro @Wo<|And.intro @Wi<|And.intro @Wx<|And.intro @Wq<|And.intro @decide_true<|And.intro @decide_false<|And.intro @List.take_succ_cons.{0}<|And.intro @List.take_zero.{0}<|And.intro @List.drop_succ_cons.{0}<|And.intro @List.drop_zero.{0}<|And.intro @List.length_cons.{0}<|And.intro @List.length_nil.{0}<|And.intro @List.take_length.{0}<|And.intro @List.headD_cons.{0}<|And.intro @List.cons_append.{0}<|And.intro @List.nil_append.{0}<|And.intro @Option.map_some.{0,0}<|And.intro @Bool.not_true<|And.intro @Bool.not_false<|And.intro @Bool.false_eq_true<|And.intro @eq_self.{1}<|And.intro @List.replicate_zero.{0}<|And.intro @List.replicate_succ.{0}<|And.intro @List.set_cons_zero.{0}<|And.intro @List.set_cons_succ.{0}<|And.intro @Nat.lt_add_one<|And.intro @Nat.zero_lt_succ<|And.intro @Nat.le_refl<|And.intro @if_pos.{1}<|And.intro @upd_ne<|And.intro @List.getElem?_cons_succ.{0}<|And.intro @List.getElem?_cons_zero.{0}<|And.intro @Option.some.injEq.{0}<|And.intro @Int.cast_ofNat_Int<|And.intro @List.getD_cons_zero.{0}<|And.intro @List.getD_cons_succ.{0}<|And.intro @Int.toNat_natCast<|And.intro @Int.natCast_zero<|And.intro @Int.natCast_eq_zero<|And.intro @Int.zero_add<|And.intro @Int.natCast_nonneg<|And.intro @true_and<|And.intro @and_true<|And.intro @not_false_eq_true<|And.intro @not_true_eq_false<|And.intro @ne_eq.{1}<|And.intro @List.map_nil.{0,0}<|And.intro @List.map_cons.{0,0}<|And.intro @beq_self_eq_true.{0}<|And.intro @implies_true.{0}<|@Bool.true_eq_false) :=
 And.intro @Sn<|And.intro @Sv<|And.intro @RP<|And.intro @Sj<|And.intro @Pw<|And.intro @T1<|And.intro @Pq<|And.intro @Ss<|And.intro @T5<|And.intro @List.append_nil.{0}<|And.intro @Vt<|And.intro @Wo<|And.intro @Wi<|And.intro @Wx<|And.intro @Wq<|And.intro @decide_true<|And.intro @decide_false<|And.intro @List.take_succ_cons.{0}<|And.intro @List.take_zero.{0}<|And.intro @List.drop_succ_cons.{0}<|And.intro @List.drop_zero.{0}<|And.intro @List.length_cons.{0}<|And.intro @List.length_nil.{0}<|And.intro @List.take_length.{0}<|And.intro @List.headD_cons.{0}<|And.intro @List.cons_append.{0}<|And.intro @List.nil_append.{0}<|And.intro @Option.map_some.{0,0}<|And.intro @Bool.not_true<|And.intro @Bool.not_false<|And.intro @Bool.false_eq_true<|And.intro @eq_self.{1}<|And.intro @List.replicate_zero.{0}<|And.intro @List.replicate_succ.{0}<|And.intro @List.set_cons_zero.{0}<|And.intro @List.set_cons_succ.{0}<|And.intro @Nat.lt_add_one<|And.intro @Nat.zero_lt_succ<|And.intro @Nat.le_refl<|And.intro @if_pos.{1}<|And.intro @upd_ne<|And.intro @List.getElem?_cons_succ.{0}<|And.intro @List.getElem?_cons_zero.{0}<|And.intro @Option.some.injEq.{0}<|And.intro @Int.cast_ofNat_Int<|And.intro @List.getD_cons_zero.{0}<|And.intro @List.getD_cons_succ.{0}<|And.intro @Int.toNat_natCast<|And.intro @Int.natCast_zero<|And.intro @Int.natCast_eq_zero<|And.intro @Int.zero_add<|And.intro @Int.natCast_nonneg<|And.intro @true_and<|And.intro @and_true<|And.intro @not_false_eq_true<|And.intro @not_true_eq_false<|And.intro @ne_eq.{1}<|And.intro @List.map_nil.{0,0}<|And.intro @List.map_cons.{0,0}<|And.intro @beq_self_eq_true.{0}<|And.intro @implies_true.{0}<|@Bool.true_eq_false
open Go.ChangeAt Go.ChangeShapes Go.RowKit Go.WideElems Go.WideShapes
mutual
def blk {H:Type}:DataW H→Nat
 | .lit (.string bytes)=>bytes.length+1
 | .lit _=>1
 | .nil=>1
 | .ptr d=>blk d+1
 | .slice elems spare=>yz elems+yz spare+1
 | .agg parts=>yz parts+1
 | .iface _ d=>blk d+1
 | .map entries=>Sh entries+1
 | .held _=>1
def yz {H:Type}:List (DataW H)→Nat
 | []=>0
 | d::r=>blk d+yz r
def Sh {H:Type}:List (Lit×DataW H)→Nat
 | []=>0
 | x::r=>Tz x+Sh r
def Tz {H:Type}:Lit×DataW H→Nat
 | (.string bytes,d)=>bytes.length+blk d+1
 | (_,d)=>blk d+1
end
theorem T7 {H:Type} (d:DataW H):1≤blk d:=by
 cases d with
 | lit l=>cases l<;>simp[blk]
 | nil=>simp[blk]
 | ptr d=>simp[blk]
 | slice elems spare=>simp[blk]
 | agg parts=>simp[blk]
 | iface t d=>simp[blk]
 | map entries=>simp[blk]
 | held h=>simp[blk]
theorem VB {H:Type} (l:List (DataW H)) (k:Nat) (h:k<l.length):yz (l.take (k+1))=yz (l.take k)+blk (l.getD k .nil):=by
 induction l generalizing k with
 | nil=>simp at h
 | cons d r ih =>
  cases k with
  | zero=>simp[yz]
  | succ k =>
   simp only[Mp,yz,List.getD_cons_succ]
   rw[ih k (by simpa using h)]
   omega
def ZP (P:Program) (m:Nat) (t:TypeId) (sz:Nat) {α:Type} (f:α→List AV) (ok:α→Prop) (g:α→Nat):Prop :=
 ∀ {H:Type} (enc:TypeId×Value→H) (W:World) (cs:List Value) (d:DataW H) (ps:List MemPlace),DataW.trod enc P W 0 (fun _=>true) true m t cs=some (d,ps) →
  (∀ n∈d.weights P t,n≤reachBytes)→∃ a,ok a∧g a≤blk d∧(f a).length=sz∧zi Vn W (f a) cs
section
variable {P:Program} {m:Nat} {t:TypeId}
theorem ZP.zero {sz:Nat} {α:Type} {f:α→List AV} {ok:α→Prop} {g:α→Nat}:ZP P 0 t sz f ok g:=fun enc W cs d ps h _=>by simp[DataW.trod] at h
theorem ZP.int {k:IntKind} (ht:P.underlying t=some (.int k)):ZP P m t 1 (fun n:Int=>[.int k n]) (fun n=>(Lit.int k n).wf=true) (fun _=>1):=by
 intro H enc W cs d ps h _
 obtain⟨n,rfl,hx,hw⟩:=DataW.trod_int ht h
 simp only[YR] at hx
 obtain⟨rfl,rfl⟩:=hx
 exact⟨n,hw,yX _,rfl,Z1 (.int k n) rfl⟩
theorem ZP.bool (ht:P.underlying t=some .bool):ZP P m t 1 (fun b:Bool=>[.bool b]) (fun _=>True) (fun _=>1):=by
 intro H enc W cs d ps h _
 obtain⟨b,rfl,hx⟩:=DataW.trod_bool ht h
 simp only[YR] at hx
 obtain⟨rfl,rfl⟩:=hx
 exact⟨b,trivial,yX _,rfl,Z1 (.bool b) rfl⟩
theorem ZP.str (ht:P.underlying t=some .string):ZP P m t 1 (fun s:List UInt8=>[.str s]) (fun s=>s.length≤reachBytes) (fun s=>s.length+1):=by
 intro H enc W cs d ps h hw
 obtain⟨s,rfl,hx,hs⟩:=DataW.trod_string ht h
 simp only[YR] at hx
 obtain⟨rfl,rfl⟩:=hx
 refine⟨s.data.toList,hw _ (by simp[DataW.weights]),yX _,rfl,Z1 ?_ rfl⟩
 exact .str _
theorem ZP.slice {e:TypeId} {sz B:Nat} {α:Type} {f:α→List AV} {ok:α→Prop} {g:α→Nat} (ht:P.underlying t=some (.slice e)) (hB:P.bytesOf e=B) (hsz:P.cellsOf e=sz) (hpos:0<sz) (he:ZP P m e sz f ok g) :
  ZP P (m+1) t 1 (fun l:List α=>[.sl .no sz (l.map f)]) (fun l=>l.length*B≤reachBytes∧l.length≤maxLen∧∀ x∈l,ok x) (fun l=>(l.map g).sum+1):=by
 intro H enc W cs d ps h hw
 rcases DataW.trod_slice ht h with ⟨rfl,_⟩|⟨a,len,cap,elems,rest,n,hm,rfl,hx,hb,hlc,hcm,hel,hread,hspare,_⟩
 ·exact⟨[],⟨by simp,by simp,by simp⟩,by simp[T7],rfl,Z1 (.slnil .no sz (by simp)) rfl⟩
 ·cases hm
  simp only[YR] at hx
  obtain⟨rfl,rfl⟩:=hx
  obtain⟨hrest,hreadr⟩:=hspare rfl
  subst hsz
  have hwt:∀ y∈elems,∀ n∈y.1.weights P e,n≤reachBytes:=fun y hy n hn=>hw n (by
   simp only[DataW.weights,ht,List.mem_cons,List.mem_append]
   exact .inr (.inl (Wl (List.mem_map_of_mem hy) n hn)))
  have hlenB:len*P.bytesOf e≤reachBytes:=by
   have:=hw ((elems.length+rest.length)*P.bytesOf e) (by simp[DataW.weights,ht])
   rw[hel] at this
   exact Nat.le_trans (Nat.mul_le_mul_right _ (Nat.le_add_right _ _)) this
  have each:∀ i,i<len→∃(x:α) (us:List Value),ok x∧g x≤blk ((elems.map (·.1)).getD i .nil)∧(f x).length=P.cellsOf e∧zi Vn W (f x) us∧(∀ j,j<P.cellsOf e→W.cell? (a.add (i*P.cellsOf e+j))=us[j]?)∧us.length=P.cellsOf e:=by
   intro i hi
   have h1:=hread i hi
   have hi':i<elems.length:=by omega
   rw[Yx hi',Option.bind_eq_some_iff] at h1
   obtain⟨us,hus,hd⟩:=h1
   obtain⟨x,hx1,hxg,hx2,hx3⟩:=he enc W us elems[i].1 elems[i].2 hd (hwt _ (List.getElem_mem hi'))
   obtain⟨_,hl,hc⟩:=World.cells?_some hus
   refine⟨x,us,hx1,by simpa[hi'] using hxg,hx2,hx3,fun j hj=>?_,hl⟩
   have:=hc j hj
   rwa [addr_add_add] at this
  rcases Nat.eq_zero_or_pos cap with hc0|hcpos
  ·have hl0:len=0:=by omega
   subst hl0;subst hc0
   exact⟨[],⟨by simp,by simp,by simp⟩,by simp[T7],rfl,Z1 (.sl0 .no _ a (.inl rfl)) rfl⟩
  ·-- some cell is read: the address is plain
   have hspot:a.spot=none:=by
    have h1:∃ us,W.cells? 0 (a.add 0) (P.cellsOf e)=some us:=by
     rcases Nat.eq_zero_or_pos len with hl0|hlpos
     ·have h2:=hreadr 0 (by omega)
      rw[Yx (by omega),Option.bind_eq_some_iff] at h2
      obtain⟨us,h3,_⟩:=h2
      rw[hl0] at h3
      simp only[Nat.add_zero,Nat.zero_mul] at h3
      exact⟨us,h3⟩
     ·have h2:=hread 0 hlpos
      rw[Yx (by omega),Option.bind_eq_some_iff] at h2
      obtain⟨us,h3,_⟩:=h2
      simp only[Nat.zero_mul] at h3
      exact⟨us,h3⟩
    obtain⟨us,h1⟩:=h1
    obtain⟨_,hl,hc⟩:=World.cells?_some h1
    have h3:=hc 0 hpos
    have e0:(a.add 0).add 0=a:=rfl
    rw[e0] at h3
    have h4:(W.cell? a).isSome=true:=by rw[h3,Yx (by omega)];rfl
    unfold World.cell? at h4
    split at h4
    ·split at h4
     ·cases h4
     ·rename_i hs
      cases h5:a.spot with
      | none=>rfl
      | some s=>simp[h5] at hs
    ·cases h4
   obtain⟨b,off,spot⟩:=a
   simp only at hspot
   subst hspot
   have hchoose:∀ k,k≤len→∃ l:List α,l.length=k∧(l.map g).sum≤yz ((elems.map (·.1)).take k)∧∀ i x,l[i]?=some x→ok x∧(f x).length=P.cellsOf e∧∃ us:List Value,zi Vn W (f x) us∧(∀ j,j<P.cellsOf e→W.cell? (Addr.add ⟨b,off,none⟩ (i*P.cellsOf e+j))=us[j]?)∧us.length=P.cellsOf e:=by
    intro k
    induction k with
    | zero=>intro _;exact⟨[],rfl,by simp,by simp⟩
    | succ k ih =>
     intro hk
     obtain⟨l,hl,hsum,hp⟩:=ih (by omega)
     obtain⟨x,us,h1,hgx,h2,h3,h4,h5⟩:=each k (by omega)
     refine⟨l++[x],by simp[hl],?_,fun i y hy=>?_⟩
     ·rw[List.map_append,List.sum_append,VB _ k (by simp;omega)]
      simp only[List.map_cons,List.map_nil,List.sum_cons,List.sum_nil]
      omega
     rcases Nat.lt_or_ge i l.length with hi|hi
     ·rw[Y6 hi] at hy;exact hp i y hy
     ·rw[X4 hi] at hy
      have:i=l.length:=by
       rcases Nat.lt_or_ge 0 (i-l.length) with h|h
       ·rw[List.getElem?_eq_none (by simp;omega)] at hy;cases hy
       ·omega
      subst this
      simp at hy
      subst hy
      exact⟨h1,h2,us,h3,by rw[hl];exact h4,h5⟩
   obtain⟨l,hl,hsum,hp⟩:=hchoose len (yX _)
   refine⟨l,⟨by rw[hl,← hB];exact hlenB,by omega,fun x hx=>?_⟩,?_,rfl,Z1 ?_ rfl⟩
   ·obtain⟨i,hi⟩:=List.mem_iff_getElem?.1 hx
    exact(hp i x hi).1
   ·rw[List.take_of_length_le (by simp;omega)] at hsum
    simp only[blk];omega
   ·have hml:(l.map f).length=len:=by simp[hl]
    rw[← hml]
    refine .sl .no _ (l.map f) b off cap (fun i j=>(W.cell? ⟨b,off+(i*P.cellsOf e+j),none⟩).getD undef) (by omega) hcm (fun x hx=>?_) (fun i x hx j hj=>?_) (fun i x hx j c hj=>?_) trivial
    ·obtain⟨y,hy,rfl⟩:=List.mem_map.1 hx
     obtain⟨i,hi⟩:=List.mem_iff_getElem?.1 hy
     exact(hp i y hi).2.1
    ·simp only[yr,Zh] at hx
     obtain⟨y,hy,rfl⟩:=hx
     obtain⟨_,h2,us,h3,h4,h5⟩:=hp i y hy
     have h6:=h4 j hj
     have h7:us[j]?=some us[j]:=Yx (by omega)
     have h8:W.cell? ⟨b,off+(i*P.cellsOf e+j),none⟩=some us[j]:=by rw[← h7,← h6,addr_add]
     refine⟨by rw[h8];rfl,trivial,?_⟩
     rw[h8]
     exact h3.2.1 j _ h7
    ·simp only[yr,Zh] at hx
     obtain⟨y,hy,rfl⟩:=hx
     obtain⟨_,h2,us,h3,h4,h5⟩:=hp i y hy
     have hj':j<P.cellsOf e:=by have:=(yK.1 hj).1;omega
     have h6:=h4 j hj'
     have h7:us[j]?=some us[j]:=Yx (by omega)
     have h8:W.cell? ⟨b,off+(i*P.cellsOf e+j),none⟩=some us[j]:=by rw[← h7,← h6,addr_add]
     show Rep Vn W c ((W.cell? ⟨b,off+(i*P.cellsOf e+j),none⟩).getD undef)
     rw[h8]
     exact h3.2.2 j c _ hj h7
def XP (P:Program) (m:Nat) (off:Nat) (fs:List (Nat×TypeId)) (sz:Nat) {α:Type} (f:α→List AV) (ok:α→Prop) (gg:α→Nat):Prop :=
 ∀ {H:Type} (enc:TypeId×Value→H) (W:World) (cs:List Value) (xs:List (DataW H×List MemPlace)),
  (∀(i:Nat) (g:Nat×TypeId),fs[i]?=some g→DataW.trod enc P W 0 (fun _=>true) true m g.2 ((cs.drop g.1).take (P.cellsOf g.2))=xs[i]?)→xs.length=fs.length →
  (∀ n∈DataW.weightsEach P (fs.map (·.2)) (xs.map (·.1)),n≤reachBytes)→off+sz≤cs.length→∃ a,ok a∧gg a≤yz (xs.map (·.1))∧(f a).length=sz∧zi Vn W (f a) ((cs.drop off).take sz)
theorem XP.nil {off:Nat}:XP P m off [] 0 (fun _:Unit=>[]) (fun _=>True) (fun _=>0):=by
 intro H enc W cs xs _ _ _ _
 exact⟨(),trivial,Nat.zero_le _,rfl,rfl,by simp,by simp⟩
theorem XP.cons {off sz sz':Nat} {u:TypeId} {fs:List (Nat×TypeId)} {α β:Type} {f:α→List AV} {ok:α→Prop} {f':β→List AV} {ok':β→Prop} {g:α→Nat} {g':β→Nat} (hsz:P.cellsOf u=sz) (h:ZP P m u sz f ok g) (h':XP P m (off+sz) fs sz' f' ok' g') :
  XP P m off ((off,u)::fs) (sz+sz') (fun x:α×β=>f x.1++f' x.2) (fun x=>ok x.1∧ok' x.2) (fun x=>g x.1+g' x.2):=by
 intro H enc W cs xs hx hl hw hle
 cases xs with
 | nil=>simp at hl
 | cons y ys =>
  have h0:=hx 0 (off,u) rfl
  rw[hsz] at h0
  simp only[List.getElem?_cons_zero] at h0
  obtain⟨a,ha1,hag,ha2,ha3⟩:=h enc W _ y.1 y.2 h0 (fun n hn=>hw n (by simp only[List.map_cons,DataW.weightsEach,List.mem_append];exact .inl hn))
  obtain⟨b,hb1,hbg,hb2,hb3⟩:=h' enc W cs ys (fun i g' hg=>by have:=hx (i+1) g' (by simpa using hg);simpa using this) (by simpa using hl)
   (fun n hn=>hw n (by simp only[List.map_cons,DataW.weightsEach,List.mem_append];exact .inr hn)) (by omega)
  refine⟨(a,b),⟨ha1,hb1⟩,by simp only[List.map_cons,yz];omega,by simp[ha2,hb2],?_⟩
  have e:(cs.drop off).take (sz+sz')=(cs.drop off).take sz++(cs.drop (off+sz)).take sz':=by
   rw[List.take_add,List.drop_drop]
  rw[e]
  exact ha3.append hb3
theorem ZP.struct {fs:List (Nat×TypeId)} {sz:Nat} {α β:Type} {f:α→List AV} {ok:α→Prop} {gg:α→Nat} (h:XP P m 0 fs sz f ok gg) (ht:Pj P t=some fs) (hsz:P.cellsOf t=sz) (g:β→List AV) (ok':β→Prop) (g':β→Nat) (k:α→β) (hg:∀ a,g (k a)=f a) (hok:∀ a,ok a→ok' (k a)) (hgg:∀ a,g' (k a)≤gg a+1) :
  ZP P (m+1) t sz g ok' g':=by
 intro H enc W cs d ps hd hw
 obtain⟨gs,hgs,hfs⟩:=Ud ht
 obtain⟨xs,n,hm,hx,hl,hlen,hf⟩:=DataW.trod_struct hgs hd
 cases hm
 simp only[YR] at hx
 obtain⟨rfl,rfl⟩:=hx
 obtain⟨a,h1,hag,h2,h3⟩:=h enc W cs xs (fun i g' hg'=>by
   rw[← hfs,yr] at hg'
   cases hi:gs.toList[i]? with
   | none=>simp[hi] at hg'
   | some z=>simp only[hi,yv,zx] at hg';subst hg';exact hf i z (by simpa using hi)) (by rw[← hfs];simpa using hlen) (fun n hn=>hw n (by
   rw[← hfs,List.map_map] at hn
   simpa[DataW.weights,hgs,Function.comp_def] using hn)) (by omega)
 refine⟨k a,hok a h1,by have:=hgg a;simp only[blk];omega,by rw[hg];exact h2,?_⟩
 rw[hg]
 simp only[List.drop_zero] at h3
 rw[List.take_of_length_le (by omega)] at h3
 exact h3
theorem ZP.arg {α:Type} {f:α→AV} {ok:α→Prop} {g:α→Nat} (h:∀ m,ZP P m t 1 (fun a=>[f a]) ok g) {H:Type} {enc:TypeId×Value→H} {W:World} {v:Value} {d:DataW H} {ps:List MemPlace} (hd:DataW.Trod enc P W 0 (fun _=>true) true t v d ps)
  (hw:∀ n∈d.weights P t,n≤reachBytes) (hv:∀ cs,v≠.agg cs):∃ a,ok a∧g a≤blk d∧Rep Vn W (f a) v:=by
 obtain⟨n,hn⟩:=hd
 obtain⟨a,h1,hag,h2,h3⟩:=h n enc W _ d ps hn hw
 have hc:v.cells=#[v]:=by cases v<;>first|rfl|exact absurd rfl (hv _)
 rw[hc] at h3
 exact⟨a,h1,hag,h3.2.2 0 _ _ rfl rfl⟩
end
end Go.Ab
namespace Go.Ab
inductive F2 {α β:Type} (R:α→β→Prop):List α→List β→Prop
 | nil:F2 R [] []
 | cons {a:α} {b:β} {l:List α} {m:List β}:R a b→F2 R l m→F2 R (a::l) (b::m)
section
variable {α β:Type} {R:α→β→Prop}
theorem F2.len {l:List α} {m:List β} (h:F2 R l m):l.length=m.length:=by
 induction h with
 | nil=>rfl
 | cons _ _ ih=>simp[ih]
theorem F2.of_get:∀ {l:List α} {m:List β},l.length=m.length→(∀(i:Nat) a b,l[i]?=some a→m[i]?=some b→R a b)→F2 R l m
 | [],[],_,_=>.nil
 | _::_,[],h,_=>by simp at h
 | [],_::_,h,_=>by simp at h
 | a::l,b::m,h,hr=>.cons (hr 0 a b rfl rfl) (F2.of_get (by simpa using h) fun i x y hx hy=>hr (i+1) x y (by simpa using hx) (by simpa using hy))
theorem F2.get {l:List α} {m:List β} (h:F2 R l m):∀(i:Nat) a b,l[i]?=some a→m[i]?=some b→R a b:=by
 induction h with
 | nil=>intro i a b h;simp at h
 | cons h0 _ ih =>
  intro i a b ha hb
  cases i with
  | zero=>simp only[List.getElem?_cons_zero,zx] at ha hb;subst ha;subst hb;exact h0
  | succ i=>exact ih i a b (by simpa using ha) (by simpa using hb)
theorem F2.app {l:List α} {m:List β} {l2:List α} {m2:List β} (h:F2 R l m) (h2:F2 R l2 m2):F2 R (l++l2) (m++m2):=by
 induction h with
 | nil=>exact h2
 | cons h0 _ ih=>exact .cons h0 ih
theorem F2.take {l:List α} {m:List β} (h:F2 R l m):∀ n,F2 R (l.take n) (m.take n):=by
 induction h with
 | nil=>intro n;simp;exact .nil
 | cons h0 _ ih=>intro n;cases n with
  | zero=>exact .nil
  | succ n=>exact .cons h0 (ih n)
theorem F2.drop {l:List α} {m:List β} (h:F2 R l m):∀ n,F2 R (l.drop n) (m.drop n):=by
 induction h with
 | nil=>intro n;simp;exact .nil
 | cons h0 h1 ih=>intro n;cases n with
  | zero=>exact .cons h0 h1
  | succ n=>exact ih n
theorem F2.getD {l:List α} {m:List β} (h:F2 R l m) {x:α} {y:β} (h0:R x y):∀ n,R (l.getD n x) (m.getD n y):=by
 induction h with
 | nil=>intro n;simpa using h0
 | cons h1 _ ih=>intro n;cases n with
  | zero=>simpa using h1
  | succ n=>simpa using ih n
theorem F2.getq {l:List α} {m:List β} (h:F2 R l m):∀ {n:Nat} {a:α},l[n]?=some a→∃ b,m[n]?=some b∧R a b:=by
 induction h with
 | nil=>intro n a h;simp at h
 | cons h1 _ ih=>intro n a ha;cases n with
  | zero=>simp only[List.getElem?_cons_zero,zx] at ha;subst ha;exact⟨_,rfl,h1⟩
  | succ n=>simpa using ih (by simpa using ha)
theorem F2.set {l:List α} {m:List β} (h:F2 R l m) {x:α} {y:β} (h0:R x y):∀ n,F2 R (l.set n x) (m.set n y):=by
 induction h with
 | nil=>intro n;exact .nil
 | cons h1 h2 ih=>intro n;cases n with
  | zero=>exact .cons h0 h2
  | succ n=>exact .cons h1 (ih n)
theorem F2.map {γ δ:Type} {S:γ→δ→Prop} {f:α→γ} {g:β→δ} {l:List α} {m:List β} (h:F2 R l m) (hf:∀ a b,R a b→S (f a) (g b)):F2 S (l.map f) (m.map g):=by
 induction h with
 | nil=>exact .nil
 | cons h1 _ ih=>exact .cons (hf _ _ h1) ih
theorem F2.rep {x:α} {y:β} (h0:R x y):∀ n,F2 R (List.replicate n x) (List.replicate n y)
 | 0=>.nil
 | n+1=>.cons h0 (F2.rep h0 n)
theorem F2.mono {S:α→β→Prop} {l:List α} {m:List β} (h:F2 R l m) (hf:∀ a b,R a b→S a b):F2 S l m:=by
 induction h with
 | nil=>exact .nil
 | cons h1 _ ih=>exact .cons (hf _ _ h1) ih
theorem F2.flat {l:List (List α)} {m:List (List β)} (h:F2 (F2 R) l m):F2 R l.flatten m.flatten:=by
 induction h with
 | nil=>exact .nil
 | cons h1 _ ih=>simp only[List.flatten_cons];exact h1.app ih
theorem F2.isnil {l:List α} {m:List β} (h:F2 R l m):l=[]↔m=[]:=by cases h<;>simp
end
abbrev Ren:=Nat→Option (Nat×Nat)
inductive RO (σ:Ren):Own→Own→Prop
 | no:RO σ .no .no
 | nil:RO σ .nil .nil
 | full:RO σ .full .full
 | tip {b d c e:Nat} (h:σ b=some (c,e)):RO σ (.tip b d) (.tip c (e+d))
inductive RV (σ:Ren):AV→AV→Prop
 | any:RV σ .any .any
 | bool (b):RV σ (.bool b) (.bool b)
 | ubool (p):RV σ (.ubool p) (.ubool p)
 | int (k n):RV σ (.int k n) (.int k n)
 | str (s):RV σ (.str s) (.str s)
 | agg {cs ds:List AV} (hl:cs.length=ds.length) (h:∀(i:Nat) c d,cs[i]?=some c→ds[i]?=some d→RV σ c d):RV σ (.agg cs) (.agg ds)
 | tup {cs ds:List AV} (hl:cs.length=ds.length) (h:∀(i:Nat) c d,cs[i]?=some c→ds[i]?=some d→RV σ c d):RV σ (.tup cs) (.tup ds)
 | sl {o p:Own} {sz:Nat} {xs ys:List (List AV)} (ho:RO σ o p) (hl:xs.length=ys.length) (hu:∀(i:Nat) x y,xs[i]?=some x→ys[i]?=some y→x.length=y.length)
  (h:∀(i:Nat) x y,xs[i]?=some x→ys[i]?=some y→∀(j:Nat) c d,x[j]?=some c→y[j]?=some d→RV σ c d):RV σ (.sl o sz xs) (.sl p sz ys)
 | nilp:RV σ .nilp .nilp
 | ptr {b off c e:Nat} (h:σ b=some (c,e)):RV σ (.ptr b off) (.ptr c off)
 | view {cs ds:List AV} (hl:cs.length=ds.length) (h:∀(i:Nat) c d,cs[i]?=some c→ds[i]?=some d→RV σ c d):RV σ (.view cs) (.view ds)
 | ms {b off len cap c e:Nat} (h:σ b=some (c,e)):RV σ (.ms b off len cap) (.ms c off len cap)
 | nilm:RV σ .nilm .nilm
 | mp {b c e:Nat} (h:σ b=some (c,e)):RV σ (.mp b) (.mp c)
 | clo {f:FuncId} {as bs cs ds:List AV} (hl:as.length=bs.length) (h:∀(i:Nat) c d,as[i]?=some c→bs[i]?=some d→RV σ c d)
  (hl':cs.length=ds.length) (h':∀(i:Nat) c d,cs[i]?=some c→ds[i]?=some d→RV σ c d):RV σ (.clo f as cs) (.clo f bs ds)
 | oth (v):RV σ (.oth v) (.oth v)
 | ifc {t:TypeId} {x y:AV} (h:RV σ x y):RV σ (.ifc t x) (.ifc t y)
abbrev RL (σ:Ren):=F2 (RV σ)
abbrev Qm (σ:Ren):=F2 (F2 (RV σ))
section
variable {σ τ:Ren}
theorem RV.aggL {cs ds:List AV} (h:RL σ cs ds):RV σ (.agg cs) (.agg ds):=.agg h.len h.get
theorem RV.tupL {cs ds:List AV} (h:RL σ cs ds):RV σ (.tup cs) (.tup ds):=.tup h.len h.get
theorem RV.viewL {cs ds:List AV} (h:RL σ cs ds):RV σ (.view cs) (.view ds):=.view h.len h.get
theorem RV.slL {o p:Own} {sz:Nat} {xs ys:List (List AV)} (ho:RO σ o p) (h:Qm σ xs ys):RV σ (.sl o sz xs) (.sl p sz ys) :=
 .sl ho h.len (fun i x y hx hy=>(h.get i x y hx hy).len) (fun i x y hx hy=>(h.get i x y hx hy).get)
theorem RV.cloL {f:FuncId} {as bs cs ds:List AV} (h:RL σ as bs) (h':RL σ cs ds):RV σ (.clo f as cs) (.clo f bs ds):=.clo h.len h.get h'.len h'.get
theorem RV.bool_inv {b:Bool} {v:AV} (h:RV σ (.bool b) v):v=.bool b:=by cases h;rfl
theorem RV.ubool_inv {b:Prop} {v:AV} (h:RV σ (.ubool b) v):v=.ubool b:=by cases h;rfl
theorem RV.int_inv {k:IntKind} {n:Int} {v:AV} (h:RV σ (.int k n) v):v=.int k n:=by cases h;rfl
theorem RV.str_inv {s:List UInt8} {v:AV} (h:RV σ (.str s) v):v=.str s:=by cases h;rfl
theorem RV.nilp_inv {v:AV} (h:RV σ .nilp v):v=.nilp:=by cases h;rfl
theorem RV.nilm_inv {v:AV} (h:RV σ .nilm v):v=.nilm:=by cases h;rfl
theorem RV.oth_inv {x:Value} {v:AV} (h:RV σ (.oth x) v):v=.oth x:=by cases h;rfl
theorem RV.agg_inv {cs:List AV} {v:AV} (h:RV σ (.agg cs) v):∃ ds,v=.agg ds∧RL σ cs ds:=by cases h with|agg hl h=>exact⟨_,rfl,F2.of_get hl h⟩
theorem RV.tup_inv {cs:List AV} {v:AV} (h:RV σ (.tup cs) v):∃ ds,v=.tup ds∧RL σ cs ds:=by cases h with|tup hl h=>exact⟨_,rfl,F2.of_get hl h⟩
theorem RV.view_inv {cs:List AV} {v:AV} (h:RV σ (.view cs) v):∃ ds,v=.view ds∧RL σ cs ds:=by cases h with|view hl h=>exact⟨_,rfl,F2.of_get hl h⟩
theorem RV.sl_inv {o:Own} {sz:Nat} {xs:List (List AV)} {v:AV} (h:RV σ (.sl o sz xs) v):∃ p ys,v=.sl p sz ys∧RO σ o p∧Qm σ xs ys:=by
 cases h with|sl ho hl hu h=>exact⟨_,_,rfl,ho,F2.of_get hl fun i x y hx hy=>F2.of_get (hu i x y hx hy) (h i x y hx hy)⟩
theorem RV.ptr_inv {b off:Nat} {v:AV} (h:RV σ (.ptr b off) v):∃ c e,v=.ptr c off∧σ b=some (c,e):=by cases h with|ptr h=>exact⟨_,_,rfl,h⟩
theorem RV.ms_inv {b off n m:Nat} {v:AV} (h:RV σ (.ms b off n m) v):∃ c e,v=.ms c off n m∧σ b=some (c,e):=by cases h with|ms h=>exact⟨_,_,rfl,h⟩
theorem RV.mp_inv {b:Nat} {v:AV} (h:RV σ (.mp b) v):∃ c e,v=.mp c∧σ b=some (c,e):=by cases h with|mp h=>exact⟨_,_,rfl,h⟩
theorem RV.clo_inv {f:FuncId} {as cs:List AV} {v:AV} (h:RV σ (.clo f as cs) v):∃ bs ds,v=.clo f bs ds∧RL σ as bs∧RL σ cs ds:=by
 cases h with|clo hl h hl' h'=>exact⟨_,_,rfl,F2.of_get hl h,F2.of_get hl' h'⟩
theorem RV.ifc_inv {t:TypeId} {x v:AV} (h:RV σ (.ifc t x) v):∃ y,v=.ifc t y∧RV σ x y:=by cases h with|ifc h=>exact⟨_,rfl,h⟩
def Ren.le (σ τ:Ren):Prop:=∀ b x,σ b=some x→τ b=some x
theorem RO.mono (m:σ.le τ) {o p:Own} (h:RO σ o p):RO τ o p:=by
 cases h with
 | tip h=>exact .tip (m _ _ h)
 | no=>exact .no
 | nil=>exact .nil
 | full=>exact .full
theorem RV.mono (m:σ.le τ) {x y:AV} (h:RV σ x y):RV τ x y:=by
 induction h with
 | any=>exact .any
 | bool b=>exact .bool b
 | ubool p=>exact .ubool p
 | int k n=>exact .int k n
 | str s=>exact .str s
 | agg hl _ ih=>exact .agg hl ih
 | tup hl _ ih=>exact .tup hl ih
 | sl ho hl hu _ ih=>exact .sl (ho.mono m) hl hu ih
 | nilp=>exact .nilp
 | ptr h=>exact .ptr (m _ _ h)
 | view hl _ ih=>exact .view hl ih
 | ms h=>exact .ms (m _ _ h)
 | nilm=>exact .nilm
 | mp h=>exact .mp (m _ _ h)
 | clo hl _ hl' _ ih ih'=>exact .clo hl ih hl' ih'
 | oth v=>exact .oth v
 | ifc _ ih=>exact .ifc ih
theorem RL.mono (m:σ.le τ) {x y:List AV} (h:RL σ x y):RL τ x y:=F2.mono h fun _ _ h=>h.mono m
theorem F2.det {α β:Type} {R S:α→β→Prop} {l:List α} {m m2:List β} (h:F2 R l m) (hd:∀ a b c,R a b→S a c→b=c) (h2:F2 S l m2):m=m2:=by
 induction h generalizing m2 with
 | nil=>cases h2;rfl
 | cons h0 _ ih=>cases h2 with|cons g0 g1=>rw[hd _ _ _ h0 g0,ih g1]
theorem RO.det {o p q:Own} (h:RO σ o p) (h':RO σ o q):p=q:=by
 cases h with
 | tip h=>cases h' with|tip g=>rw[h] at g;cases g;rfl
 | no=>cases h';rfl
 | nil=>cases h';rfl
 | full=>cases h';rfl
theorem RV.det {x y z:AV} (h:RV σ x y) (h':RV σ x z):y=z:=by
 have key:∀ {cs ds es:List AV},cs.length=ds.length→(∀(i:Nat) c d,cs[i]?=some c→ds[i]?=some d→∀ z,RV σ c z→d=z)→RL σ cs es→ds=es:=fun hl ih he =>
  F2.det (R:=fun c d=>∀ z,RV σ c z→d=z) (F2.of_get hl ih) (fun a b c hr hs=>hr c hs) he
 induction h generalizing z with
 | any=>cases h';rfl
 | bool b=>exact h'.bool_inv.symm
 | ubool p=>exact h'.ubool_inv.symm
 | int k n=>exact h'.int_inv.symm
 | str s=>exact h'.str_inv.symm
 | agg hl _ ih =>
  obtain⟨ds,rfl,hd⟩:=h'.agg_inv
  rw[key hl (fun i c d hc hd=>fun z hz=>ih i c d hc hd hz) hd]
 | tup hl _ ih =>
  obtain⟨ds,rfl,hd⟩:=h'.tup_inv
  rw[key hl (fun i c d hc hd=>fun z hz=>ih i c d hc hd hz) hd]
 | view hl _ ih =>
  obtain⟨ds,rfl,hd⟩:=h'.view_inv
  rw[key hl (fun i c d hc hd=>fun z hz=>ih i c d hc hd hz) hd]
 | sl ho hl hu _ ih =>
  obtain⟨p,ys,rfl,hp,hy⟩:=h'.sl_inv
  rw[ho.det hp]
  congr 1
  refine F2.det (R:=fun x y=>x.length=y.length∧∀(j:Nat) c d,x[j]?=some c→y[j]?=some d→∀ z,RV σ c z→d=z) (F2.of_get hl fun i x y hx hy=>⟨hu i x y hx hy,fun j c d hc hd=>fun z hz=>ih i x y hx hy j c d hc hd hz⟩) (fun a b c hr hs=>key hr.1 hr.2 hs) hy
 | nilp=>exact h'.nilp_inv.symm
 | ptr h=>obtain⟨c,e,rfl,g⟩:=h'.ptr_inv;rw[h] at g;cases g;rfl
 | ms h=>obtain⟨c,e,rfl,g⟩:=h'.ms_inv;rw[h] at g;cases g;rfl
 | nilm=>exact h'.nilm_inv.symm
 | mp h=>obtain⟨c,e,rfl,g⟩:=h'.mp_inv;rw[h] at g;cases g;rfl
 | clo hl _ hl' _ ih ih' =>
  obtain⟨bs,ds,rfl,hb,hd⟩:=h'.clo_inv
  rw[key hl (fun i c d hc hd=>fun z hz=>ih i c d hc hd hz) hb,key hl' (fun i c d hc hd=>fun z hz=>ih' i c d hc hd hz) hd]
 | oth v=>exact h'.oth_inv.symm
 | ifc _ ih=>obtain⟨y,rfl,hy⟩:=h'.ifc_inv;rw[ih hy]
end
mutual
def AV.free:AV→Bool
 | .any|.bool _|.ubool _|.int _ _|.str _|.nilp|.nilm|.oth _=>true
 | .agg cs=>AV.frees cs
 | .tup cs=>AV.frees cs
 | .view cs=>AV.frees cs
 | .sl o _ xs=>(match o with|.tip _ _=>false|_=>true)&&AV.freess xs
 | .clo _ a b=>AV.frees a&&AV.frees b
 | .ifc _ x=>AV.free x
 | .slx _ _ _|.ptr _ _|.ms _ _ _ _|.mp _=>false
def AV.frees:List AV→Bool
 | []=>true
 | c::r=>AV.free c&&AV.frees r
def AV.freess:List (List AV)→Bool
 | []=>true
 | c::r=>AV.frees c&&AV.freess r
end
mutual
theorem AV.free_rv {σ:Ren}:∀ c:AV,c.free=true→RV σ c c
 | .any,_=>.any
 | .bool b,_=>.bool b
 | .ubool b,_=>.ubool b
 | .int k n,_=>.int k n
 | .str s,_=>.str s
 | .nilp,_=>.nilp
 | .nilm,_=>.nilm
 | .oth v,_=>.oth v
 | .agg cs,h=>.aggL (AV.frees_rl cs (by simpa[AV.free] using h))
 | .tup cs,h=>.tupL (AV.frees_rl cs (by simpa[AV.free] using h))
 | .view cs,h=>.viewL (AV.frees_rl cs (by simpa[AV.free] using h))
 | .sl o sz xs,h=>by
  simp only[AV.free,zH] at h
  refine .slL ?_ (AV.freess_rl xs h.2)
  cases o with
  | tip b d=>simp at h
  | no=>exact .no
  | nil=>exact .nil
  | full=>exact .full
 | .clo f a b,h=>by
  simp only[AV.free,zH] at h
  exact .cloL (AV.frees_rl a h.1) (AV.frees_rl b h.2)
 | .ifc t x,h=>.ifc (AV.free_rv x (by simpa[AV.free] using h))
 | .slx _ _ _,h=>by simp[AV.free] at h
 | .ptr _ _,h=>by simp[AV.free] at h
 | .ms _ _ _ _,h=>by simp[AV.free] at h
 | .mp _,h=>by simp[AV.free] at h
theorem AV.frees_rl {σ:Ren}:∀ c:List AV,AV.frees c=true→RL σ c c
 | [],_=>.nil
 | c::r,h=>by
  simp only[AV.frees,zH] at h
  exact .cons (AV.free_rv c h.1) (AV.frees_rl r h.2)
theorem AV.freess_rl {σ:Ren}:∀ c:List (List AV),AV.freess c=true→Qm σ c c
 | [],_=>.nil
 | c::r,h=>by
  simp only[AV.freess,zH] at h
  exact .cons (AV.frees_rl c h.1) (AV.freess_rl r h.2)
end
def RE (σ:Ren) (ρ ρ':Env):Prop:=∀ n,RV σ (ρ n) (ρ' n)
def zu.okc:zu→Bool
 | .t _=>true
 | .k c=>c.free
def SM:Option zu→Bool
 | some x=>x.okc
 | none=>true
def z6.okc:z6→Bool
 | .mv x|.nilchk x|.isnil _ x|.isnn _ x|.ifnil _ x|.ineg x|.not x|.cvi _ x|.cvid x|.cvb2s x|.ext x _|.mki _ x|.fa _ x|.fld _ _ _ x|.len x|.lens x|.boxv x|.ld _ _ x|.lenm x|.box x|.pan x|.frz _ x=>x.okc
 | .tas _ z x=>z.free&&x.okc
 | .pick a b c=>a.okc&&b.okc&&c.okc
 | .bi _ _ x y|.shf _ x y|.bs _ x y|.bb _ x y|.eqa _ _ x y|.ia _ x y|.iar _ _ x y|.ixs x y|.st _ x y|.app _ _ x y|.apps x y|.slar _ x y|.slaf _ _ x y=>x.okc&&y.okc
 | .sllx _ _ _=>false
 | .lkp _ z _ x y=>z.free&&x.okc&&y.okc
 | .appm _ _ z x y|.appm2 _ _ z x y=>AV.frees z&&x.okc&&y.okc
 | .bld z qs=>AV.frees z&&qs.all fun q=>q.2.2.okc
 | .bls _ _ z qs|.bls2 _ _ z qs|.blsm _ _ z qs=>AV.frees z&&qs.all fun q=>q.2.okc
 | .mkfn _ a b=>a.all zu.okc&&b.all zu.okc
 | .sls x lo hi=>x.okc&&SM lo&&SM hi
 | .sll _ x lo hi mx=>x.okc&&SM lo&&SM hi&&SM mx
 | .mm _ x ys=>x.okc&&ys.all zu.okc
 | .mks _ _ x=>x.okc
 | .mksn z _ x=>AV.frees z&&x.okc
 | .alloc z=>AV.frees z
 | .mkm _=>true
 | .mup _ a b c=>a.okc&&b.okc&&c.okc
 | .call _ args=>args.all zu.okc
 | .callv g args=>g.okc&&args.all zu.okc
section
variable {σ:Ren} {ρ ρ':Env}
theorem RE.ev (h:RE σ ρ ρ') {x:zu} (hx:x.okc=true):RV σ (x.ev ρ) (x.ev ρ'):=by
 cases x with
 | t n=>exact h n
 | k c=>exact c.free_rv hx
theorem RE.evs (h:RE σ ρ ρ'):∀ {xs:List zu},xs.all zu.okc=true→RL σ (xs.map (zu.ev ρ)) (xs.map (zu.ev ρ'))
 | [],_=>.nil
 | x::xs,hx=>by
  simp only[List.all_cons,zH] at hx
  exact .cons (h.ev hx.1) (h.evs hx.2)
theorem RE.set (h:RE σ ρ ρ') {d:Option Nat} {v w:AV} (hv:RV σ v w):RE σ (ρ.set d v) (ρ'.set d w):=by
 cases d with
 | none=>exact h
 | some d =>
  intro n
  simp only[Env.set]
  split
  ·exact hv
  ·exact h n
theorem RV.strip1 {c d:AV} (h:RV σ c d):RV σ c.strip1 d.strip1:=by
 cases h with
 | sl ho hl hu h=>exact .sl .no hl hu h
 | any=>exact .any
 | bool b=>exact .bool b
 | ubool p=>exact .ubool p
 | int k n=>exact .int k n
 | str s=>exact .str s
 | agg hl h=>exact .agg hl h
 | tup hl h=>exact .tup hl h
 | nilp=>exact .nilp
 | ptr h=>exact .ptr h
 | view hl h=>exact .view hl h
 | ms h=>exact .ms h
 | nilm=>exact .nilm
 | mp h=>exact .mp h
 | clo hl h hl' h'=>exact .clo hl h hl' h'
 | oth v=>exact .oth v
 | ifc h=>exact .ifc h
theorem RV.strip2 {c d:AV} (h:RV σ c d):RV σ c.strip2 d.strip2:=by
 cases h with
 | sl ho hl hu h =>
  cases ho with
  | tip hs=>exact .sl .no hl hu h
  | no=>exact .sl .no hl hu h
  | nil=>exact .sl .nil hl hu h
  | full=>exact .sl .full hl hu h
 | any=>exact .any
 | bool b=>exact .bool b
 | ubool p=>exact .ubool p
 | int k n=>exact .int k n
 | str s=>exact .str s
 | agg hl h=>exact .agg hl h
 | tup hl h=>exact .tup hl h
 | nilp=>exact .nilp
 | ptr h=>exact .ptr h
 | view hl h=>exact .view hl h
 | ms h=>exact .ms h
 | nilm=>exact .nilm
 | mp h=>exact .mp h
 | clo hl h hl' h'=>exact .clo hl h hl' h'
 | oth v=>exact .oth v
 | ifc h=>exact .ifc h
theorem RL.strip2 {c d:List AV} (h:RL σ c d):RL σ (c.map AV.strip2) (d.map AV.strip2):=F2.map h fun _ _ h=>h.strip2
theorem RL.strip1 {c d:List AV} (h:RL σ c d):RL σ (c.map AV.strip1) (d.map AV.strip1):=F2.map h fun _ _ h=>h.strip1
theorem Qm.strip1 {c d:List (List AV)} (h:Qm σ c d):Qm σ (c.map (·.map AV.strip1)) (d.map (·.map AV.strip1)):=F2.map h fun _ _ h=>RL.strip1 h
theorem RV.strip {c d:AV} (h:RV σ c d):RV σ c.strip d.strip:=by
 cases h with
 | agg hl h=>exact .aggL (RL.strip1 (F2.of_get hl h))
 | tup hl h =>
  refine .tupL (F2.map (F2.of_get hl h) fun a b hab=>?_)
  cases hab with
  | agg hl h=>exact .aggL (RL.strip1 (F2.of_get hl h))
  | sl ho hl hu h=>exact .sl .no hl hu h
  | any=>exact .any
  | bool b=>exact .bool b
  | ubool p=>exact .ubool p
  | int k n=>exact .int k n
  | str s=>exact .str s
  | tup hl h=>exact .tup hl h
  | nilp=>exact .nilp
  | ptr h=>exact .ptr h
  | view hl h=>exact .view hl h
  | ms h=>exact .ms h
  | nilm=>exact .nilm
  | mp h=>exact .mp h
  | clo hl h hl' h'=>exact .clo hl h hl' h'
  | oth v=>exact .oth v
  | ifc h=>exact .ifc h
 | sl ho hl hu h=>exact .sl .no hl hu h
 | any=>exact .any
 | bool b=>exact .bool b
 | ubool p=>exact .ubool p
 | int k n=>exact .int k n
 | str s=>exact .str s
 | nilp=>exact .nilp
 | ptr h=>exact .ptr h
 | view hl h=>exact .view hl h
 | ms h=>exact .ms h
 | nilm=>exact .nilm
 | mp h=>exact .mp h
 | clo hl h hl' h'=>exact .clo hl h hl' h'
 | oth v=>exact .oth v
 | ifc h=>exact .ifc h
theorem RV.cells {c d:AV} (h:RV σ c d):RL σ c.cells d.cells:=by
 cases h with
 | agg hl h=>exact F2.of_get hl h
 | _=>exact .cons (by constructor<;>assumption) .nil
theorem RV.boxable {c d:AV} (h:RV σ c d):c.boxable=d.boxable:=by cases h<;>rfl
theorem RV.mk {ag:Bool} {c d:List AV} (h:RL σ c d):RV σ (Go.Ab.mk ag c) (Go.Ab.mk ag d):=by
 cases ag with
 | true=>exact .aggL h
 | false=>cases h with
  | nil=>exact .any
  | cons h _=>exact h
theorem RL.splice {cs ds v w:List AV} (h:RL σ cs ds) (hv:RL σ v w) (off:Nat):RL σ (Go.Ab.splice cs off v) (Go.Ab.splice ds off w):=by
 unfold Go.Ab.splice
 rw[hv.len]
 exact((F2.take h off).app hv).app (F2.drop h _)
theorem VP (h:RE σ ρ ρ'):∀ {qs:List (Nat×Nat×zu)} {cs ds:List AV},(qs.all fun q=>q.2.2.okc)=true→RL σ cs ds→∀ {r},Zp ρ cs qs=some r→∃ r',Zp ρ' ds qs=some r'∧RL σ r r'
 | [],cs,ds,_,hc,r,hr=>by
  simp only[Zp,zx] at hr ⊢
  subst hr;exact⟨_,rfl,hc⟩
 | (off,n,x)::qs,cs,ds,ho,hc,r,hr=>by
  simp only[List.all_cons,zH] at ho
  have hx:=h.ev ho.1
  simp only[Zp] at hr ⊢
  rw[← hx.boxable,← hx.cells.len,← hc.len]
  split at hr
  ·rename_i hc2
   rw[if_pos hc2]
   exact VP h ho.2 (RL.splice hc hx.cells off) hr
  ·cases hr
theorem YZ {S:AV→AV} (hS:∀ {c d:List AV},RL σ c d→RL σ (c.map S) (d.map S)) (h:RE σ ρ ρ') {sz:Nat}:∀ {qs:List (Nat×zu)} {cs ds:List (List AV)},(qs.all fun q=>q.2.okc)=true→Qm σ cs ds→∀ {r},yH S ρ sz cs qs=some r→∃ r',yH S ρ' sz ds qs=some r'∧Qm σ r r'
 | [],cs,ds,_,hc,r,hr=>by
  simp only[yH,zx] at hr ⊢
  subst hr;exact⟨_,rfl,hc⟩
 | (i,x)::qs,cs,ds,ho,hc,r,hr=>by
  simp only[List.all_cons,zH] at ho
  have hx:=h.ev ho.1
  simp only[yH] at hr ⊢
  rw[← hx.boxable,← hx.cells.len,← hc.len]
  split at hr
  ·rename_i hc2
   rw[if_pos hc2]
   exact YZ hS h ho.2 (F2.set hc (hS hx.cells) i) hr
  ·cases hr
theorem yU (h:RE σ ρ ρ') {d:Nat} {x:Option zu} (hx:SM x=true) {n:Int} (hn:bound d ρ x=some n):bound d ρ' x=some n:=by
 cases x with
 | none=>exact hn
 | some x =>
  have hr:=h.ev (x:=x) hx
  simp only[bound] at hn ⊢
  split at hn
  ·rename_i e;rw[e] at hr;rw[hr.int_inv];exact hn
  ·cases hn
theorem Ub (h:RE σ ρ ρ') {mx:Bool} {k:IntKind}:∀ {ys:List zu} {a r:Int},ys.all zu.okc=true→ZG mx k ρ a ys=some r→ZG mx k ρ' a ys=some r
 | [],a,r,_,hr=>hr
 | y::ys,a,r,ho,hr=>by
  simp only[List.all_cons,zH] at ho
  have hy:=h.ev ho.1
  simp only[ZG] at hr ⊢
  split at hr
  ·rename_i k' b e
   rw[e] at hy
   rw[hy.int_inv]
   simp only
   split at hr
   ·rename_i hk
    rw[if_pos hk]
    exact Ub h ho.2 hr
   ·cases hr
  ·cases hr
theorem Tc:∀ {xs ys:List (List AV)} {s:List UInt8},Qm σ xs ys→Yw xs=some s→Yw ys=some s
 | [],_,s,h,hs=>by cases h;exact hs
 | []::r,_,s,h,hs=>by simp[Yw] at hs
 | [c]::r,_,s,h,hs=>by
  cases h with
  | cons h1 h2 =>
   cases h1 with
   | cons h3 h4 =>
    cases h4
    cases h3<;>first|(simp[Yw] at hs;done)|skip
    rename_i k n
    cases k<;>first|(simp[Yw] at hs;done)|skip
    simp only[Yw] at hs ⊢
    split at hs
    ·rename_i hc
     rw[if_pos hc]
     cases hb:Yw r with
     | none=>simp[hb] at hs
     | some t =>
      rw[hb] at hs
      rw[Tc h2 hb]
      exact hs
    ·cases hs
 | (c::d::x)::r,_,s,h,hs=>by simp[Yw] at hs
theorem Qh {a b a' b':AV} (h:RV σ a a') (h2:RV σ b b'):a.keq1 b=a'.keq1 b':=by
 cases h<;>cases h2<;>rfl
theorem Tu {a a':List AV} (h:RL σ a a'):∀ {b b':List AV},RL σ b b'→Yh a b=Yh a' b':=by
 induction h with
 | nil=>intro b b' h2;cases h2<;>rfl
 | cons h0 _ ih=>intro b b' h2;cases h2 with
  | nil=>rfl
  | cons g0 g1=>simp only[Yh,Qh h0 g0,ih g1]
theorem T2 {a b a' b':AV} (h:RV σ a a') (h2:RV σ b b'):a.keq b=a'.keq b':=by
 cases h with
 | agg hl h=>cases h2 with
  | agg hl2 h2=>exact Tu (F2.of_get hl h) (F2.of_get hl2 h2)
  | _=>rfl
 | _=>cases h2<;>rfl
theorem VR {k:K1} {a a':AV} (h:RV σ a a'):k.fits a=k.fits a':=by
 cases k<;>cases h<;>rfl
theorem YC {a a':List AV} (h:RL σ a a'):∀ ks,zJ ks a=zJ ks a':=by
 induction h with
 | nil=>intro ks;rfl
 | cons h0 _ ih=>intro ks;cases ks with
  | nil=>rfl
  | cons k ks=>simp only[zJ,VR h0,ih]
theorem Tj {kt:KT} {a a':AV} (h:RV σ a a'):kt.fits a=kt.fits a':=by
 cases kt with
 | one k=>exact VR h
 | agg ks=>cases h<;>first|rfl|exact YC (F2.of_get ‹_› ‹_›) ks
end
end Go.Ab
