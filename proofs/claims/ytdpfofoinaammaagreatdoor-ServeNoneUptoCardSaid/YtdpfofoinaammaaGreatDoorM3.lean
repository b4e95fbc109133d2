import Derived.Defers
import Derived.Test.YtdpfofoinaammaaGreatDoorM2
set_option maxRecDepth 100000
set_option linter.all false
namespace Go.Ab
section
variable {σ:Ren} {ρ ρ':Env}
theorem QG (h:RE σ ρ ρ') {o:z6} (ho:o.okc=true) {v:AV} (hv:zY ρ o=some v):∃ v',zY ρ' o=some v'∧RV σ v v':=by
 cases o with
 | mv x =>
  simp only[zY,zx] at hv ⊢
  subst hv;exact⟨_,rfl,h.ev ho⟩
 | pick c a b =>
  simp only[z6.okc,zH] at ho
  have hc:=h.ev ho.1.1
  simp only[zY] at hv ⊢
  split at hv
  ·rename_i t e
   rw[e] at hc;rw[hc.bool_inv]
   simp only[zx] at hv ⊢
   subst hv
   refine⟨_,rfl,?_⟩
   cases t
   ·exact h.ev ho.2
   ·exact h.ev ho.1.2
  ·cases hv
 | nilchk x =>
  have hx:=h.ev (x:=x) ho
  simp only[zY] at hv ⊢
  split at hv
  ·rename_i b o e
   rw[e] at hx;obtain⟨c,d,e2,hs⟩:=hx.ptr_inv;rw[e2]
   simp only[zx] at hv ⊢;subst hv;exact⟨_,rfl,.ptr hs⟩
  ·rename_i cs e
   rw[e] at hx;obtain⟨ds,e2,hs⟩:=hx.view_inv;rw[e2]
   simp only[zx] at hv ⊢;subst hv;exact⟨_,rfl,.viewL hs⟩
  ·rename_i f a b e
   rw[e] at hx;obtain⟨bs,ds,e2,h1,h2⟩:=hx.clo_inv;rw[e2]
   simp only[zx] at hv ⊢;subst hv;exact⟨_,rfl,.cloL h1 h2⟩
  ·cases hv
 | bi op k x y =>
  simp only[z6.okc,zH] at ho
  have hx:=h.ev ho.1
  have hy:=h.ev ho.2
  simp only[zY] at hv ⊢
  split at hv
  ·rename_i k1 a k2 b e1 e2
   rw[e1] at hx;rw[e2] at hy;rw[hx.int_inv,hy.int_inv]
   simp only
   split at hv
   ·rename_i hk
    rw[if_pos hk]
    refine⟨v,hv,?_⟩
    cases op<;>simp only[yR] at hv<;>(try split at hv)<;>first|(cases hv;done)|(simp only[zx] at hv;subst hv;first|exact .int _ _|exact .bool _)
   ·cases hv
  ·cases hv
 | shf op x y =>
  simp only[z6.okc,zH] at ho
  have hx:=h.ev ho.1
  have hy:=h.ev ho.2
  simp only[zY] at hv ⊢
  split at hv
  ·rename_i k1 a k2 b e1 e2
   rw[e1] at hx;rw[e2] at hy;rw[hx.int_inv,hy.int_inv]
   refine⟨v,hv,?_⟩
   cases op<;>simp only[RR] at hv<;>(try split at hv)<;>first|(cases hv;done)|(simp only[zx] at hv;subst hv;exact .int _ _)
  ·cases hv
 | bs op x y =>
  simp only[z6.okc,zH] at ho
  have hx:=h.ev ho.1
  have hy:=h.ev ho.2
  simp only[zY] at hv ⊢
  split at hv
  ·rename_i a b e1 e2
   rw[e1] at hx;rw[e2] at hy;rw[hx.str_inv,hy.str_inv]
   refine⟨v,hv,?_⟩
   cases op<;>simp only[Rd] at hv<;>(try split at hv)<;>first|(cases hv;done)|(simp only[zx] at hv;subst hv;first|exact .str _|exact .bool _)
  ·cases hv
 | bb neg x y =>
  simp only[z6.okc,zH] at ho
  have hx:=h.ev ho.1
  have hy:=h.ev ho.2
  simp only[zY] at hv ⊢
  split at hv
  ·rename_i a b e1 e2
   rw[e1] at hx;rw[e2] at hy;rw[hx.bool_inv,hy.bool_inv]
   simp only[zx] at hv ⊢;subst hv;exact⟨_,rfl,.bool _⟩
  ·cases hv
 | eqa neg ks x y =>
  simp only[z6.okc,zH] at ho
  have hx:=h.ev ho.1
  have hy:=h.ev ho.2
  simp only[zY] at hv ⊢
  split at hv
  ·rename_i as bs e1 e2
   rw[e1] at hx;rw[e2] at hy
   obtain⟨cs,e3,h3⟩:=hx.agg_inv
   obtain⟨ds,e4,h4⟩:=hy.agg_inv
   rw[e3,e4]
   simp only
   rw[← YC h3,← YC h4,← Tu h3 h4]
   refine⟨v,hv,?_⟩
   split at hv
   ·simp only[zx] at hv;subst hv;exact .bool _
   ·cases hv
  ·cases hv
 | isnil nk x =>
  have hx:=h.ev (x:=x) ho
  simp only[zY] at hv ⊢
  generalize x.ev ρ=a at hx hv
  generalize x.ev ρ'=b at hx
  cases nk with
  | s =>
   cases hx with
   | sl ho2 hl hu h2 =>
    have hn:=(F2.of_get (R:=fun _ _=>True) hl (fun _ _ _ _ _=>trivial)).isnil
    cases ho2<;>simp only[zx] at hv ⊢<;>subst hv<;>refine⟨_,rfl,?_⟩
    ·rw[show (_=[])=(_=[]) from propext hn];exact .ubool _
    ·exact .bool _
    ·rw[show (_=[])=(_=[]) from propext hn];exact .ubool _
    ·rw[show (_=[])=(_=[]) from propext hn];exact .ubool _
   | _=>cases hv
  | p =>
   cases hx<;>first|(cases hv;done)|(simp only[zx] at hv ⊢;subst hv;exact⟨_,rfl,.bool _⟩)
  | m =>
   cases hx<;>first|(cases hv;done)|(simp only[zx] at hv ⊢;subst hv;exact⟨_,rfl,.bool _⟩)
  | f =>
   cases hx with
   | oth v=>cases v<;>first|(cases hv;done)|(simp only[zx] at hv ⊢;subst hv;exact⟨_,rfl,.bool _⟩)
   | clo hl h hl' h'=>simp only[zx] at hv ⊢;subst hv;exact⟨_,rfl,.bool _⟩
   | _=>cases hv
 | isnn nk x =>
  have hx:=h.ev (x:=x) ho
  simp only[zY] at hv ⊢
  generalize x.ev ρ=a at hx hv
  generalize x.ev ρ'=b at hx
  cases nk with
  | s=>cases hx<;>cases hv
  | p =>
   cases hx<;>first|(cases hv;done)|(simp only[zx] at hv ⊢;subst hv;exact⟨_,rfl,.bool _⟩)
  | m =>
   cases hx<;>first|(cases hv;done)|(simp only[zx] at hv ⊢;subst hv;exact⟨_,rfl,.bool _⟩)
  | f =>
   cases hx with
   | oth v=>cases v<;>first|(cases hv;done)|(simp only[zx] at hv ⊢;subst hv;exact⟨_,rfl,.bool _⟩)
   | clo hl h hl' h'=>simp only[zx] at hv ⊢;subst hv;exact⟨_,rfl,.bool _⟩
   | _=>cases hv
 | not x =>
  have hx:=h.ev (x:=x) ho
  simp only[zY] at hv ⊢
  split at hv
  ·rename_i t e
   rw[e] at hx;rw[hx.bool_inv]
   simp only[zx] at hv ⊢;subst hv;exact⟨_,rfl,.bool _⟩
  ·cases hv
 | ineg x =>
  have hx:=h.ev (x:=x) ho
  simp only[zY] at hv ⊢
  split at hv
  ·rename_i k n e
   rw[e] at hx;rw[hx.int_inv]
   simp only[zx] at hv ⊢;subst hv;exact⟨_,rfl,.int _ _⟩
  ·cases hv
 | cvi k x =>
  have hx:=h.ev (x:=x) ho
  simp only[zY] at hv ⊢
  split at hv
  ·rename_i k2 n e
   rw[e] at hx;rw[hx.int_inv]
   simp only[zx] at hv ⊢;subst hv;exact⟨_,rfl,.int _ _⟩
  ·cases hv
 | cvid x =>
  have hx:=h.ev (x:=x) ho
  simp only[zY] at hv ⊢
  split at hv
  ·rename_i s e
   rw[e] at hx;rw[hx.str_inv]
   simp only[zx] at hv ⊢;subst hv;exact⟨_,rfl,.str _⟩
  ·cases hv
 | cvb2s x =>
  have hx:=h.ev (x:=x) ho
  simp only[zY] at hv ⊢
  split at hv
  ·rename_i o xs e
   rw[e] at hx;obtain⟨p,ys,e2,_,h2⟩:=hx.sl_inv;rw[e2]
   cases hb:Yw xs with
   | none=>simp[hb] at hv
   | some s =>
    rw[hb] at hv
    simp only[yv,zx] at hv
    subst hv
    simp only[Tc h2 hb]
    exact⟨_,rfl,.str _⟩
  ·cases hv
 | bld z qs =>
  simp only[z6.okc,zH] at ho
  simp only[zY] at hv ⊢
  cases hf:Zp ρ z qs with
  | none=>simp[hf] at hv
  | some r =>
   obtain⟨r',h1,h2⟩:=VP h ho.2 (AV.frees_rl z ho.1) hf
   rw[hf] at hv;rw[h1]
   simp only[yv,zx] at hv ⊢
   subst hv;exact⟨_,rfl,.aggL h2⟩
 | bls sz n z qs =>
  simp only[z6.okc,zH] at ho
  simp only[zY] at hv ⊢
  split at hv
  ·rename_i hc
   rw[if_pos hc]
   cases hf:yH AV.strip1 ρ sz (List.replicate n z) qs with
   | none=>simp[hf] at hv
   | some r =>
    obtain⟨r',h1,h2⟩:=YZ RL.strip1 h ho.2 (F2.rep (AV.frees_rl z ho.1) n) hf
    rw[hf] at hv;rw[h1]
    simp only[yv,zx] at hv ⊢
    subst hv;exact⟨_,rfl,.slL .full h2⟩
  ·cases hv
 | bls2 sz n z qs =>
  simp only[z6.okc,zH] at ho
  simp only[zY] at hv ⊢
  split at hv
  ·rename_i hc
   rw[if_pos hc]
   cases hf:yH AV.strip2 ρ sz (List.replicate n z) qs with
   | none=>simp[hf] at hv
   | some r =>
    obtain⟨r',h1,h2⟩:=YZ RL.strip2 h ho.2 (F2.rep (AV.frees_rl z ho.1) n) hf
    rw[hf] at hv;rw[h1]
    simp only[yv,zx] at hv ⊢
    subst hv;exact⟨_,rfl,.slL .full h2⟩
  ·cases hv
 | mkfn f a b =>
  simp only[z6.okc,zH] at ho
  simp only[zY,zx] at hv ⊢
  subst hv;exact⟨_,rfl,.cloL (h.evs ho.1) (h.evs ho.2)⟩
 | ext x i =>
  have hx:=h.ev (x:=x) ho
  simp only[zY] at hv ⊢
  split at hv
  ·rename_i vs e
   rw[e] at hx;obtain⟨ds,e2,h2⟩:=hx.tup_inv;rw[e2]
   exact F2.getq h2 hv
  ·cases hv
 | mki t x =>
  simp only[zY,zx] at hv ⊢
  subst hv;exact⟨_,rfl,.ifc (h.ev ho)⟩
 | fa off x =>
  have hx:=h.ev (x:=x) ho
  simp only[zY] at hv ⊢
  split at hv
  ·rename_i b o e
   rw[e] at hx;obtain⟨c,d,e2,hs⟩:=hx.ptr_inv;rw[e2]
   simp only[zx] at hv ⊢;subst hv;exact⟨_,rfl,.ptr hs⟩
  ·rename_i cs e
   rw[e] at hx;obtain⟨ds,e2,hs⟩:=hx.view_inv;rw[e2]
   simp only[zx] at hv ⊢;subst hv;exact⟨_,rfl,.viewL (F2.drop hs off)⟩
  ·cases hv
 | fld off n ag x =>
  have hx:=h.ev (x:=x) ho
  simp only[zY] at hv ⊢
  split at hv
  ·rename_i cs e
   rw[e] at hx;obtain⟨ds,e2,hs⟩:=hx.agg_inv;rw[e2]
   simp only
   rw[← hs.len]
   split at hv
   ·rename_i hc
    rw[if_pos hc]
    simp only[zx] at hv ⊢;subst hv;exact⟨_,rfl,.mk (F2.take (F2.drop hs off) n)⟩
   ·cases hv
  ·cases hv
 | ia sz x i =>
  simp only[z6.okc,zH] at ho
  have hx:=h.ev ho.1
  have hi:=h.ev ho.2
  simp only[zY] at hv ⊢
  split at hv
  ·rename_i o sz' xs k n e1 e2
   rw[e1] at hx;rw[e2] at hi
   obtain⟨p,ys,e3,_,h3⟩:=hx.sl_inv
   rw[e3,hi.int_inv]
   simp only
   rw[← h3.len]
   split at hv
   ·rename_i hc
    rw[if_pos hc]
    simp only[zx] at hv ⊢;subst hv;exact⟨_,rfl,.viewL (F2.getD h3 .nil _)⟩
   ·cases hv
  ·rename_i b off len cap k n e1 e2
   rw[e1] at hx;rw[e2] at hi
   obtain⟨c,d,e3,h3⟩:=hx.ms_inv
   rw[e3,hi.int_inv]
   simp only
   split at hv
   ·rename_i hc
    rw[if_pos hc]
    simp only[zx] at hv ⊢;subst hv;exact⟨_,rfl,.ptr h3⟩
   ·cases hv
  ·cases hv
 | iar n sz x i =>
  simp only[z6.okc,zH] at ho
  have hx:=h.ev ho.1
  have hi:=h.ev ho.2
  simp only[zY] at hv ⊢
  split at hv
  ·rename_i b off k m e1 e2
   rw[e1] at hx;rw[e2] at hi
   obtain⟨c,d,e3,h3⟩:=hx.ptr_inv
   rw[e3,hi.int_inv]
   simp only
   split at hv
   ·rename_i hc
    rw[if_pos hc]
    simp only[zx] at hv ⊢;subst hv;exact⟨_,rfl,.ptr h3⟩
   ·cases hv
  ·cases hv
 | ixs x i =>
  simp only[z6.okc,zH] at ho
  have hx:=h.ev ho.1
  have hi:=h.ev ho.2
  simp only[zY] at hv ⊢
  split at hv
  ·rename_i s k n e1 e2
   rw[e1] at hx;rw[e2] at hi
   rw[hx.str_inv,hi.int_inv]
   refine⟨v,hv,?_⟩
   split at hv
   ·simp only[zx] at hv;subst hv;exact .int _ _
   ·cases hv
  ·cases hv
 | sls x lo hi =>
  simp only[z6.okc,zH] at ho
  have hx:=h.ev ho.1.1
  simp only[zY] at hv ⊢
  split at hv
  ·rename_i s e1
   rw[e1] at hx
   rw[hx.str_inv]
   simp only
   split at hv
   ·rename_i l hh e2 e3
    rw[yU h ho.1.2 e2,yU h ho.2 e3]
    refine⟨v,hv,?_⟩
    split at hv
    ·simp only[zx] at hv;subst hv;exact .str _
    ·cases hv
   ·cases hv
  ·cases hv
 | sll sz x lo hi mx =>
  simp only[z6.okc,zH] at ho
  have hx:=h.ev ho.1.1.1
  simp only[zY] at hv ⊢
  split at hv
  ·rename_i o sz' xs e1
   rw[e1] at hx
   obtain⟨p,ys,e3,hp,h3⟩:=hx.sl_inv
   rw[e3]
   simp only
   rw[← h3.len]
   have hcut:∀ l,RO σ (o.cut l) (p.cut l):=fun l=>by
    cases hp with
    | tip hs=>simp only[Own.cut];rw[show ∀ e d:Nat,e+d+l=e+(d+l) from fun e d=>by omega];exact .tip hs
    | no=>exact .no
    | nil=>exact .nil
    | full=>exact .full
   split at hv
   ·rename_i l hh e4 e5
    rw[yU h ho.1.1.2 e4,yU h ho.1.2 e5]
    simp only
    split at hv
    ·rename_i hc
     rw[if_pos hc]
     simp only[zx] at hv ⊢;subst hv
     refine⟨_,rfl,.slL ?_ (F2.drop (F2.take h3 _) _)⟩
     split
     ·exact hcut _
     ·exact .no
    ·cases hv
   ·rename_i l hh m e4 e5
    rw[yU h ho.1.1.2 e4,yU h ho.1.2 e5]
    simp only
    split at hv
    ·rename_i k m2 e6
     have hm:=h.ev (x:=m) ho.2
     rw[e6] at hm
     rw[hm.int_inv]
     simp only
     split at hv
     ·rename_i hc
      rw[if_pos hc]
      simp only[zx] at hv ⊢;subst hv
      refine⟨_,rfl,.slL ?_ (F2.drop (F2.take h3 _) _)⟩
      split
      ·exact .full
      ·exact .no
     ·cases hv
    ·cases hv
   ·cases hv
  ·rename_i b off len cap e1
   rw[e1] at hx
   obtain⟨c,d,e3,h3⟩:=hx.ms_inv
   rw[e3]
   simp only
   split at hv
   ·cases e4:bound 0 ρ lo with
    | none=>rw[e4] at hv;simp[W9] at hv
    | some l =>
     cases e5:bound len ρ hi with
     | none=>rw[e4,e5] at hv;simp[W9] at hv
     | some hh =>
      rw[e4,e5] at hv
      rw[yU h ho.1.1.2 e4,yU h ho.1.2 e5]
      simp only[W9] at hv ⊢
      split at hv
      ·rename_i hc
       rw[if_pos hc]
       simp only[zx] at hv ⊢;subst hv;exact⟨_,rfl,.ms h3⟩
      ·cases hv
   ·cases hv
  ·cases hv
 | sllx sz x hi=>simp[z6.okc] at ho
 | slar n x hi =>
  simp only[z6.okc,zH] at ho
  have hx:=h.ev ho.1
  have hi:=h.ev ho.2
  simp only[zY] at hv ⊢
  split at hv
  ·rename_i b off k hh e1 e2
   rw[e1] at hx;rw[e2] at hi
   obtain⟨c,d,e3,h3⟩:=hx.ptr_inv
   rw[e3,hi.int_inv]
   simp only
   split at hv
   ·rename_i hc
    rw[if_pos hc]
    simp only[zx] at hv ⊢;subst hv;exact⟨_,rfl,.ms h3⟩
   ·cases hv
  ·cases hv
 | lens x =>
  have hx:=h.ev (x:=x) ho
  simp only[zY] at hv ⊢
  split at hv
  ·rename_i s e
   rw[e] at hx;rw[hx.str_inv]
   simp only[zx] at hv ⊢;subst hv;exact⟨_,rfl,.int _ _⟩
  ·cases hv
 | len x =>
  have hx:=h.ev (x:=x) ho
  simp only[zY] at hv ⊢
  split at hv
  ·rename_i o sz xs e
   rw[e] at hx;obtain⟨p,ys,e2,_,h2⟩:=hx.sl_inv;rw[e2]
   simp only[zx] at hv ⊢;subst hv;rw[h2.len];exact⟨_,rfl,.int _ _⟩
  ·rename_i sz xs ys e
   rw[e] at hx;cases hx
  ·rename_i b off n cap e
   rw[e] at hx;obtain⟨c,d,e2,h2⟩:=hx.ms_inv;rw[e2]
   simp only[zx] at hv ⊢;subst hv;exact⟨_,rfl,.int _ _⟩
  ·cases hv
 | mm mx x ys =>
  simp only[z6.okc,zH] at ho
  have hx:=h.ev ho.1
  simp only[zY] at hv ⊢
  split at hv
  ·rename_i k a e
   rw[e] at hx;rw[hx.int_inv]
   cases hm:ZG mx k ρ a ys with
   | none=>simp[hm] at hv
   | some r =>
    rw[hm] at hv
    simp only[yv,zx] at hv
    subst hv
    simp only[Ub h ho.2 hm]
    exact⟨_,rfl,.int _ _⟩
  ·cases hv
 | ifnil neg x =>
  have hx:=h.ev (x:=x) ho
  simp only[zY] at hv ⊢
  split at hv
  ·rename_i e
   rw[e] at hx;rw[hx.oth_inv]
   simp only[zx] at hv ⊢;subst hv;exact⟨_,rfl,.bool _⟩
  ·rename_i t y e
   rw[e] at hx;obtain⟨z,e2,_⟩:=hx.ifc_inv;rw[e2]
   simp only[zx] at hv ⊢;subst hv;exact⟨_,rfl,.bool _⟩
  ·cases hv
 | tas t z x =>
  simp only[z6.okc,zH] at ho
  have hx:=h.ev ho.2
  have hz:=z.free_rv (σ:=σ) ho.1
  simp only[zY] at hv ⊢
  split at hv
  ·rename_i e
   rw[e] at hx;rw[hx.oth_inv]
   simp only[zx] at hv ⊢;subst hv;exact⟨_,rfl,.tupL (.cons hz (.cons (.bool _) .nil))⟩
  ·rename_i t' y e
   rw[e] at hx;obtain⟨w,e2,hw⟩:=hx.ifc_inv;rw[e2]
   simp only[zx] at hv ⊢;subst hv
   refine⟨_,rfl,?_⟩
   split
   ·exact .tupL (.cons hw (.cons (.bool _) .nil))
   ·exact .tupL (.cons hz (.cons (.bool _) .nil))
  ·cases hv
 | boxv x =>
  have hx:=h.ev (x:=x) ho
  simp only[zY] at hv ⊢
  rw[← hx.boxable]
  split at hv
  ·rename_i hc
   rw[if_pos hc]
   simp only[zx] at hv ⊢;subst hv;exact⟨_,rfl,.viewL hx.cells⟩
  ·cases hv
 | ld|lkp|lenm|alloc|box|mkm|st|mup|app|apps|mks|mksn|blsm|appm|appm2|frz|slaf|call|callv|pan=>simp[zY] at hv
end
structure Uc where
 N:Nat
 np:Nat
 lo:Nat
 pre:AC
 blk:AC
 items:List zg
 g:Nat
 body:AC
 res:List XL
 mid:Option AC:=none
def Up (o:Oper) (g:Nat):Bool :=
 o.dst.isNone&&o.guard.isNone&&(match o.op with
  | .defer c=>(match c.callee with|.value (.tmp t)=>decide (t=g)|_=>false)&&decide (c.args.size=0)
  | _=>false)
theorem UI {o:Oper} {g:Nat} (h:Up o g=true):o.dst=none∧o.guard=none∧∃ c,o.op=.defer c∧c.callee=.value (.tmp g)∧c.args=#[]:=by
 unfold Up at h
 simp only[zH,Option.isNone_iff_eq_none] at h
 obtain⟨⟨h1,h2⟩,h3⟩:=h
 refine⟨h1,h2,?_⟩
 split at h3
 ·rename_i c hc
  simp only[zH,zU] at h3
  obtain⟨h3,h4⟩:=h3
  split at h3
  ·rename_i t hcal
   simp only[zU] at h3
   subst h3
   exact⟨c,hc,hcal,by simpa using h4⟩
  ·cases h3
 ·cases h3
def WX (P:Program) (sp:Uc):Code→Bool
 | .seq cb (.seq (.region _ ops false) rest)=>zE P sp.N 0 cb sp.blk&&decide (ops.size=sp.items.length+1) &&
  ((ops.toList.zip sp.items).all fun x=>yt sp.N 0 ops P x.1 x.2)&&(match ops[sp.items.length]? with|some o=>Up o sp.g|none=>false)&&zE P sp.N sp.lo rest sp.body&&sp.blk.plain&&sp.body.plain
 | _=>false
def R9 (P:Program) (sp:Uc):Option AC→Code→Bool
 | none,r=>WX P sp r
 | some m,.seq cm r=>zE P sp.N 0 cm m&&m.plain&&WX P sp r
 | some _,_=>false
def Va (P:Program) (f:FuncId) (sp:Uc):Bool :=
 match P.funcs[f]? with
 | some fn=>match fn.body with
  | some (.seq c0 r)=>decide (fn.ntmps=sp.N)&&decide (sp.np≤sp.N)&&decide (sp.lo≤sp.N)&&Zb P fn.results.toList sp.res &&
   zE P sp.N 0 c0 sp.pre&&sp.pre.plain&&R9 P sp sp.mid r
  | _=>false
 | none=>false
def Rw (sp:Uc) (Q:zZ→zb→Prop) (ρ1:Env):zb→Prop:=fun H=>∃ vs,yl (ρ1.keep (List.range sp.lo)) H sp.res=some vs∧∃ H',Yt H' H∧Q (.ret (zL vs)) H'
def NN (P:Program) (Q:zZ→zb→Prop) (sp:Uc) (ρ1:Env) (H1:zb):Prop :=
 ∃ f caps,ρ1 sp.g=.clo f [] caps∧Program.callable P f=true ∧
  Yr P (fun c H=>∃ H0,Yt H0 H∧yE P f caps (some c) H0 (Rw sp Q ρ1)) sp.body (fun e _ H=>match e with|.exit _=>False|_=>∃ H0,Yt H0 H∧yE P f caps none H0 (Rw sp Q ρ1)) ρ1 H1
def XC (fin:Env→zb→Prop) (K:Env→zb→Prop):zP→Env→zb→Prop
 | .normal,ρ,H=>K ρ H
 | .ret,ρ,H=>fin ρ H
 | .exit _,_,_=>False
def QK (P:Program) (Q:zZ→zb→Prop) (sp:Uc) (ρ:Env) (H:zb):Prop :=
 Yr P (Xx Q) sp.blk (XC (YE sp.res Q .ret) fun ρ H=>zO P (Xx Q) (ya sp.items) ρ H fun ρ1 H1=>NN P Q sp ρ1 H1) ρ H
def Ms (P:Program) (Q:zZ→zb→Prop) (sp:Uc):Option AC→Env→zb→Prop
 | none,ρ,H=>QK P Q sp ρ H
 | some m,ρ,H=>Yr P (Xx Q) m (XC (YE sp.res Q .ret) fun ρ H=>QK P Q sp ρ H) ρ H
def N3 (P:Program) (Q:zZ→zb→Prop) (sp:Uc) (ρ:Env) (H:zb):Prop :=
 Yr P (Xx Q) sp.pre (XC (YE sp.res Q .ret) fun ρ H=>Ms P Q sp sp.mid ρ H) ρ H
theorem Xu {P:Program} {ops:Array Oper} {Q:Exit→Act→World→Prop} (l2:List Nat):∀(l1:List Nat) (a:Act) (w:World),
  wpOps P ops (fun e=>match e with|.normal=>wpOps P ops Q l2|e=>Q e) l1 a w→wpOps P ops Q (l1++l2) a w
 | [],a,w,h=>h
 | i::l,a,w,h=>by
  rw[My]
  simp only[wpOps] at h ⊢
  have ih:=Xu (P:=P) (ops:=ops) (Q:=Q) l2 l
  cases ho:ops[i]? with
  | none=>simp only[ho] at h;exact ih _ _ h
  | some o =>
   simp only[ho] at h
   by_cases hw:Region.wanted o (yielded ops a.tmps)=true
   ·simp only[hw,if_true] at h ⊢
    rcases h with h|⟨h1,a0,w0,h0⟩
    ·left
     unfold Oper.wp at *
     generalize (execOp a.eval o).run P w=r at *
     cases r with
     | ok n w' =>
      cases n<;>simp only[Oper.upon] at h ⊢ <;>
       first
        | exact ih _ _ h
        | exact Calls.mono h (fun e w'' he=>by cases e<;>first|exact ih _ _ he|exact he)
        | exact Rows.mono h (fun _ _ he=>ih _ _ he)
     | halt x w'=>cases x<;>simp only[Oper.upon] at h ⊢<;>exact h
    ·exact .inr ⟨h1,a0,w0,h0⟩
   ·simp only[hw,V6,if_false] at h ⊢
    exact ih _ _ h
theorem RU (ρ:Env) (l:List Nat) (n:Nat):(ρ.keep l) n=if n∈l then ρ n else .any:=by
 unfold Env.keep
 induction l with
 | nil=>rfl
 | cons x l ih =>
  simp only[List.map_cons,zd,ih,List.mem_cons]
  by_cases h:n=x
  ·subst h;simp
  ·simp[h]
theorem zt.of_sp {P:Program} {f:FuncId} (sp:Uc) (hc:Va P f sp=true) {args:List AV} {H:zb} {Q:zZ→zb→Prop} (hnp:args.length≤sp.np)
  (h:N3 P Q sp (zd (zX 0 args)) H):zt P f args H Q:=by
 intro γ w vs ht hs hv
 unfold Va at hc
 cases hfn:P.funcs[f]? with
 | none=>simp[hfn] at hc
 | some fn =>
  simp only[hfn] at hc
  split at hc
  ·rename_i c0 r0 hbody
   simp only[zH,zU] at hc
   obtain⟨⟨⟨⟨⟨⟨hN,hnpN⟩,hlo⟩,hres⟩,hc0⟩,hp1⟩,hcm⟩:=hc
   refine calls_of_wp_defers hfn hbody ?_
   have hlen:vs.toArray.size≤sp.N:=by simp only[List.size_toArray];rw[← hv.1];omega
   have hinv:yi γ w H (Fx.plain sp.N) γ w H (zd (zX 0 args)) { tmps:=vs.toArray++Array.replicate (fn.ntmps-vs.toArray.size) undef,defers:=[] } :=
    ⟨.refl _ _ _,hs,zG.refl _ _,XR ht hv _,by show _=sp.N;rw[hN,Array.size_append,Array.size_replicate];omega,fun n hn=>absurd hn (Nat.not_lt_zero n),X7.init rfl⟩
   have fin:∀ γ' w' H' ρ' a',yi γ w H (Fx.plain sp.N) γ' w' H' ρ' a'→YE sp.res Q .ret ρ' H'→Leaves P fn a'.tmps (fun e w'=>∃ γ' H' r,yV (fun b=>(H b).isSome=true) γ w γ' w'∧zn γ' w' H' ∧
      (∀ b,(H' b).isSome=true→(H b).isSome=true∨w.heap.size≤b)∧X0 γ' w' e r∧Q r H') a'.defers .returning w':=by
    intro γ' w' H' ρ' a' h1 h2
    simp only[YE] at h2
    cases hr:yl ρ' H' sp.res with
    | none=>simp[hr] at h2
    | some cs =>
     simp only[hr] at h2
     obtain⟨H'',hsub,hq⟩:=h2
     obtain⟨v,hrun,hrep⟩:=YU (P:=P) h1.env h1.st hres hr
     rw[h1.df.plain rfl]
     exact⟨v,hrun,γ',H'',.ret (zL cs),h1.ext,hsub.st _ _ h1.st,fun b hb=>h1.keys b (hsub.keys b hb),hrep,hq⟩
   have pan:∀ ch a' w',Zy γ w H (Fx.plain sp.N) (Xx Q) ch a' w'→Leaves P fn a'.tmps (fun e w'=>∃ γ' H' r,yV (fun b=>(H b).isSome=true) γ w γ' w'∧zn γ' w' H' ∧
      (∀ b,(H' b).isSome=true→(H b).isSome=true∨w.heap.size≤b)∧X0 γ' w' e r∧Q r H') a'.defers (.panicking ch) w':=by
    intro ch a' w' he
    obtain⟨γ',H',c,v,rfl,hext,hst,hk,hrep,⟨H'',hsub,hq⟩,_,_,_,hdf⟩:=he
    rw[hdf.plain rfl]
    exact⟨γ',H'',.pan c,hext,hsub.st _ _ hst,fun b hb=>hk b (hsub.keys b hb),⟨v,rfl,hrep⟩,hq⟩
   have core:∀(r:Code),WX P sp r=true→∀ γ1 w' H1 ρ1 a',yi γ w H (Fx.plain sp.N) γ1 w' H1 ρ1 a'→QK P Q sp ρ1 H1→r.wp P (bodyPostD P fn (fun e w'=>∃ γ' H' r,yV (fun b=>(H b).isSome=true) γ w γ' w'∧zn γ' w' H' ∧
      (∀ b,(H' b).isSome=true→(H b).isSome=true∨w.heap.size≤b)∧X0 γ' w' e r∧Q r H')) a' w':=by
    intro r hcr γ1 w' H1 ρ1 a' hi1 h1
    unfold WX at hcr
    split at hcr
    rotate_left
    ·cases hcr
    rename_i cb id ops rest
    simp only[zH,zU] at hcr
    obtain⟨⟨⟨⟨⟨⟨hcb,hsz⟩,hall⟩,hdef⟩,hrest⟩,hp2⟩,hp3⟩:=hcr
    refine wp_seq (wp_mono (Za (F:=Fx.plain sp.N) (Y0 Q) sp.blk cb _ (.inl hp2) hcb γ1 w' H1 ρ1 a' hi1 h1) fun e a2 w2 he=>?_)
    cases e with
    | ret=>obtain⟨γ',H',ρ',h1,h2⟩:=he;exact fin γ' w2 H' ρ' a2 h1 h2
    | exit id=>obtain⟨γ',H',ρ',h1,h2⟩:=he;exact h2.elim
    | goto l=>exact he.elim
    | outgrown=>exact he.elim
    | panic ch=>exact pan ch a2 w2 he
    | normal =>
     obtain⟨γ2,H2,ρ2,hi2,h2⟩:=he
     refine wp_seq (wp_region ?_)
     rw[hsz,List.range_succ]
     refine Xu _ _ _ _ ?_
     refine yT (F:=Fx.plain sp.N) (KP:=Xx Q) (K:=fun ρ H=>NN P Q sp ρ H) (fun ch a w hp=>pan ch a w hp) (fun γ3 w3 H3 ρ3 a3 hi3 hS=>?_) (List.range sp.items.length) (ya sp.items) (by simp[ya]) (fun k i it hki hit=>?_) γ2 w2 H2 ρ2 a2 hi2 h2
     ·cases ho:ops[sp.items.length]? with
      | none=>simp[ho] at hdef
      | some o =>
       simp only[ho] at hdef
       obtain⟨hdst,hguard,cl,hop,hcal,hargs⟩:=UI hdef
       obtain⟨f',caps,hclo,hcallable,hbody'⟩:=hS
       have hrg:=hi3.env.rep sp.g
       rw[hclo] at hrg
       generalize hg:a3.tmps.getD sp.g undef=gv at hrg
       cases hrg with
       | clo _ _ _ vs0 us hl hl' hr hr' =>
        have hvs0:vs0=[]:=List.eq_nil_of_length_eq_zero (by simpa using hl.symm)
        subst hvs0
        have hw:Region.wanted o (yielded ops a3.tmps)=true:=by simp[Region.wanted,hguard]
        simp only[wpOps,ho,hw,if_true]
        left
        unfold Oper.wp
        have hrun:(execOp a3.eval o).run P w3=.ok (.defer ⟨.fn (.func f') us.toArray,#[]⟩) w3:=by
         simp[execOp,hop,hcal,hargs,resolve,Sem.run_bind,Result.andThen,Act.eval,hg,Deferred.ofValue]
        rw[hrun]
        simp only[Oper.upon,wpOps,hdst,Act.put]
        have hinv4:yi γ3 w3 H3 ⟨sp.N,sp.lo,a3.tmps,[⟨.fn (.func f') us.toArray,#[]⟩],false,[],0⟩ γ3 w3 H3 ρ3 { tmps:=a3.tmps,defers:=⟨.fn (.func f') us.toArray,#[]⟩::a3.defers } :=
         ⟨.refl _ _ _,hi3.st,zG.refl _ _,hi3.env,hi3.sz,fun n _=>rfl,by rw[hi3.df.plain rfl];exact X7.init rfl⟩
        have hdone:∀(γ':Gh) (w':World) (H' H0:zb) (a':Act) (rv:Option AV) (u:FrameMode),yV (keysOf H3) γ3 w3 γ' w'→zn γ' w' H'→zG H3 w3 H'→(∀ n,n<sp.lo→a'.tmps.getD n undef=a3.tmps.getD n undef) →
          a'.defers=[⟨.fn (.func f') us.toArray,#[]⟩]→(u=.returning∨∃ ch,u=.panicking ch)→Se γ' w' rv u→y1 γ' w'→Yt H0 H'→yE P f' caps rv H0 (Rw sp Q ρ3) →
          Leaves P fn a'.tmps (fun e w'=>∃ γ' H' r,yV (fun b=>(H b).isSome=true) γ w γ' w'∧zn γ' w' H' ∧
           (∀ b,(H' b).isSome=true→(H b).isSome=true∨w.heap.size≤b)∧X0 γ' w' e r∧Q r H') a'.defers u w':=by
         intro γ' w' H' H0 a' rv u hext hst hk hfx hdf hu hmode htab hlow hd
         rw[hdf]
         refine⟨by rcases hu with rfl|⟨ch,rfl⟩<;>simp,.func f',us.toArray,f',us.toArray,rfl,?_,?_⟩
         ·unfold Program.callable at hcallable
          cases hfn':P.funcs[f']? with
          | none=>simp[hfn'] at hcallable
          | some fn' =>
           simp only[hfn',zH,bne_iff_ne,ne_eq] at hcallable
           obtain⟨hb1,hname⟩:=hcallable
           obtain⟨bd,hb2⟩:=Yv.1 hb1
           simp[invoke,callFunc,hfn',hname,hb2]
         ·refine CallsD.mono (hd γ' w' us u htab (hlow.st _ _ hst) ⟨hl',fun i c v hc hv=>(hr' i c v hc hv).mono hext.mono⟩ hmode) fun e u' w'' hq=>?_
          obtain⟨γ'',H'',v,rfl,rfl,hext2,hst2,hk2,vs2,hres2,H4,hlow4,hq⟩:=hq
          have hset:settle (yM u)=.returning:=by
           cases rv with
           | none=>have:u=.returning:=hmode;subst this;rfl
           | some c=>obtain⟨v,rfl,_⟩:=hmode;rfl
          show Leaves P fn a'.tmps _ [] (settle (yM u)) w''
          rw[hset]
          have hm:=hext.mono.trans hext2.mono
          have henv:yj γ'' w'' (ρ3.keep (List.range sp.lo)) a'.tmps:=by
           refine⟨htab.mono hext2.mono,fun n=>?_⟩
           rw[RU]
           split
           ·rename_i hn
            rw[hfx n (List.mem_range.1 hn)]
            exact(hi3.env.rep n).mono hm
           ·exact .any _
          have hlt3:=hi3.ext.mono.size
          have hlt4:=hext.mono.size
          have k3:∀ b,(H' b).isSome=true→(H b).isSome=true∨w.heap.size≤b:=fun b hb=>by
           rcases hk b hb with h1|h1
           ·exact hi3.keys b h1
           ·exact .inr (by omega)
          obtain⟨v,hrun,hrep⟩:=YU (P:=P) (a:=a') henv hst2 hres hres2
          refine⟨v,hrun,γ'',H4,.ret (zL vs2),?_,hlow4.st _ _ hst2,fun b hb=>?_,hrep,hq⟩
          ·refine(hi3.ext.trans hext fun b hb h=>?_).trans hext2 fun b hb h=>?_
           ·rcases hi3.keys b h with h1|h1
            ·exact h1
            ·omega
           ·rcases k3 b (hlow.keys b h) with h1|h1
            ·exact h1
            ·omega
          ·rcases hk2 b (hlow4.keys b hb) with h1|h1
           ·exact k3 b (hlow.keys b h1)
           ·exact .inr (by omega)
        refine wp_mono (Za (F:=⟨sp.N,sp.lo,a3.tmps,[⟨.fn (.func f') us.toArray,#[]⟩],false,[],0⟩) (fun v H b o hb ⟨H0,hs,hq⟩=>⟨H0,hs.upd hb,hq⟩) sp.body rest _ (.inl hp3) hrest γ3 w3 H3 ρ3 _ hinv4 hbody') fun e a5 w5 he=>?_
        cases e with
        | exit id=>obtain⟨_,_,_,_,h5⟩:=he;exact h5.elim
        | goto l=>exact he.elim
        | outgrown=>exact he.elim
        | normal =>
         obtain⟨γ5,H5,ρ5,h5,H0,hlow,hd⟩:=he
         exact hdone γ5 w5 H5 H0 a5 none .returning h5.ext h5.st h5.keys h5.fx (h5.df.plain rfl) (.inl rfl) rfl h5.env.tab hlow hd
        | ret =>
         obtain⟨γ5,H5,ρ5,h5,H0,hlow,hd⟩:=he
         exact hdone γ5 w5 H5 H0 a5 none .returning h5.ext h5.st h5.keys h5.fx (h5.df.plain rfl) (.inl rfl) rfl h5.env.tab hlow hd
        | panic ch =>
         obtain⟨γ5,H5,c,v,rfl,hext,hst,hk,hrep,⟨H0,hlow,hd⟩,htab,hsz5,hfx,hdf⟩:=he
         exact hdone γ5 w5 H5 H0 a5 (some c) _ hext hst hk hfx (hdf.plain rfl) (.inr ⟨_,rfl⟩) ⟨v,rfl,hrep⟩ htab hlow hd
     ·have hk:k<sp.items.length∧i=k:=by
       rw[yK] at hki
       obtain⟨h1,h2⟩:=hki
       simp at h1 h2
       exact⟨h1,h2.symm⟩
      obtain⟨hk,rfl⟩:=hk
      simp only[ya,yr,Zh] at hit
      obtain⟨x,hx,rfl⟩:=hit
      have hko:i<ops.size:=by omega
      refine⟨ops[i],Array.getElem?_eq_getElem hko,?_⟩
      have hz:(ops.toList.zip sp.items)[i]?=some (ops[i],x):=by
       rw[List.getElem?_zip_eq_some]
       exact⟨by rw[Array.getElem?_toList];exact Array.getElem?_eq_getElem hko,hx⟩
      exact Zn.1 hall _ (List.mem_of_getElem? hz)
   refine wp_seq (wp_mono (Za (F:=Fx.plain sp.N) (Y0 Q) sp.pre c0 _ (.inl hp1) hc0 γ w H _ _ hinv h) fun e a' w' he=>?_)
   cases e with
   | ret=>obtain⟨γ',H',ρ',h1,h2⟩:=he;exact fin γ' w' H' ρ' a' h1 h2
   | exit id=>obtain⟨γ',H',ρ',h1,h2⟩:=he;exact h2.elim
   | goto l=>exact he.elim
   | outgrown=>exact he.elim
   | panic ch=>exact pan ch a' w' he
   | normal =>
    obtain⟨γ1,H1,ρ1,hi1,h1⟩:=he
    cases hmid:sp.mid with
    | none=>rw[hmid] at hcm h1;exact core r0 hcm γ1 w' H1 ρ1 a' hi1 h1
    | some m =>
     rw[hmid] at hcm h1
     unfold R9 at hcm
     split at hcm
     ·rename_i e;cases e
     ·rename_i m2 cm r e
      cases e
      simp only[zH] at hcm
      obtain⟨⟨hm1,hm2⟩,hm3⟩:=hcm
      refine wp_seq (wp_mono (Za (F:=Fx.plain sp.N) (Y0 Q) m cm _ (.inl hm2) hm1 γ1 w' H1 ρ1 a' hi1 h1) fun e a2 w2 he=>?_)
      cases e with
      | ret=>obtain⟨γ',H',ρ',h1,h2⟩:=he;exact fin γ' w2 H' ρ' a2 h1 h2
      | exit id=>obtain⟨γ',H',ρ',h1,h2⟩:=he;exact h2.elim
      | goto l=>exact he.elim
      | outgrown=>exact he.elim
      | panic ch=>exact pan ch a2 w2 he
      | normal =>
       obtain⟨γ2,H2,ρ2,hi2,h2⟩:=he
       exact core r hm3 γ2 w2 H2 ρ2 a2 hi2 h2
     ·cases hcm
  ·cases hc
mutual
def Zt:AV→AV→Bool
 | .any,.any=>true
 | .bool a,.bool b=>a==b
 | .int k a,.int k' b=>decide (k=k')&&decide (a=b)
 | .str a,.str b=>a==b
 | .agg a,.agg b=>Z2 a b
 | .tup a,.tup b=>Z2 a b
 | .view a,.view b=>Z2 a b
 | .sl o s a,.sl o' s' b=>decide (o=o')&&(decide (s=s')&&Xp a b)
 | .nilp,.nilp=>true
 | .nilm,.nilm=>true
 | .ptr a b,.ptr c d=>decide (a=c)&&decide (b=d)
 | .mp a,.mp b=>decide (a=b)
 | .ms a b c d,.ms a' b' c' d'=>decide (a=a')&&(decide (b=b')&&(decide (c=c')&&decide (d=d')))
 | .clo f a b,.clo g c d=>decide (f=g)&&(Z2 a c&&Z2 b d)
 | .ifc t a,.ifc u b=>decide (t=u)&&Zt a b
 | _,_=>false
def Z2:List AV→List AV→Bool
 | [],[]=>true
 | a::l,b::m=>Zt a b&&Z2 l m
 | _,_=>false
def Xp:List (List AV)→List (List AV)→Bool
 | [],[]=>true
 | a::l,b::m=>Z2 a b&&Xp l m
 | _,_=>false
end
mutual
theorem WU:∀ a b:AV,Zt a b=true→a=b
 | .any,b,h=>by cases b<;>simp[Zt] at h<;>rfl
 | .bool a,b,h=>by cases b<;>simp[Zt] at h;subst h;rfl
 | .ubool a,b,h=>by cases b<;>simp[Zt] at h
 | .int k a,b,h=>by cases b<;>simp[Zt] at h;obtain⟨rfl,rfl⟩:=h;rfl
 | .str a,b,h=>by cases b<;>simp[Zt] at h;subst h;rfl
 | .agg a,b,h=>by cases b<;>simp[Zt] at h;rw[Zk _ _ h]
 | .tup a,b,h=>by cases b<;>simp[Zt] at h;rw[Zk _ _ h]
 | .view a,b,h=>by cases b<;>simp[Zt] at h;rw[Zk _ _ h]
 | .sl o s a,b,h=>by cases b<;>simp[Zt] at h;obtain⟨rfl,rfl,h⟩:=h;rw[X8 _ _ h]
 | .slx s a c,b,h=>by cases b<;>simp[Zt] at h
 | .nilp,b,h=>by cases b<;>simp[Zt] at h<;>rfl
 | .nilm,b,h=>by cases b<;>simp[Zt] at h<;>rfl
 | .ptr a c,b,h=>by cases b<;>simp[Zt] at h;obtain⟨rfl,rfl⟩:=h;rfl
 | .mp a,b,h=>by cases b<;>simp[Zt] at h;subst h;rfl
 | .ms _ _ _ _,b,h=>by cases b<;>simp[Zt] at h;obtain⟨rfl,rfl,rfl,rfl⟩:=h;rfl
 | .clo _ x y,b,h=>by cases b<;>simp[Zt] at h;obtain⟨rfl,h1,h2⟩:=h;rw[Zk _ _ h1,Zk _ _ h2]
 | .oth _,b,h=>by cases b<;>simp[Zt] at h
 | .ifc _ x,b,h=>by cases b<;>simp[Zt] at h;obtain⟨rfl,h1⟩:=h;rw[WU _ _ h1]
theorem Zk:∀ a b:List AV,Z2 a b=true→a=b
 | [],[],_=>rfl
 | [],_::_,h=>by simp[Z2] at h
 | _::_,[],h=>by simp[Z2] at h
 | a::l,b::m,h=>by
  simp only[Z2,zH] at h
  rw[WU a b h.1,Zk l m h.2]
theorem X8:∀ a b:List (List AV),Xp a b=true→a=b
 | [],[],_=>rfl
 | [],_::_,h=>by simp[Xp] at h
 | _::_,[],h=>by simp[Xp] at h
 | a::l,b::m,h=>by
  simp only[Xp,zH] at h
  rw[Zk a b h.1,X8 l m h.2]
end
abbrev AH:=List (Nat×yf)
def AH.get:AH→zb
 | [],_=>none
 | (b,o)::r,c=>if c=b then some o else AH.get r c
def AH.put:AH→Nat→yf→AH
 | [],b,o=>[(b,o)]
 | (c,x)::r,b,o=>if b=c then (b,o)::r else (c,x)::AH.put r b o
def AH.del:AH→Nat→AH
 | [],_=>[]
 | (c,x)::r,b=>if b=c then AH.del r b else (c,x)::AH.del r b
theorem AH.get_cons (h:AH) (b:Nat) (o:yf):AH.get ((b,o)::h)=zb.upd h.get b o:=rfl
theorem AH.get_put (b:Nat) (o:yf):∀ h:AH,(h.put b o).get=zb.upd h.get b o
 | []=>rfl
 | (c,x)::r=>by
  simp only[AH.put]
  split
  ·rename_i e;subst e
   funext d;simp only[AH.get,zb.upd];split<;>rfl
  ·rename_i hn
   funext d
   simp only[AH.get,zb.upd,AH.get_put b o r]
   by_cases h1:d=c
   ·subst h1;rw[if_pos rfl,if_neg (Ne.symm hn),if_pos rfl]
   ·rw[if_neg h1,if_neg h1]
theorem AH.get_del (b:Nat):∀ h:AH,(h.del b).get=zb.del h.get b
 | []=>by funext d;simp[AH.del,AH.get,zb.del]
 | (c,x)::r=>by
  simp only[AH.del]
  split
  ·rename_i e;subst e
   rw[AH.get_del b r]
   funext d;simp only[AH.get,zb.del];split<;>rfl
  ·rename_i hn
   funext d
   simp only[AH.get,zb.del,AH.get_del b r]
   by_cases h1:d=c
   ·subst h1;rw[if_pos rfl,if_neg (Ne.symm hn),if_pos rfl]
   ·rw[if_neg h1,if_neg h1]
abbrev EL:=List (Nat×AV)
def EL.put:EL→Nat→AV→EL
 | [],d,c=>[(d,c)]
 | (n,x)::r,d,c=>if d=n then (d,c)::r else (n,x)::EL.put r d c
def EL.set (l:EL) (d:Option Nat) (c:AV):EL :=
 match d with
 | some d=>EL.put l d c
 | none=>l
theorem EL.put_eq (d:Nat) (c:AV):∀ l:EL,zd (EL.put l d c)=(zd l).set (some d) c
 | []=>by funext n;simp only[EL.put,zd,Env.set]
 | (n,x)::r=>by
  simp only[EL.put]
  split
  ·rename_i e;subst e
   funext k;simp only[zd,Env.set];split<;>rfl
  ·rename_i hn
   funext k
   have:=congrFun (EL.put_eq d c r) k
   simp only[zd,Env.set] at this ⊢
   rw[this]
   by_cases h1:k=n
   ·subst h1;rw[if_pos rfl,if_neg (Ne.symm hn),if_pos rfl]
   ·rw[if_neg h1,if_neg h1]
theorem EL.set_eq (d:Option Nat) (c:AV) (l:EL):zd (EL.set l d c)=(zd l).set d c:=by
 cases d with
 | none=>rfl
 | some d=>exact EL.put_eq d c l
def EL.keep (l:EL) (k:List Nat):EL:=k.map fun n=>(n,zd l n)
theorem EL.keep_eq (l:EL) (k:List Nat):zd (EL.keep l k)=(zd l).keep k:=rfl
abbrev ER:=Option (zZ×Nat×AH)
abbrev ym:=FuncId→List AV→Nat→AH→ER
def rt (r:Option (AV×Nat×AH)):ER:=match r with
 | some (v,nx,h)=>some (.ret v,nx,h)
 | none=>none
def Un (ρ:Env) (H:zb):List yQ→Bool
 | []=>true
 | (d,g,o)::r=>(match gv g ρ with
  | some true=>match rev ρ H o with
   | some v=>Zt v (ρ d)
   | none=>false
  | _=>true)&&Un ρ H r
def Sb (o:Own) (sz:Nat) (xs:List (List AV)) (nx:Nat) (h:AH):List (List AV)→Option (AV×Nat×AH)
 | []=>some (.sl o sz xs,nx,h)
 | y::r=>some (.sl (.tip nx 0) sz (xs++(y::r).map (·.map AV.strip1)),nx+1,(nx,.tip (xs.length+(y::r).length) sz)::h)
def T4 (sz bytes:Nat) (x y:AV) (nx:Nat) (h:AH):Option (AV×Nat×AH) :=
 match x,y with
 | .sl o s1 xs,.sl _ s2 ys =>
  if s1=sz∧s2=sz∧(xs.length+ys.length)*bytes≤140737488355328∧xs.length+ys.length≤maxLen then
   match o with
   | .no=>none
   | .nil|.full=>Sb o sz xs nx h ys
   | .tip b d=>match h.get b with
    | some (.tip n s)=>if n=d+xs.length∧s=sz then some (.sl (.tip nx 0) sz (xs++ys.map (·.map AV.strip1)),nx+1,(nx,.tip (xs.length+ys.length) sz)::h.del b) else none
    | _=>none
  else none
 | _,_=>none
def Wr (ρ:Env) (nx:Nat) (h:AH):z6→Option (AV×Nat×AH)
 | .st n x y=>match x.ev ρ with
  | .ptr b off=>match h.get b with
   | some (.cells cs)=>if (y.ev ρ).cells.length=n∧off+n≤cs.length∧(y.ev ρ).boxable=true then some (.tup [],nx,h.put b (.cells (splice cs off (y.ev ρ).cells))) else none
   | _=>none
  | _=>none
 | .mup kt m k v=>match m.ev ρ with
  | .mp b=>match h.get b with
   | some (.map kt' es)=>if kt'=kt∧kt.fits (k.ev ρ)=true then some (.tup [],nx,h.put b (.map kt (XX es (k.ev ρ) (v.ev ρ)))) else none
   | _=>none
  | _=>none
 | .app sz bytes x y=>T4 sz bytes (x.ev ρ) (y.ev ρ) nx h
 | .apps x y=>match y.ev ρ with
  | .str s=>T4 1 1 (x.ev ρ) (.sl .no 1 (bytesOf s)) nx h
  | _=>none
 | _=>none
def yb (P:Program) (call:ym) (ρ:Env) (nx:Nat) (h:AH) (o:z6):ER :=
 match o.cls with
 | .pure=>match zY ρ o with
  | some v=>some (.ret v,nx,h)
  | none=>none
 | .read=>match rev ρ h.get o with
  | some v=>some (.ret v,nx,h)
  | none=>none
 | .alloc=>match ZN ρ o with
  | some x=>some (.ret (ZC ρ nx o),nx+1,(nx,x)::h)
  | none=>none
 | .eff=>match o with
  | .call f args=>call f (args.map (zu.ev ρ)) nx h
  | .callv g args=>match g.ev ρ with
   | .clo f first caps=>if Program.callable P f=true then call f (first++args.map (zu.ev ρ)++caps) nx h else none
   | _=>none
  | .pan x=>match x.ev ρ with
   | .ifc t y=>some (.pan (.ifc t y),nx,h)
   | _=>none
  | o=>rt (Wr ρ nx h o)
inductive XI where
 | ok (l:EL)
 | pan (v:AV)
def yA (P:Program) (call:ym):List (zg×List yQ)→EL→Nat→AH→Option (XI×Nat×AH)
 | [],l,nx,h=>some (.ok l,nx,h)
 | it::r,l,nx,h=>match gv it.1.guard (zd l) with
  | some true=>match yb P call (zd l) nx h it.1.op with
   | some (.ret v,nx',h')=>if Un (zd (EL.set l it.1.dst v)) h'.get it.2=true then yA P call r (EL.set l it.1.dst v) nx' h' else none
   | some (.pan v,nx',h')=>some (.pan v,nx',h')
   | none=>none
  | some false=>yA P call r (EL.set l it.1.dst (.tup [])) nx h
  | none=>none
inductive EX where
 | n (x:zP) (l:EL)
 | p (v:AV)
abbrev CR:=Option (EX×Nat×AH)
def XJ (P:Program) (call:ym):Nat→AC→EL→Nat→AH→CR
 | 0,_,_,_,_=>none
 | m+1,c,l,nx,h=>match c with
  | .skip=>some (.n .normal l,nx,h)
  | .reg _ items=>match yA P call (ya items) l nx h with
   | some (.ok l,nx,h)=>some (.n .normal l,nx,h)
   | some (.pan v,nx,h)=>some (.p v,nx,h)
   | none=>none
  | .seq a b=>match XJ P call m a l nx h with
   | some (.n .normal l,nx,h)=>XJ P call m b l nx h
   | r=>r
  | .join keep a b=>match XJ P call m a l nx h with
   | some (.n .normal l,nx,h)=>XJ P call m b (EL.keep l keep) nx h
   | r=>r
  | .cond c t e=>match c.ev (zd l) with
   | .bool true=>XJ P call m t l nx h
   | .bool false=>XJ P call m e l nx h
   | _=>none
  | .block id b=>match XJ P call m b l nx h with
   | some (.n (.exit i) l,nx,h)=>if i=id then some (.n .normal l,nx,h) else some (.n (.exit i) l,nx,h)
   | r=>r
  | .loop keep b=>match XJ P call m b (EL.keep l keep) nx h with
   | some (.n .normal l,nx,h)=>XJ P call m (.loop keep b) l nx h
   | r=>r
  | .scope b=>XJ P call m b l nx h
  | .exit id=>some (.n (.exit id) l,nx,h)
  | .ret=>some (.n .ret l,nx,h)
  | .rfun _ _ _ _=>none
  | .both _ _=>none
inductive UU where
 | fn (af:zf) (whole:Bool)
 | sp (s:Uc) (df:FuncId) (d:X9) (whole:Bool)
def Xd (res:List XL) (r:CR):ER:=match r with
 | some (.n (.exit _) _,_,_)=>none
 | some (.n _ l,nx,h)=>match yl (zd l) h.get res with
  | some vs=>some (.ret (zL vs),nx,h)
  | none=>none
 | some (.p v,nx,h)=>some (.pan v,nx,h)
 | none=>none
def evThen (res:List XL) (r:CR) (k:EL→Nat→AH→ER):ER:=match r with
 | some (.n .normal l,nx,h)=>k l nx h
 | r=>Xd res r
def Wj (P:Program) (call:ym) (fuel:Nat) (s:Uc) (d:X9) (caps:List AV) (rv:Option AV) (l1:EL) (nx:Nat) (h:AH):ER :=
 if d.np<caps.length then none else
 match yA P call (ya d.items) (EL.set (zX 0 caps) (some d.d) (rv.getD (.oth .nilIface))) nx h with
 | some (.ok l,nx,h)=>match XJ P call fuel d.body l nx h with
  | some (.n (.exit _) _,_,_)=>none
  | some (.n _ _,nx,h)=>match yl ((zd l1).keep (List.range s.lo)) h.get s.res with
   | some vs=>some (.ret (zL vs),nx,h)
   | none=>none
  | _=>none
 | _=>none
def TC (P:Program) (call:ym) (fuel:Nat) (s:Uc) (df:FuncId) (d:X9) (args:List AV) (nx:Nat) (h:AH):ER :=
 evThen s.res (XJ P call fuel s.pre (zX 0 args) nx h) fun l nx h =>
 evThen s.res (match s.mid with
  | none=>some (.n .normal l,nx,h)
  | some m=>XJ P call fuel m l nx h) fun l nx h =>
 evThen s.res (XJ P call fuel s.blk l nx h) fun l nx h =>
 match yA P call (ya s.items) l nx h with
 | some (.ok l1,nx,h)=>match zd l1 s.g with
  | .clo f [] caps=>if f=df∧Program.callable P f=true then match XJ P call fuel s.body l1 nx h with
   | some (.n (.exit _) _,_,_)=>none
   | some (.n _ _,nx,h)=>Wj P call fuel s d caps none l1 nx h
   | some (.p v,nx,h)=>Wj P call fuel s d caps (some v) l1 nx h
   | none=>none
   else none
  | _=>none
 | some (.pan v,nx,h)=>some (.pan v,nx,h)
 | none=>none
def zZ.strip:zZ→zZ
 | .ret v=>.ret v.strip
 | .pan v=>.pan v
def zZ.free:zZ→Bool
 | .ret v=>v.free
 | .pan v=>v.free
def XQ (nx:Nat) (h:AH) (r:ER):ER:=match r with
 | some (e,_,_)=>if e.strip.free=true then some (e.strip,nx,h) else none
 | none=>none
def Qz (P:Program) (call:ym) (fuel:Nat) (x:UU) (args:List AV) (nx:Nat) (h:AH):ER :=
 match x with
 | .fn af true=>if af.np<args.length then none else Xd af.res (XJ P call fuel af.body (zX 0 args) nx h)
 | .fn af false=>if af.np<args.length then none else if AV.frees (args.map AV.strip)=true then XQ nx h (Xd af.res (XJ P call fuel af.body (zX 0 (args.map AV.strip)) 0 [])) else Xd af.res (XJ P call fuel af.body (zX 0 args) nx h)
 | .sp s df d true=>if s.np<args.length then none else TC P call fuel s df d args nx h
 | .sp s df d false=>if s.np<args.length then none else if AV.frees (args.map AV.strip)=true then XQ nx h (TC P call fuel s df d (args.map AV.strip) 0 []) else TC P call fuel s df d args nx h
def OR (P:Program) (T:FuncId→Option UU) (O:FuncId→List AV→Option AV) (fuel:Nat):Nat→ym
 | 0,_,_,_,_=>none
 | n+1,f,args,nx,h=>match O f (args.map AV.strip) with
  | some r=>some (.ret r,nx,h)
  | none=>match T f with
   | none=>none
   | some x=>Qz P (OR P T O fuel n) fuel x args nx h
inductive Vv (σ:Ren) (e:Nat):yf→yf→Prop
 | cells {cs ds:List AV} (h:RL σ cs ds):Vv σ e (.cells cs) (.cells ds)
 | tip (n sz:Nat):Vv σ e (.tip n sz) (.tip (e+n) sz)
 | map {kt:KT} {es fs:List (AV×AV)} (h:F2 (fun x y=>RV σ x.1 y.1∧RV σ x.2 y.2) es fs):Vv σ e (.map kt es) (.map kt fs)
structure RS (σ:Ren) (nx:Nat) (H H':zb):Prop where
 obj:∀ b o,H b=some o→∃ c e o',σ b=some (c,e)∧H' c=some o'∧Vv σ e o o'
 inj:∀ b b' c e e',(H b).isSome=true→(H b').isSome=true→σ b=some (c,e)→σ b'=some (c,e')→b=b'
 dom:∀ b,nx≤b→σ b=none
section
variable {σ τ:Ren} {nx:Nat} {H H':zb} {ρ ρ':Env}
theorem Vv.mono (m:σ.le τ) {e:Nat} {x y:yf} (h:Vv σ e x y):Vv τ e x y:=by
 cases h with
 | cells h=>exact .cells (RL.mono m h)
 | tip n sz=>exact .tip n sz
 | map h=>exact .map (F2.mono h fun _ _ h=>⟨h.1.mono m,h.2.mono m⟩)
theorem Ren.le_refl (σ:Ren):σ.le σ:=fun _ _ h=>h
theorem Ren.le_trans {σ τ υ:Ren} (h:σ.le τ) (h':τ.le υ):σ.le υ:=fun b x hb=>h' b x (h b x hb)
def Ren.put (σ:Ren) (b c e:Nat):Ren:=fun x=>if x=b then some (c,e) else σ x
theorem Ren.le_put {b c e:Nat} (h:σ b=none):σ.le (σ.put b c e):=fun x y hx=>by
 unfold Ren.put
 split
 ·rename_i e;subst e;rw[h] at hx;cases hx
 ·exact hx
theorem RS.fresh (h:RS σ nx H H'):H nx=none:=by
 cases hb:H nx with
 | none=>rfl
 | some o=>obtain⟨c,e,o',h1,_⟩:=h.obj nx o hb;rw[h.dom nx (yX _)] at h1;cases h1
theorem RS.upd (h:RS σ nx H H') {b c e:Nat} {o x y:yf} (hb:H b=some o) (hs:σ b=some (c,e)) (hx:Vv σ e x y):RS σ nx (H.upd b x) (H'.upd c y):=by
 refine⟨fun d o2 hd=>?_,fun d d' c' e1 e2 h1 h2=>h.inj d d' c' e1 e2 ?_ ?_,h.dom⟩
 ·unfold zb.upd at hd
  split at hd
  ·rename_i e1;subst e1
   simp only[zx] at hd;subst hd
   exact⟨c,e,y,hs,by simp[zb.upd],hx⟩
  ·rename_i hn
   obtain⟨c2,e2,o',h1,h2,h3⟩:=h.obj d o2 hd
   refine⟨c2,e2,o',h1,?_,h3⟩
   unfold zb.upd
   rw[if_neg]
   ·exact h2
   ·intro e3;subst e3
    exact hn (h.inj d b c2 e2 e (by simp[hd]) (by simp[hb]) h1 hs)
 ·unfold zb.upd at h1
  split at h1
  ·rename_i e;subst e;simp[hb]
  ·exact h1
 ·unfold zb.upd at h2
  split at h2
  ·rename_i e;subst e;simp[hb]
  ·exact h2
theorem RS.new (h:RS σ nx H H') {c e:Nat} {x y:yf} (hc:H' c=none) (hx:Vv (σ.put nx c e) e x y):RS (σ.put nx c e) (nx+1) (H.upd nx x) (H'.upd c y):=by
 have hle:σ.le (σ.put nx c e):=Ren.le_put (h.dom nx (yX _))
 have live:∀ d o2,H d=some o2→∃ c2 e2 o',σ d=some (c2,e2)∧H' c2=some o'∧Vv σ e2 o2 o'∧c2≠c∧d≠nx:=fun d o2 hd=>by
  obtain⟨c2,e2,o',h1,h2,h3⟩:=h.obj d o2 hd
  refine⟨c2,e2,o',h1,h2,h3,fun e3=>?_,fun e3=>?_⟩
  ·subst e3;rw[hc] at h2;cases h2
  ·subst e3;rw[h.fresh] at hd;cases hd
 have up:∀ d,((H.upd nx x) d).isSome=true→d=nx∨(d≠nx∧∃ o,H d=some o):=fun d hd=>by
  by_cases e1:d=nx
  ·exact .inl e1
  ·right
   refine⟨e1,Yv.1 ?_⟩
   simpa[zb.upd,e1] using hd
 refine⟨fun d o2 hd=>?_,fun d d' c' e1 e2 h1 h2 g1 g2=>?_,fun b hb=>?_⟩
 ·unfold zb.upd at hd
  split at hd
  ·rename_i e1;subst e1
   simp only[zx] at hd;subst hd
   exact⟨c,e,y,by simp[Ren.put],by simp[zb.upd],hx⟩
  ·obtain⟨c2,e2,o',h1,h2,h3,h4,h5⟩:=live d o2 hd
   exact⟨c2,e2,o',hle _ _ h1,by simp[zb.upd,h4,h2],h3.mono hle⟩
 ·rcases up d h1 with rfl|⟨n1,o1,k1⟩
  ·rcases up d' h2 with rfl|⟨n2,o2,k2⟩
   ·rfl
   ·obtain⟨c2,e3,o',p1,_,_,p4,_⟩:=live d' o2 k2
    have:=hle _ _ p1
    rw[this] at g2
    simp only[Ren.put,if_true,zx,YR] at g1 g2
    exact absurd (g2.1.trans g1.1.symm) p4
  ·obtain⟨c2,e3,o',p1,_,_,p4,_⟩:=live d o1 k1
   have q1:=hle _ _ p1
   rw[q1] at g1
   rcases up d' h2 with rfl|⟨n2,o2,k2⟩
   ·simp only[Ren.put,if_true,zx,YR] at g1 g2
    exact absurd (g1.1.trans g2.1.symm) p4
   ·obtain⟨c3,e4,o3,r1,_,_,r4,_⟩:=live d' o2 k2
    have q2:=hle _ _ r1
    rw[q2] at g2
    simp only[zx,YR] at g1 g2
    obtain⟨rfl,rfl⟩:=g1
    obtain⟨rfl,rfl⟩:=g2
    exact h.inj d d' _ _ _ (by simp[k1]) (by simp[k2]) p1 r1
 ·simp only[Ren.put]
  rw[if_neg (by omega)]
  exact h.dom b (by omega)
theorem RS.del (h:RS σ nx H H') {b c e:Nat} {o:yf} (hb:H b=some o) (hs:σ b=some (c,e)):RS σ nx (H.del b) (H'.del c):=by
 have dn:∀ d o2,(H.del b) d=some o2→d≠b∧H d=some o2:=fun d o2 hd=>by
  unfold zb.del at hd
  split at hd
  ·cases hd
  ·rename_i hn;exact⟨hn,hd⟩
 refine⟨fun d o2 hd=>?_,fun d d' c' e1 e2 h1 h2 g1 g2=>?_,h.dom⟩
 ·obtain⟨n1,k1⟩:=dn d o2 hd
  obtain⟨c2,e2,o',h1,h2,h3⟩:=h.obj d o2 k1
  refine⟨c2,e2,o',h1,?_,h3⟩
  unfold zb.del
  rw[if_neg]
  ·exact h2
  ·intro e3;subst e3
   exact n1 (h.inj d b c2 e2 e (by simp[k1]) (by simp[hb]) h1 hs)
 ·obtain⟨o1,k1⟩:=Yv.1 h1
  obtain⟨o2,k2⟩:=Yv.1 h2
  exact h.inj d d' c' e1 e2 (by simp[(dn _ _ k1).2]) (by simp[(dn _ _ k2).2]) g1 g2
theorem RN {es fs:List (AV×AV)} (h:F2 (fun x y=>RV σ x.1 y.1∧RV σ x.2 y.2) es fs) {k k':AV} (hk:RV σ k k') :
  (WE es k=none∧WE fs k'=none)∨∃ v w,WE es k=some v∧WE fs k'=some w∧RV σ v w:=by
 induction h with
 | nil=>exact .inl ⟨rfl,rfl⟩
 | @cons a b l m h0 _ ih =>
  obtain⟨a1,a2⟩:=a
  obtain⟨b1,b2⟩:=b
  simp only[WE,T2 hk h0.1]
  cases k'.keq b1 with
  | true=>right;exact⟨a2,b2,by simp,by simp,h0.2⟩
  | false=>simpa using ih
theorem Rs {es fs:List (AV×AV)} (h:F2 (fun x y=>RV σ x.1 y.1∧RV σ x.2 y.2) es fs) {k k' v v':AV} (hk:RV σ k k') (hv:RV σ v v') :
  F2 (fun x y=>RV σ x.1 y.1∧RV σ x.2 y.2) (XX es k v) (XX fs k' v'):=by
 induction h with
 | nil=>exact .cons ⟨hk,hv⟩ .nil
 | @cons a b l m h0 h1 ih =>
  obtain⟨a1,a2⟩:=a
  obtain⟨b1,b2⟩:=b
  simp only[XX,T2 hk h0.1]
  cases k'.keq b1 with
  | true=>exact .cons ⟨hk,hv⟩ h1
  | false=>exact .cons h0 ih
theorem V9 {z z':AV} (hz:RV σ z z') (ok:Bool) {a b:Option AV} (h:(a=none∧b=none)∨∃ v w,a=some v∧b=some w∧RV σ v w):RV σ (Xa z ok a) (Xa z' ok b):=by
 rcases h with ⟨rfl,rfl⟩|⟨v,w,rfl,rfl,hv⟩
 ·cases ok
  ·exact hz
  ·exact .tupL (.cons hz (.cons (.bool _) .nil))
 ·cases ok
  ·exact hv
  ·exact .tupL (.cons hv (.cons (.bool _) .nil))
theorem Uy (h:RE σ ρ ρ') (hs:RS σ nx H H') {o:z6} (ho:o.okc=true) {v:AV} (hv:rev ρ H o=some v):∃ v',rev ρ' H' o=some v'∧RV σ v v':=by
 cases o with
 | ld n ag x =>
  have hx:=h.ev (x:=x) ho
  simp only[rev] at hv ⊢
  split at hv
  ·rename_i cs e
   rw[e] at hx;obtain⟨ds,e2,h2⟩:=hx.view_inv;rw[e2]
   simp only
   rw[← h2.len]
   split at hv
   ·rename_i hc
    rw[if_pos hc]
    simp only[zx] at hv ⊢;subst hv;exact⟨_,rfl,.mk (F2.take h2 n)⟩
   ·cases hv
  ·rename_i b off e
   rw[e] at hx;obtain⟨c,d,e2,h2⟩:=hx.ptr_inv;rw[e2]
   simp only
   split at hv
   ·rename_i cs e3
    obtain⟨c2,d2,o',h3,h4,h5⟩:=hs.obj _ _ e3
    rw[h2] at h3;cases h3
    cases h5 with
    | cells h5 =>
     rw[h4]
     simp only
     rw[← h5.len]
     split at hv
     ·rename_i hc
      rw[if_pos hc]
      simp only[zx] at hv ⊢;subst hv;exact⟨_,rfl,.mk (F2.take (F2.drop h5 off) n)⟩
     ·cases hv
   ·cases hv
  ·cases hv
 | lkp kt z ok m k =>
  simp only[z6.okc,zH] at ho
  have hm:=h.ev ho.1.2
  have hk:=h.ev ho.2
  have hz:=z.free_rv (σ:=σ) ho.1.1
  simp only[rev] at hv ⊢
  rw[← Tj (kt:=kt) hk]
  split at hv
  ·rename_i hf
   rw[if_pos hf]
   split at hv
   ·rename_i e
    rw[e] at hm;rw[hm.nilm_inv]
    simp only[zx] at hv ⊢;subst hv;exact⟨_,rfl,V9 hz ok (.inl ⟨rfl,rfl⟩)⟩
   ·rename_i b e
    rw[e] at hm;obtain⟨c,d,e2,h2⟩:=hm.mp_inv;rw[e2]
    simp only
    split at hv
    ·rename_i kt' es e3
     obtain⟨c2,d2,o',h3,h4,h5⟩:=hs.obj _ _ e3
     rw[h2] at h3;cases h3
     cases h5 with
     | map h5 =>
      rw[h4]
      simp only
      split at hv
      ·rename_i hc
       rw[if_pos hc]
       simp only[zx] at hv ⊢;subst hv;exact⟨_,rfl,V9 hz ok (RN h5 hk)⟩
      ·cases hv
    ·cases hv
   ·cases hv
  ·cases hv
 | lenm x =>
  have hx:=h.ev (x:=x) ho
  simp only[rev] at hv ⊢
  split at hv
  ·rename_i e
   rw[e] at hx;rw[hx.nilm_inv]
   simp only[zx] at hv ⊢;subst hv;exact⟨_,rfl,.int _ _⟩
  ·rename_i b e
   rw[e] at hx;obtain⟨c,d,e2,h2⟩:=hx.mp_inv;rw[e2]
   simp only
   split at hv
   ·rename_i kt' es e3
    obtain⟨c2,d2,o',h3,h4,h5⟩:=hs.obj _ _ e3
    rw[h2] at h3;cases h3
    cases h5 with
    | map h5 =>
     rw[h4]
     simp only[zx] at hv ⊢;subst hv;rw[h5.len];exact⟨_,rfl,.int _ _⟩
   ·cases hv
  ·cases hv
 | _=>simp[rev] at hv
theorem Rb (h:RE σ ρ ρ') (g:Option (Nat×Bool)):gv g ρ=gv g ρ':=by
 cases g with
 | none=>rfl
 | some x =>
  obtain⟨s,b⟩:=x
  have hs:=h s
  simp only[gv]
  generalize ρ s=a at hs
  generalize ρ' s=c at hs
  cases hs with
  | tup hl hh =>
   have:=(F2.of_get (R:=fun _ _=>True) hl (fun _ _ _ _ _=>trivial))
   cases this<;>rfl
  | _=>rfl
theorem Ww (h:RE σ ρ ρ') (hs:RS σ nx H H'):∀ {R:List yQ},(R.all fun x=>x.2.2.okc)=true→Un ρ H R=true→yg ρ' H' R
 | [],_,_=>trivial
 | (d,g,o)::r,ho,hr=>by
  simp only[List.all_cons,zH] at ho
  simp only[Un,zH] at hr
  refine⟨fun hg=>?_,Ww h hs ho.2 hr.2⟩
  rw[← Rb h] at hg
  rw[hg] at hr
  simp only at hr
  cases hv:rev ρ H o with
  | none=>rw[hv] at hr;simp at hr
  | some v =>
   rw[hv] at hr
   obtain⟨v',h1,h2⟩:=Uy h hs ho.1 hv
   rw[h1]
   have:=WU _ _ hr.1
   subst this
   rw[h2.det (h d)]
theorem VO {z z':List AV} (h:RL σ z z'):∀ n,RL σ (yL z n) (yL z' n)
 | 0=>.nil
 | n+1=>F2.app h (VO h n)
theorem Pk (h:RE σ ρ ρ') {o:z6} (ho:o.okc=true) {x:yf} (hx:ZN ρ o=some x):∃ y,ZN ρ' o=some y∧Vv σ 0 x y:=by
 cases o with
 | alloc z =>
  simp only[ZN,zx] at hx ⊢
  subst hx;exact⟨_,rfl,.cells (AV.frees_rl z ho)⟩
 | box x =>
  have hr:=h.ev (x:=x) ho
  simp only[ZN] at hx ⊢
  rw[← hr.boxable]
  split at hx
  ·rename_i hc
   rw[if_pos hc]
   simp only[zx] at hx ⊢
   subst hx;exact⟨_,rfl,.cells hr.cells⟩
  ·cases hx
 | mkm kt =>
  simp only[ZN,zx] at hx ⊢
  subst hx;exact⟨_,rfl,.map .nil⟩
 | blsm sz n z qs =>
  simp only[z6.okc,zH] at ho
  simp only[ZN] at hx ⊢
  split at hx
  ·rename_i hc
   rw[if_pos hc]
   cases hf:yH AV.strip1 ρ sz (List.replicate n z) qs with
   | none=>simp[hf] at hx
   | some r =>
    obtain⟨r',h1,h2⟩:=YZ RL.strip1 h ho.2 (F2.rep (AV.frees_rl z ho.1) n) hf
    rw[hf] at hx;rw[h1]
    simp only[yv,zx] at hx ⊢
    subst hx;exact⟨_,rfl,.cells (F2.flat h2)⟩
  ·cases hx
 | mks sz bytes n =>
  have hr:=h.ev (x:=n) ho
  simp only[ZN] at hx ⊢
  split at hx
  ·rename_i k c e
   rw[e] at hr;rw[hr.int_inv]
   simp only
   split at hx
   ·rename_i hc
    rw[if_pos hc]
    simp only[zx] at hx ⊢
    subst hx;exact⟨_,rfl,.tip 0 sz⟩
   ·cases hx
  ·cases hx
 | mksn z bytes n =>
  simp only[z6.okc,zH] at ho
  have hr:=h.ev (x:=n) ho.2
  simp only[ZN] at hx ⊢
  split at hx
  ·rename_i k c e
   rw[e] at hr;rw[hr.int_inv]
   simp only
   split at hx
   ·rename_i hc
    rw[if_pos hc]
    simp only[zx] at hx ⊢
    subst hx;exact⟨_,rfl,.cells (VO (AV.frees_rl z ho.1) _)⟩
   ·cases hx
  ·cases hx
 | _=>simp[ZN] at hx
theorem Rm (h:RE σ ρ ρ') {o:z6} (ho:o.okc=true) {x:yf} (hx:ZN ρ o=some x) {b c:Nat} {τ:Ren} (hb:τ b=some (c,0)):RV τ (ZC ρ b o) (ZC ρ' c o):=by
 cases o with
 | alloc z=>exact .ptr hb
 | box x=>exact .ptr hb
 | mkm kt=>exact .mp hb
 | blsm sz n z qs=>exact .ms hb
 | mks sz bytes n=>exact .slL (.tip hb) .nil
 | mksn z bytes n =>
  simp only[z6.okc,zH] at ho
  have hr:=h.ev (x:=n) ho.2
  simp only[ZN] at hx
  simp only[ZC]
  split at hx
  ·rename_i k c2 e
   rw[e] at hr;rw[hr.int_inv]
   exact .ms hb
  ·cases hx
 | _=>simp[ZN] at hx
end
inductive WA (σ:Ren):zZ→zZ→Prop
 | ret {v w:AV} (h:RV σ v w):WA σ (.ret v) (.ret w)
 | pan {v w:AV} (h:RV σ v w):WA σ (.pan v) (.pan w)
def Zs (P:Program) (call:ym):Prop:=∀ f args nx h e nx' h',call f args nx h=some (e,nx',h')→∀(σ:Ren) args' H,RL σ args args'→RS σ nx h.get H →
 zt P f args' H fun e' H'=>∃ σ',σ.le σ'∧WA σ' e e'∧RS σ' nx' h'.get H'
def Pu (σ:Ren) (nx:Nat) (h:AH) (K KP:AV→zb→Prop):zZ→Prop
 | .ret v=>∀ σ' v' H',σ.le σ'→RV σ' v v'→RS σ' nx h.get H'→K v' H'
 | .pan v=>∀ σ' v' H',σ.le σ'→RV σ' v v'→RS σ' nx h.get H'→KP v' H'
section
variable {P:Program} {KP:AV→zb→Prop} {call:ym}
theorem Zs.use (hc:Zs P call) {f:FuncId} {args:List AV} {nx nx':Nat} {h h':AH} {e:zZ} (he:call f args nx h=some (e,nx',h')) {σ:Ren} {args':List AV} {H:zb} (ha:RL σ args args') (hs:RS σ nx h.get H)
  {K:AV→zb→Prop} (hk:Pu σ nx' h' K KP e):zt P f args' H (WQ K KP) :=
 (hc f args nx h e nx' h' he σ args' H ha hs).mono fun e' H' ⟨σ',h1,h2,h3⟩=>by
  cases h2 with
  | ret h2=>exact hk σ' _ H' h1 h2 h3
  | pan h2=>exact hk σ' _ H' h1 h2 h3
theorem Sm {sz bytes:Nat} {x y x' y' v:AV} {nx nx':Nat} {h h':AH} (he:T4 sz bytes x y nx h=some (v,nx',h')) {σ:Ren} {H:zb} (hx:RV σ x x') (hy:RV σ y y') (hs:RS σ nx h.get H)
  {K:AV→zb→Prop} (hk:∀ σ' v' H',σ.le σ'→RV σ' v v'→RS σ' nx' h'.get H'→K v' H'):UA sz bytes x' y' H K:=by
 unfold T4 at he
 split at he
 case h_2=>cases he
 rename_i o s1 xs o2 s2 ys
 obtain⟨p,xs',rfl,hp,hxs⟩:=hx.sl_inv
 obtain⟨p2,ys',rfl,_,hys⟩:=hy.sl_inv
 split at he
 case isFalse=>cases he
 rename_i hc
 obtain⟨rfl,rfl,hc1,hc2⟩:=hc
 have hlx:=hxs.len
 have hly:=hys.len
 refine⟨rfl,rfl,by rw[← hlx,← hly];exact hc1,by rw[← hlx,← hly];exact hc2,?_⟩
 have fresh:∀(o:Own) (p:Own),RO σ o p→Sb o s2 xs nx h ys=some (v,nx',h') →
   (ys'=[]→K (.sl p s2 xs') H)∧(ys'≠[]→∀ b,H b=none→K (.sl (.tip b 0) s2 (xs'++ys'.map (·.map AV.strip1))) (H.upd b (.tip (xs'.length+ys'.length) s2))):=by
  intro o p hp he
  refine⟨fun h0=>?_,fun h0 b hb=>?_⟩
  ·have:ys=[]:=hys.isnil.2 h0
   subst this
   simp only[Sb,zx,YR] at he
   obtain⟨rfl,rfl,rfl⟩:=he
   exact hk σ _ H (Ren.le_refl _) (.slL hp hxs) hs
  ·have:ys≠[]:=fun e=>h0 (hys.isnil.1 e)
   cases ys with
   | nil=>exact absurd rfl this
   | cons y r =>
    simp only[Sb,zx,YR] at he
    obtain⟨rfl,rfl,rfl⟩:=he
    have hle:σ.le (σ.put nx b 0):=Ren.le_put (hs.dom nx (yX _))
    refine hk (σ.put nx b 0) _ _ hle (.slL ?_ (F2.app (F2.mono hxs fun _ _ h=>RL.mono hle h) (Qm.strip1 (F2.mono hys fun _ _ h=>RL.mono hle h)))) ?_
    ·have:=@RO.tip (σ.put nx b 0) nx 0 b 0 (by simp[Ren.put])
     simpa using this
    ·rw[AH.get_cons]
     rw[← hlx,← hly]
     have:=hs.new (x:=.tip (xs.length+(y::r).length) s2) (y:=.tip (0+(xs.length+(y::r).length)) s2) hb (.tip _ _)
     simpa using this
 cases hp with
 | no=>cases he
 | nil=>exact fresh .nil .nil .nil he
 | full=>exact fresh .full .full .full he
 | @tip b d c e hb =>
  simp only at he
  cases hg:h.get b with
  | none=>rw[hg] at he;cases he
  | some ob =>
   rw[hg] at he
   cases ob with
   | cells cs=>cases he
   | map kt es=>cases he
   | tip n s =>
    simp only at he
    split at he
    case isFalse=>cases he
    rename_i hc3
    obtain⟨rfl,rfl⟩:=hc3
    simp only[zx,YR] at he
    obtain⟨rfl,rfl,rfl⟩:=he
    obtain⟨c2,e2,o',h3,h4,h5⟩:=hs.obj b _ hg
    rw[hb] at h3;cases h3
    cases h5 with
    | tip n sz =>
     refine⟨by rw[h4,← hlx,Nat.add_assoc],fun b' d' hb'=>?_⟩
     have hs2:=hs.del hg hb
     have hle:σ.le (σ.put nx b' d'):=Ren.le_put (hs.dom nx (yX _))
     refine hk (σ.put nx b' d') _ _ hle (.slL ?_ (F2.app (F2.mono hxs fun _ _ h=>RL.mono hle h) (Qm.strip1 (F2.mono hys fun _ _ h=>RL.mono hle h)))) ?_
     ·have:=@RO.tip (σ.put nx b' d') nx 0 b' d' (by simp[Ren.put])
      simpa using this
     ·rw[AH.get_cons,AH.get_del]
      rw[← hlx,← hly]
      exact hs2.new (x:=.tip (xs.length+ys.length) _) (y:=.tip (d'+(xs.length+ys.length)) _) hb' (.tip _ _)
theorem ZQ {r:Option (AV×Nat×AH)} {e:zZ} {nx:Nat} {h:AH} (he:rt r=some (e,nx,h)):∃ v,r=some (v,nx,h)∧e=.ret v:=by
 unfold rt at he
 split at he
 ·simp only[zx,YR] at he
  obtain⟨rfl,rfl,rfl⟩:=he
  exact⟨_,rfl,rfl⟩
 ·cases he
theorem U4 (hc:Zs P call) {σ:Ren} {ρ ρ':Env} {nx nx':Nat} {h h':AH} {o:z6} (ho:o.okc=true) {e:zZ} (he:yb P call ρ nx h o=some (e,nx',h')) {H:zb} (hE:RE σ ρ ρ') (hs:RS σ nx h.get H)
  {K:AV→zb→Prop} (hk:Pu σ nx' h' K KP e):Zr P KP o ρ' H K:=by
 unfold yb at he
 unfold Zr
 cases hcl:o.cls with
 | pure =>
  rw[hcl] at he
  simp only at he ⊢
  cases hp:zY ρ o with
  | none=>rw[hp] at he;cases he
  | some u =>
   rw[hp] at he
   simp only[zx,YR] at he
   obtain⟨rfl,rfl,rfl⟩:=he
   obtain⟨v',h1,h2⟩:=QG hE ho hp
   rw[h1]
   exact hk σ v' H (Ren.le_refl _) h2 hs
 | read =>
  rw[hcl] at he
  simp only at he ⊢
  cases hp:rev ρ h.get o with
  | none=>rw[hp] at he;cases he
  | some u =>
   rw[hp] at he
   simp only[zx,YR] at he
   obtain⟨rfl,rfl,rfl⟩:=he
   obtain⟨v',h1,h2⟩:=Uy hE hs ho hp
   rw[h1]
   exact hk σ v' H (Ren.le_refl _) h2 hs
 | alloc =>
  rw[hcl] at he
  simp only at he ⊢
  cases hp:ZN ρ o with
  | none=>rw[hp] at he;cases he
  | some x =>
   rw[hp] at he
   simp only[zx,YR] at he
   obtain⟨rfl,rfl,rfl⟩:=he
   obtain⟨y,h1,h2⟩:=Pk hE ho hp
   rw[h1]
   intro b hb
   have hle:σ.le (σ.put nx b 0):=Ren.le_put (hs.dom nx (yX _))
   refine hk (σ.put nx b 0) _ _ hle (Rm hE ho hp (by simp[Ren.put])) ?_
   rw[AH.get_cons]
   exact hs.new hb (h2.mono hle)
 | eff =>
  rw[hcl] at he
  simp only at he ⊢
  cases o with
  | callv g args =>
   simp only[z6.okc,zH] at ho
   have hg:=hE.ev ho.1
   simp only[eff]
   simp only at he
   split at he
   ·rename_i f first caps e
    rw[e] at hg
    obtain⟨bs,ds,e2,h1,h2⟩:=hg.clo_inv
    rw[e2]
    simp only
    split at he
    ·rename_i hcal
     exact⟨hcal,hc.use he (F2.app (F2.app h1 (hE.evs ho.2)) h2) hs hk⟩
    ·cases he
   ·cases he
  | call f args =>
   exact hc.use he (hE.evs ho) hs hk
  | pan x =>
   have hx:=hE.ev (x:=x) ho
   simp only[eff]
   simp only at he
   split at he
   ·rename_i t y e
    rw[e] at hx
    obtain⟨z,e2,hz⟩:=hx.ifc_inv
    rw[e2]
    simp only[zx,YR] at he
    obtain⟨rfl,rfl,rfl⟩:=he
    exact hk σ _ H (Ren.le_refl _) (.ifc hz) hs
   ·cases he
  | st n x y =>
   simp only[z6.okc,zH] at ho
   have hx:=hE.ev ho.1
   have hy:=hE.ev ho.2
   obtain⟨v,he2,rfl⟩:=ZQ he
   replace he:=he2
   simp only[Wr] at he
   simp only[eff]
   split at he
   ·rename_i b off e
    rw[e] at hx
    obtain⟨c,d,e2,h2⟩:=hx.ptr_inv
    rw[e2]
    simp only
    split at he
    ·rename_i cs e3
     obtain⟨c2,d2,o',h3,h4,h5⟩:=hs.obj _ _ e3
     rw[h2] at h3;cases h3
     cases h5 with
     | @cells _ ds h5 =>
      rw[h4]
      simp only
      split at he
      ·rename_i hcond
       simp only[zx,YR] at he
       obtain⟨rfl,rfl,rfl⟩:=he
       rw[← hy.cells.len,← hy.boxable,← h5.len]
       refine⟨hcond.1,hcond.2.1,hcond.2.2,hk σ _ _ (Ren.le_refl _) (.tupL .nil) ?_⟩
       rw[AH.get_put]
       exact hs.upd e3 h2 (.cells (RL.splice h5 hy.cells off))
      ·cases he
    ·cases he
   ·cases he
  | mup kt m k v2 =>
   simp only[z6.okc,zH] at ho
   have hm:=hE.ev ho.1.1
   have hkk:=hE.ev ho.1.2
   have hvv:=hE.ev ho.2
   obtain⟨v,he2,rfl⟩:=ZQ he
   replace he:=he2
   simp only[Wr] at he
   simp only[eff]
   split at he
   ·rename_i b e
    rw[e] at hm
    obtain⟨c,d,e2,h2⟩:=hm.mp_inv
    rw[e2]
    simp only
    split at he
    ·rename_i kt' es e3
     obtain⟨c2,d2,o',h3,h4,h5⟩:=hs.obj _ _ e3
     rw[h2] at h3;cases h3
     cases h5 with
     | map h5 =>
      rw[h4]
      simp only
      split at he
      ·rename_i hcond
       obtain⟨rfl,hf⟩:=hcond
       simp only[zx,YR] at he
       obtain⟨rfl,rfl,rfl⟩:=he
       rw[← Tj hkk]
       refine⟨rfl,hf,hk σ _ _ (Ren.le_refl _) (.tupL .nil) ?_⟩
       rw[AH.get_put]
       exact hs.upd e3 h2 (.map (Rs h5 hkk hvv))
      ·cases he
    ·cases he
   ·cases he
  | app sz bytes x y =>
   simp only[z6.okc,zH] at ho
   obtain⟨v,he2,rfl⟩:=ZQ he
   replace he:=he2
   exact Sm he (hE.ev ho.1) (hE.ev ho.2) hs hk
  | apps x y =>
   simp only[z6.okc,zH] at ho
   have hy:=hE.ev ho.2
   obtain⟨v,he2,rfl⟩:=ZQ he
   replace he:=he2
   simp only[Wr] at he
   simp only[eff]
   split at he
   ·rename_i s e
    rw[e] at hy
    rw[hy.str_inv]
    refine Sm he (hE.ev ho.1) (.slL .no ?_) hs hk
    exact AV.freess_rl _ (by
     clear he e hy
     induction s with
     | nil=>rfl
     | cons c s ih=>simp only[bytesOf,List.map_cons,AV.freess,AV.frees,AV.free,Bool.and_true,Bool.true_and];exact ih)
   ·cases he
  | appm2 sz bytes z x y=>obtain⟨v,he2,rfl⟩:=ZQ he;simp[Wr] at he2
  | appm sz bytes z x y=>obtain⟨v,he2,rfl⟩:=ZQ he;simp[Wr] at he2
  | frz sz x=>obtain⟨v,he2,rfl⟩:=ZQ he;simp[Wr] at he2
  | slaf n sz x y=>obtain⟨v,he2,rfl⟩:=ZQ he;simp[Wr] at he2
  | _=>simp[z6.cls] at hcl
end
def zg.okc (x:zg):Bool:=x.op.okc
def AC.okc:AC→Bool
 | .skip|.exit _|.ret=>true
 | .reg _ items=>items.all zg.okc
 | .seq a b|.cond (.t _) a b|.join _ a b=>a.okc&&b.okc
 | .cond (.k c) a b=>c.free&&(a.okc&&b.okc)
 | .block _ b|.loop _ b|.scope b=>b.okc
 | .rfun _ _ _ _|.both _ _=>true
section
variable {P:Program} {KP:AV→zb→Prop} {call:ym}
def UN (σ:Ren) (nx:Nat) (h:AH) (K:Env→zb→Prop) (KP:AV→zb→Prop):XI→Prop
 | .ok l=>∀ σ' ρ' H',σ.le σ'→RE σ' (zd l) ρ'→RS σ' nx h.get H'→K ρ' H'
 | .pan v=>∀ σ' v' H',σ.le σ'→RV σ' v v'→RS σ' nx h.get H'→KP v' H'
theorem UN.le {σ τ:Ren} (m:σ.le τ) {nx:Nat} {h:AH} {K:Env→zb→Prop} {x:XI} (hk:UN σ nx h K KP x):UN τ nx h K KP x:=by
 cases x with
 | ok l=>exact fun σ' ρ' H' h1=>hk σ' ρ' H' (Ren.le_trans m h1)
 | pan v=>exact fun σ' v' H' h1=>hk σ' v' H' (Ren.le_trans m h1)
theorem ZJ (hc:Zs P call):∀ {its:List (zg×List yQ)} {l:EL} {x:XI} {nx nx':Nat} {h h':AH},(its.all fun x=>x.1.okc&&x.2.all fun y=>y.2.2.okc)=true→yA P call its l nx h=some (x,nx',h') →
  ∀ {σ:Ren} {ρ:Env} {H:zb},RE σ (zd l) ρ→RS σ nx h.get H→∀ {K:Env→zb→Prop},UN σ nx' h' K KP x→zO P KP its ρ H K
 | [],l,x,nx,nx',h,h',_,he,σ,ρ,H,hE,hs,K,hk=>by
  simp only[yA,zx,YR] at he
  obtain⟨rfl,rfl,rfl⟩:=he
  exact hk σ ρ H (Ren.le_refl _) hE hs
 | it::r,l,x,nx,nx',h,h',ho,he,σ,ρ,H,hE,hs,K,hk=>by
  simp only[List.all_cons,zH] at ho
  simp only[yA] at he
  show yn P KP it.1 it.2 ρ H _
  unfold yn
  rw[← Rb hE]
  split at he
  ·rename_i eg
   rw[eg]
   simp only
   split at he
   ·rename_i v nx1 h1 eo
    split at he
    ·rename_i hre
     refine U4 hc ho.1.1 eo hE hs fun σ' v' H' hle hv hs'=>?_
     have hE':RE σ' (zd (EL.set l it.1.dst v)) (ρ.set it.1.dst v'):=by
      rw[EL.set_eq]
      exact RE.set (fun n=>(hE n).mono hle) hv
     exact⟨Ww hE' hs' ho.1.2 hre,ZJ hc ho.2 he hE' hs' (hk.le hle)⟩
    ·cases he
   ·rename_i v nx1 h1 eo
    simp only[zx,YR] at he
    obtain⟨rfl,rfl,rfl⟩:=he
    exact U4 hc ho.1.1 eo hE hs hk
   ·cases he
  ·rename_i eg
   rw[eg]
   simp only
   refine ZJ hc ho.2 he (ρ:=ρ.set it.1.dst (.tup [])) ?_ hs hk
   rw[EL.set_eq]
   exact RE.set hE (.tupL .nil)
  ·cases he
theorem YF {items:List zg} (h:items.all zg.okc=true):((ya items).all fun x=>x.1.okc&&x.2.all fun y=>y.2.2.okc)=true:=by
 refine Zn.2 fun x hx=>?_
 obtain⟨it,hit,rfl⟩:=List.mem_map.1 hx
 simp only[zH]
 refine⟨Zn.1 h it hit,Zn.2 fun y hy=>?_⟩
 obtain⟨k,hk,hy⟩:=List.mem_flatMap.1 hy
 split at hy
 ·rename_i x hx
  have:=Zn.1 h x (List.mem_of_getElem? hx)
  unfold entry at hy
  split at hy
  ·rw[List.mem_singleton] at hy;subst hy;exact this
  ·cases hy
 ·cases hy
def YK (σ:Ren) (nx:Nat) (h:AH) (Q:zP→Env→zb→Prop) (KP:AV→zb→Prop):EX→Prop
 | .n x l=>∀ σ' ρ' H',σ.le σ'→RE σ' (zd l) ρ'→RS σ' nx h.get H'→Q x ρ' H'
 | .p v=>∀ σ' v' H',σ.le σ'→RV σ' v v'→RS σ' nx h.get H'→KP v' H'
theorem YK.le {σ τ:Ren} (m:σ.le τ) {nx:Nat} {h:AH} {Q:zP→Env→zb→Prop} {x:EX} (hk:YK σ nx h Q KP x):YK τ nx h Q KP x:=by
 cases x with
 | n x l=>exact fun σ' ρ' H' h1=>hk σ' ρ' H' (Ren.le_trans m h1)
 | p v=>exact fun σ' v' H' h1=>hk σ' v' H' (Ren.le_trans m h1)
theorem YK.thn {σ:Ren} {nx:Nat} {h:AH} {Q:zP→Env→zb→Prop} {K:Env→zb→Prop} {x:EX} (hk:YK σ nx h Q KP x) (hn:∀ l,x≠.n .normal l):YK σ nx h (Vq K Q) KP x:=by
 cases x with
 | p v=>exact hk
 | n x l =>
  cases x with
  | normal=>exact absurd rfl (hn l)
  | exit i=>exact hk
  | ret=>exact hk
theorem RE.keep {σ:Ren} {ρ ρ':Env} (h:RE σ ρ ρ') (k:List Nat):RE σ (ρ.keep k) (ρ'.keep k):=by
 intro n
 unfold Env.keep
 induction k with
 | nil=>exact .any
 | cons x k ih =>
  simp only[List.map_cons,zd]
  split
  ·exact h x
  ·exact ih
theorem zS (hc:Zs P call):∀(m:Nat) (c:AC) (l:EL) (nx:Nat) (h:AH) (x:EX) (nx':Nat) (h':AH),c.okc=true→XJ P call m c l nx h=some (x,nx',h') →
  ∀(σ:Ren) (ρ:Env) (H:zb),RE σ (zd l) ρ→RS σ nx h.get H→∀ Q:zP→Env→zb→Prop,YK σ nx' h' Q KP x→Yr P KP c Q ρ H
 | 0,c,l,nx,h,x,nx',h',_,he=>by cases he
 | m+1,c,l,nx,h,x,nx',h',ho,he=>by
  intro σ ρ H hE hs Q hk
  unfold XJ at he
  cases c with
  | skip =>
   simp only[zx,YR] at he
   obtain⟨rfl,rfl,rfl⟩:=he
   exact hk σ ρ H (Ren.le_refl _) hE hs
  | reg c items =>
   simp only at he
   split at he
   ·rename_i l1 nx1 h1 e
    simp only[zx,YR] at he
    obtain⟨rfl,rfl,rfl⟩:=he
    exact ZJ hc (YF ho) e hE hs hk
   ·rename_i v nx1 h1 e
    simp only[zx,YR] at he
    obtain⟨rfl,rfl,rfl⟩:=he
    exact ZJ hc (YF ho) e hE hs hk
   ·cases he
  | seq a b =>
   simp only[AC.okc,zH] at ho
   simp only at he
   show Yr P KP a (Vq (Yr P KP b Q) Q) ρ H
   split at he
   ·rename_i l1 nx1 h1 e
    refine zS hc m a l nx h _ _ _ ho.1 e σ ρ H hE hs _ fun σ1 ρ1 H1 hle hE1 hs1=>?_
    exact zS hc m b l1 nx1 h1 _ _ _ ho.2 he σ1 ρ1 H1 hE1 hs1 Q (hk.le hle)
   ·rename_i hne
    exact zS hc m a l nx h _ _ _ ho.1 he σ ρ H hE hs _ (hk.thn fun l2 e=>by subst e;exact hne _ _ _ he)
  | join keep a b =>
   simp only[AC.okc,zH] at ho
   simp only at he
   split at he
   ·rename_i l1 nx1 h1 e
    refine⟨fun ρ2 H2=>∃ σ1,σ.le σ1∧RE σ1 (zd (EL.keep l1 keep)) ρ2∧RS σ1 nx1 h1.get H2,?_,fun ρ2 H2 ⟨σ1,hle,hE1,hs1⟩=>?_⟩
    ·refine zS hc m a l nx h _ _ _ ho.1 e σ ρ H hE hs _ fun σ1 ρ1 H1 hle hE1 hs1=>?_
     exact⟨σ1,hle,by rw[EL.keep_eq];exact hE1.keep keep,hs1⟩
    ·exact zS hc m b _ nx1 h1 _ _ _ ho.2 he σ1 ρ2 H2 hE1 hs1 Q (hk.le hle)
   ·rename_i hne
    refine⟨fun _ _=>False,?_,fun _ _ h=>h.elim⟩
    exact zS hc m a l nx h _ _ _ ho.1 he σ ρ H hE hs _ (hk.thn fun l2 e=>by subst e;exact hne _ _ _ he)
  | cond c t e =>
   have hco:c.okc=true∧t.okc=true∧e.okc=true:=by
    cases c with
    | t n=>simp only[AC.okc,zH] at ho;exact⟨rfl,ho⟩
    | k c=>simp only[AC.okc,zH] at ho;exact ho
   have hr:=hE.ev hco.1
   show Th (c.ev ρ) (Yr P KP t Q ρ H) (Yr P KP e Q ρ H)
   simp only at he
   split at he
   ·rename_i ec
    rw[ec] at hr;rw[hr.bool_inv]
    exact zS hc m t l nx h _ _ _ hco.2.1 he σ ρ H hE hs Q hk
   ·rename_i ec
    rw[ec] at hr;rw[hr.bool_inv]
    exact zS hc m e l nx h _ _ _ hco.2.2 he σ ρ H hE hs Q hk
   ·cases he
  | block id b =>
   simp only at he
   show Yr P KP b (ZH id Q) ρ H
   split at he
   ·rename_i i l1 nx1 h1 e
    refine zS hc m b l nx h _ _ _ ho e σ ρ H hE hs _ fun σ1 ρ1 H1 hle hE1 hs1=>?_
    unfold ZH
    split at he
    ·rename_i hi
     simp only[zx,YR] at he
     obtain⟨rfl,rfl,rfl⟩:=he
     simp only[if_pos hi];exact hk σ1 ρ1 H1 hle hE1 hs1
    ·rename_i hi
     simp only[zx,YR] at he
     obtain⟨rfl,rfl,rfl⟩:=he
     simp only[if_neg hi];exact hk σ1 ρ1 H1 hle hE1 hs1
   ·rename_i hne
    refine zS hc m b l nx h _ _ _ ho he σ ρ H hE hs _ ?_
    cases x with
    | p v=>exact hk
    | n x l2 =>
     cases x with
     | normal=>exact hk
     | exit i=>exact absurd he (hne _ _ _ _)
     | ret=>exact hk
  | loop keep b =>
   have hob:b.okc=true:=ho
   refine⟨fun n ρ2 H2=>∃ σ1 l1 nx1 h1,σ.le σ1∧RE σ1 (zd (EL.keep l1 keep)) ρ2∧RS σ1 nx1 h1.get H2∧n≤m∧(match XJ P call n b (EL.keep l1 keep) nx1 h1 with
     | some (.n .normal l,nx,h)=>XJ P call n (.loop keep b) l nx h
     | r=>r)=some (x,nx',h'),⟨m,σ,l,nx,h,Ren.le_refl _,by rw[EL.keep_eq];exact hE.keep keep,hs,yX _,he⟩,?_⟩
   rintro n ρ2 H2 ⟨σ1,l1,nx1,h1,hle,hE1,hs1,hn,he1⟩
   have hlt:n<m+1:=Nat.lt_succ_of_le hn
   split at he1
   ·rename_i l2 nx2 h2 e
    refine zS hc n b _ _ _ _ _ _ hob e σ1 ρ2 H2 hE1 hs1 _ fun σ2 ρ3 H3 hle2 hE2 hs2=>?_
    cases n with
    | zero=>cases he1
    | succ n =>
     exact⟨n,Nat.lt_succ_self n,σ2,l2,nx2,h2,Ren.le_trans hle hle2,by rw[EL.keep_eq];exact hE2.keep keep,hs2,Nat.le_of_succ_le hn,he1⟩
   ·rename_i hne
    exact zS hc n b _ _ _ _ _ _ hob he1 σ1 ρ2 H2 hE1 hs1 _ ((hk.le hle).thn fun l2 e=>by subst e;exact hne _ _ _ he1)
  | scope b=>exact zS hc m b l nx h _ _ _ ho he σ ρ H hE hs Q hk
  | exit id =>
   simp only[zx,YR] at he
   obtain⟨rfl,rfl,rfl⟩:=he
   exact hk σ ρ H (Ren.le_refl _) hE hs
  | ret =>
   simp only[zx,YR] at he
   obtain⟨rfl,rfl,rfl⟩:=he
   exact hk σ ρ H (Ren.le_refl _) hE hs
  | rfun g ps a b=>cases he
  | both a b=>cases he
termination_by m=>m
end
theorem zv.strips {γ:Gh} {w:World} {cs:List AV} {vs:List Value} (h:zv γ w cs vs):zv γ w (cs.map AV.strip) vs :=
 ⟨by simp[h.1],fun i c v hc hv=>by
  rw[yr] at hc
  cases hx:cs[i]? with
  | none=>simp[hx] at hc
  | some x=>simp only[hx,yv,zx] at hc;subst hc;exact(h.2 i x v hx hv).strip⟩
theorem zt.strips {P:Program} {f:FuncId} {args:List AV} {H:zb} {Q:zZ→zb→Prop} (h:zt P f (args.map AV.strip) H Q):zt P f args H Q :=
 fun γ w vs ht hs hv=>h γ w vs ht hs hv.strips
theorem RL.strips {σ:Ren} {c d:List AV} (h:RL σ c d):RL σ (c.map AV.strip) (d.map AV.strip):=F2.map h fun _ _ h=>h.strip
theorem TN {σ:Ren} {c d:List AV} (h:RL σ c d) (hf:AV.frees c=true):d=c :=
 (F2.det (R:=RV σ) (S:=RV σ) (AV.frees_rl c hf) (fun _ _ _ h1 h2=>h1.det h2) h).symm
theorem y7 {σ:Ren}:∀ {as bs:List AV} (k:Nat),RL σ as bs→RE σ (zd (zX k as)) (zd (zX k bs))
 | [],_,k,h=>by cases h;exact fun n=>.any
 | a::as,_,k,h=>by
  cases h with
  | cons h1 h2 =>
   intro n
   simp only[zX,zd]
   split
   ·exact h1
   ·exact y7 (k+1) h2 n
theorem Y5 {σ:Ren} {ρ ρ':Env} {nx:Nat} {H H':zb} (hE:RE σ ρ ρ') (hs:RS σ nx H H'):∀ {rs:List XL} {vs:List AV},yl ρ H rs=some vs→∃ ws,yl ρ' H' rs=some ws∧RL σ vs ws
 | [],vs,h=>by simp only[yl,zx] at h;subst h;exact⟨[],rfl,.nil⟩
 | r::rs,vs,h=>by
  simp only[yl] at h
  cases h1:WJ ρ H r with
  | none=>simp[h1] at h
  | some v =>
   cases h2:yl ρ H rs with
   | none=>simp[h1,h2] at h
   | some us =>
    simp only[h1,h2,zx] at h
    subst h
    obtain⟨ws,g1,g2⟩:=Y5 hE hs h2
    have:∃ w,WJ ρ' H' r=some w∧RV σ v w:=by
     cases r with
     | t n=>simp only[WJ,zx] at h1 ⊢;subst h1;exact⟨_,rfl,hE n⟩
     | c n sz ag=>exact Uy hE hs (o:=.ld sz ag (.t n)) rfl h1
    obtain⟨w,k1,k2⟩:=this
    exact⟨w::ws,by simp only[yl,k1,g1],.cons k2 g2⟩
theorem We {σ:Ren} {vs ws:List AV} (h:RL σ vs ws):RV σ (zL vs) (zL ws):=by
 cases h with
 | nil=>exact .tupL .nil
 | cons h1 h2=>cases h2 with
  | nil=>exact h1
  | cons h3 h4=>exact .tupL (.cons h1 (.cons h3 h4))
theorem TX (H:zb):RS (fun _=>none) 0 (AH.get []) H:=⟨fun b o h=>by simp[AH.get] at h,fun b b' c e e' h=>by simp[AH.get] at h,fun _ _=>rfl⟩
theorem WA.strip {σ:Ren} {e e':zZ} (h:WA σ e e'):WA σ e.strip e'.strip:=by
 cases h with
 | ret h=>exact .ret h.strip
 | pan h=>exact .pan h
theorem WA.same {σ:Ren} {e e':zZ} (h:WA σ e e') (hf:e.free=true):e'=e:=by
 cases h with
 | @ret v w h=>rw[h.det (v.free_rv hf)]
 | @pan v w h=>rw[h.det (v.free_rv hf)]
theorem WA.free {σ:Ren} {e:zZ} (hf:e.free=true):WA σ e e:=by
 cases e with
 | ret v=>exact .ret (v.free_rv hf)
 | pan v=>exact .pan (v.free_rv hf)
theorem zt.stripE {P:Program} {f:FuncId} {args:List AV} {H:zb} {Q:zZ→zb→Prop} (h:zt P f args H fun e H'=>Q e.strip H'):zt P f args H Q :=
 zt.strip (h.mono fun e H' hq=>by cases e<;>exact hq)
theorem zt.forget {P:Program} {f:FuncId} {args:List AV} {H:zb} {Q:zZ→zb→Prop} (h:zt P f args H Q):zt P f args H fun e H'=>H'=zb.emp∧∃ H2,Q e H2 :=
 fun γ w vs ht hs hv=>(h γ w vs ht hs hv).mono fun e w' ⟨γ',H',r,a,b,c,d,q⟩=>⟨γ',zb.emp,r,a,fun b o hb=>by simp[zb.emp] at hb,fun b hb=>by simp[zb.emp] at hb,d,rfl,H',q⟩
structure Q9 (P:Program) (T:FuncId→Option UU) (O:FuncId→List AV→Option AV):Prop where
 fn:∀ f af b,T f=some (.fn af b)→za P f af=true∧af.body.okc=true
 sp:∀ f s g d b,T f=some (.sp s g d b)→Va P f s=true∧YH P g d=true∧s.pre.okc=true∧s.blk.okc=true∧s.items.all zg.okc=true∧s.body.okc=true∧(∀ m,s.mid=some m→m.okc=true)∧d.items.all zg.okc=true∧d.body.okc=true
 orc:∀ f as r,O f as=some r→AV.frees as=true∧r.free=true∧zz P f as r
section
variable {P:Program} {call:ym}
def Ty (σ:Ren) (e:zZ) (nx:Nat) (h:AH) (e':zZ) (H':zb):Prop:=∃ σ',σ.le σ'∧WA σ' e e'∧RS σ' nx h.get H'
theorem YN (hc:Zs P call) {fuel:Nat} {c:AC} {l:EL} {nx nx':Nat} {h h':AH} {res:List XL} {e:zZ} (ho:c.okc=true) (he:Xd res (XJ P call fuel c l nx h)=some (e,nx',h')) {σ:Ren} {ρ:Env} {H:zb} (hE:RE σ (zd l) ρ) (hs:RS σ nx h.get H)
  {Q:zZ→zb→Prop} (hq:∀ e' H',Ty σ e nx' h' e' H'→Q e' H'):Yr P (Xx Q) c (YE res Q) ρ H:=by
 unfold Xd at he
 split at he
 ·cases he
 ·rename_i ex l1 nx1 h1 hne hev
  split at he
  ·rename_i vs hvs
   simp only[zx,YR] at he
   obtain⟨rfl,rfl,rfl⟩:=he
   refine zS hc fuel _ _ _ _ _ _ _ ho hev σ ρ H hE hs _ fun σ' ρ' H' hle hE' hs'=>?_
   obtain⟨ws,h2,h3⟩:=Y5 hE' hs' hvs
   have:=hq _ H' ⟨σ',hle,.ret (We h3),hs'⟩
   cases ex with
   | exit i=>exact absurd rfl (hne i)
   | normal=>simp only[YE,h2];exact⟨H',Yt.refl _,this⟩
   | ret=>simp only[YE,h2];exact⟨H',Yt.refl _,this⟩
  ·cases he
 ·rename_i v nx1 h1 hev
  simp only[zx,YR] at he
  obtain⟨rfl,rfl,rfl⟩:=he
  refine zS hc fuel _ _ _ _ _ _ _ ho hev σ ρ H hE hs _ fun σ' v' H' hle hv hs'=>?_
  exact⟨H',Yt.refl _,hq _ H' ⟨σ',hle,.pan hv,hs'⟩⟩
 ·cases he
theorem Yk {res:List XL} {r:CR} {k:EL→Nat→AH→ER} {e:zZ} {nx':Nat} {h':AH} (he:evThen res r k=some (e,nx',h')) {σ:Ren} {Q:zZ→zb→Prop} (hq:∀ e' H',Ty σ e nx' h' e' H'→Q e' H')
  {K:Env→zb→Prop} {W:(zP→Env→zb→Prop)→Prop} (hW:∀ x nx1 h1,r=some (x,nx1,h1)→∀ Q2,YK σ nx1 h1 Q2 (Xx Q) x→W Q2)
  (hk:∀ l nx1 h1,k l nx1 h1=some (e,nx',h')→∀ σ' ρ' H',σ.le σ'→RE σ' (zd l) ρ'→RS σ' nx1 h1.get H'→K ρ' H'):W (XC (YE res Q .ret) K):=by
 unfold evThen at he
 split at he
 ·rename_i l nx1 h1
  exact hW _ _ _ rfl _ fun σ' ρ' H' hle hE' hs'=>hk l nx1 h1 he σ' ρ' H' hle hE' hs'
 ·rename_i r2 hne
  unfold Xd at he
  split at he
  ·cases he
  ·rename_i ex l1 nx1 h1 hnx
   split at he
   ·rename_i vs hvs
    simp only[zx,YR] at he
    obtain⟨rfl,rfl,rfl⟩:=he
    refine hW _ _ _ rfl _ fun σ' ρ' H' hle hE' hs'=>?_
    obtain⟨ws,h2,h3⟩:=Y5 hE' hs' hvs
    cases ex with
    | exit i=>exact absurd rfl (hnx i)
    | normal=>exact absurd rfl (hne _ _ _)
    | ret =>
     simp only[XC,YE,h2]
     exact⟨H',Yt.refl _,hq _ H' ⟨σ',hle,.ret (We h3),hs'⟩⟩
   ·cases he
  ·rename_i v nx1 h1
   simp only[zx,YR] at he
   obtain⟨rfl,rfl,rfl⟩:=he
   exact hW _ _ _ rfl _ fun σ' v' H' hle hv hs'=>⟨H',Yt.refl _,hq _ H' ⟨σ',hle,.pan hv,hs'⟩⟩
  ·cases he
theorem Wv (hc:Zs P call) {fuel:Nat} {s:Uc} {df:FuncId} {d:X9} (hd:YH P df d=true) (ho1:d.items.all zg.okc=true) (ho2:d.body.okc=true) {caps:List AV} {rv:Option AV} {l1:EL} {nx nx':Nat} {h h':AH} {e:zZ}
  (he:Wj P call fuel s d caps rv l1 nx h=some (e,nx',h')) {σ:Ren} {ρ1:Env} {H:zb} {caps':List AV} {rv':Option AV} (hE:RE σ (zd l1) ρ1) (hcp:RL σ caps caps') (hrv:RV σ (rv.getD (.oth .nilIface)) (rv'.getD (.oth .nilIface))) (hs:RS σ nx h.get H)
  {Q:zZ→zb→Prop} (hq:∀ e' H',Ty σ e nx' h' e' H'→Q e' H'):yE P df caps' rv' H (Rw s Q ρ1):=by
 unfold Wj at he
 split at he
 ·cases he
 rename_i hnp
 split at he
 case h_2=>cases he
 rename_i l2 nx2 h2 ei
 split at he
 ·cases he
 ·rename_i ex l3 nx3 h3 hne hev
  split at he
  ·rename_i vs hvs
   simp only[zx,YR] at he
   obtain⟨rfl,rfl,rfl⟩:=he
   refine yE.of_fn d hd (by rw[← hcp.len];omega) ?_
   have hE0:RE σ (zd (EL.set (zX 0 caps) (some d.d) (rv.getD (.oth .nilIface)))) ((zd (zX 0 caps')).set (some d.d) (rv'.getD (.oth .nilIface))):=by
    rw[EL.set_eq];exact RE.set (y7 0 hcp) hrv
   refine ZJ hc (YF ho1) ei hE0 hs fun σ2 ρ2 H2 hle2 hE2 hs2=>?_
   refine zS hc fuel _ _ _ _ _ _ _ ho2 hev σ2 ρ2 H2 hE2 hs2 _ fun σ3 ρ3 H3 hle3 hE3 hs3=>?_
   have hle:σ.le σ3:=Ren.le_trans hle2 hle3
   obtain⟨ws,g2,g3⟩:=Y5 (RE.keep (fun n=>(hE n).mono hle) (List.range s.lo)) hs3 hvs
   have fin:Rw s Q ρ1 H3:=⟨ws,g2,H3,Yt.refl _,hq _ H3 ⟨σ3,hle,.ret (We g3),hs3⟩⟩
   cases ex with
   | exit i=>exact absurd rfl (hne i)
   | normal=>exact fin
   | ret=>exact fin
  ·cases he
 ·cases he
theorem Xq (hc:Zs P call) {fuel:Nat} {f df:FuncId} {s:Uc} {d:X9} (hck:Va P f s=true) (hd:YH P df d=true) (o1:s.pre.okc=true) (o2:s.blk.okc=true) (o3:s.items.all zg.okc=true) (o4:s.body.okc=true) (o5:∀ m,s.mid=some m→m.okc=true) (o6:d.items.all zg.okc=true) (o7:d.body.okc=true)
  {args args':List AV} {nx nx':Nat} {h h':AH} {e:zZ} (hnp:args.length≤s.np) (he:TC P call fuel s df d args nx h=some (e,nx',h')) {σ:Ren} {H:zb} (ha:RL σ args args') (hs:RS σ nx h.get H)
  {Q:zZ→zb→Prop} (hq:∀ e' H',Ty σ e nx' h' e' H'→Q e' H'):zt P f args' H Q:=by
 refine zt.of_sp s hck (by rw[← ha.len];exact hnp) ?_
 have ql:∀ {τ:Ren},σ.le τ→∀ e' H',Ty τ e nx' h' e' H'→Q e' H':=fun m e' H' ⟨τ2,g1,g2,g3⟩=>hq e' H' ⟨τ2,Ren.le_trans m g1,g2,g3⟩
 unfold TC at he
 refine Yk (W:=fun Q2=>Yr P (Xx Q) s.pre Q2 (zd (zX 0 args')) H) he hq (fun x nx1 h1 e1 Q2 hk=>zS hc fuel _ _ _ _ _ _ _ o1 e1 σ _ H (y7 0 ha) hs Q2 hk) fun l1 nx1 h1 he1 σ1 ρ1 H1 m1 E1 S1=>?_
 have blk:∀(l:EL) (nx2:Nat) (h2:AH),(evThen s.res (XJ P call fuel s.blk l nx2 h2) fun l nx h =>
   match yA P call (ya s.items) l nx h with
   | some (.ok l1,nx,h)=>match zd l1 s.g with
    | .clo f [] caps=>if f=df∧Program.callable P f=true then match XJ P call fuel s.body l1 nx h with
     | some (.n (.exit _) _,_,_)=>none
     | some (.n _ _,nx,h)=>Wj P call fuel s d caps none l1 nx h
     | some (.p v,nx,h)=>Wj P call fuel s d caps (some v) l1 nx h
     | none=>none
     else none
    | _=>none
   | some (.pan v,nx,h)=>some (.pan v,nx,h)
   | none=>none)=some (e,nx',h')→∀(σ2:Ren) ρ2 H2,σ.le σ2→RE σ2 (zd l) ρ2→RS σ2 nx2 h2.get H2→QK P Q s ρ2 H2:=by
  intro l nx2 h2 he2 σ2 ρ2 H2 m2 E2 S2
  refine Yk (W:=fun Q2=>Yr P (Xx Q) s.blk Q2 ρ2 H2) he2 (ql m2) (fun x nx3 h3 e3 Q2 hk=>zS hc fuel _ _ _ _ _ _ _ o2 e3 σ2 ρ2 H2 E2 S2 Q2 hk) fun l3 nx3 h3 he3 σ3 ρ3 H3 m3 E3 S3=>?_
  split at he3
  ·rename_i l4 nx4 h4 e4
   refine ZJ hc (YF o3) e4 E3 S3 fun σ4 ρ4 H4 m4 E4 S4=>?_
   split at he3
   case h_2=>cases he3
   rename_i g caps eg
   split at he3
   case isFalse=>cases he3
   rename_i hg
   obtain⟨rfl,hcal⟩:=hg
   have hgv:=E4 s.g
   rw[eg] at hgv
   obtain⟨bs,cs,eg2,hb,hcs⟩:=hgv.clo_inv
   cases hb
   refine⟨g,cs,eg2,hcal,?_⟩
   have m:σ.le σ4:=Ren.le_trans m2 (Ren.le_trans m3 m4)
   split at he3
   ·cases he3
   ·rename_i ex l5 nx5 h5 hne e5
    refine zS hc fuel _ _ _ _ _ _ _ o4 e5 σ4 ρ4 H4 E4 S4 _ fun σ5 ρ5 H5 m5 E5 S5=>?_
    have fin:=Wv hc hd o6 o7 he3 (fun n=>(E4 n).mono m5) (RL.mono m5 hcs) (rv':=none) (.oth _) S5 (ql (Ren.le_trans m m5))
    cases ex with
    | exit i=>exact absurd rfl (hne i)
    | normal=>exact⟨H5,Yt.refl _,fin⟩
    | ret=>exact⟨H5,Yt.refl _,fin⟩
   ·rename_i v nx5 h5 e5
    refine zS hc fuel _ _ _ _ _ _ _ o4 e5 σ4 ρ4 H4 E4 S4 _ fun σ5 v' H5 m5 hv S5=>?_
    exact⟨H5,Yt.refl _,Wv hc hd o6 o7 he3 (fun n=>(E4 n).mono m5) (RL.mono m5 hcs) (rv':=some v') hv S5 (ql (Ren.le_trans m m5))⟩
   ·cases he3
  ·rename_i v nx4 h4 e4
   simp only[zx,YR] at he3
   obtain⟨rfl,rfl,rfl⟩:=he3
   refine ZJ hc (YF o3) e4 E3 S3 fun σ4 v' H4 m4 hv S4=>?_
   exact⟨H4,Yt.refl _,hq _ H4 ⟨σ4,Ren.le_trans m2 (Ren.le_trans m3 m4),.pan hv,S4⟩⟩
  ·cases he3
 cases hm:s.mid with
 | none =>
  rw[hm] at he1
  exact blk l1 nx1 h1 he1 σ1 ρ1 H1 m1 E1 S1
 | some mc =>
  rw[hm] at he1
  refine Yk (W:=fun Q2=>Yr P (Xx Q) mc Q2 ρ1 H1) he1 (ql m1) (fun x nx3 h3 e3 Q2 hk=>zS hc fuel _ _ _ _ _ _ _ (o5 mc hm) e3 σ1 ρ1 H1 E1 S1 Q2 hk) fun l3 nx3 h3 he3 σ3 ρ3 H3 m3 E3 S3=>?_
  exact blk l3 nx3 h3 he3 σ3 ρ3 H3 (Ren.le_trans m1 m3) E3 S3
theorem UF {f:FuncId} {args args':List AV} {e:zZ} {σ:Ren} {nx:Nat} {h:AH} {H:zb} (hp:zt P f (args.map AV.strip) zb.emp fun e' H'=>e'=e∧H'=zb.emp) (hr:e.free=true) (hf:AV.frees (args.map AV.strip)=true) (ha:RL σ args args') (hs:RS σ nx h.get H) :
  zt P f args' H fun e' H'=>Ty σ e nx h e' H':=by
 refine zt.strips ?_
 rw[TN (RL.strips ha) hf]
 have:=hp.frame (Ti H)
 rw[Y3] at this
 refine this.mono fun e' H' ⟨A',⟨h1,h2⟩,_,h3⟩=>?_
 subst h1;subst h2;subst h3
 rw[Y3]
 exact⟨σ,Ren.le_refl _,WA.free hr,hs⟩
theorem Wk {nx nx':Nat} {h h':AH} {r:ER} {e:zZ} (he:XQ nx h r=some (e,nx',h')):∃ e0 n0 g0,r=some (e0,n0,g0)∧e=e0.strip∧e.free=true∧nx'=nx∧h'=h:=by
 unfold XQ at he
 split at he
 ·rename_i e0 n0 g0
  split at he
  ·rename_i hf
   simp only[zx,YR] at he
   obtain⟨rfl,rfl,rfl⟩:=he
   exact⟨e0,n0,g0,rfl,rfl,hf,rfl,rfl⟩
  ·cases he
 ·cases he
theorem Uz {f:FuncId} {as:List AV} {e:zZ} {n0:Nat} {g0:AH} (hf:e.strip.free=true) (h:zt P f as zb.emp fun e' H'=>Ty (fun _=>none) e n0 g0 e' H'):zt P f as zb.emp fun e' H'=>e'=e.strip∧H'=zb.emp :=
 zt.stripE (h.forget.mono fun e' H' ⟨hH,H2,σ',h1,h2,h3⟩=>⟨h2.strip.same hf,hH⟩)
theorem SC {T:FuncId→Option UU} {O:FuncId→List AV→Option AV} (hT:Q9 P T O) (fuel:Nat):∀ n,Zs P (OR P T O fuel n):=by
 intro n
 induction n with
 | zero=>intro f args nx h v nx' h' he;cases he
 | succ n ih =>
  intro f args nx h e nx' h' he σ args' H ha hs
  simp only[OR] at he
  split at he
  ·rename_i r ho
   simp only[zx,YR] at he
   obtain⟨rfl,rfl,rfl⟩:=he
   obtain⟨h1,h2,h3⟩:=hT.orc _ _ _ ho
   exact UF h3 h2 h1 ha hs
  ·split at he
   ·cases he
   ·rename_i x hx
    unfold Qz at he
    split at he
    ·rename_i af
     obtain⟨hck,hok⟩:=hT.fn f af true hx
     split at he
     ·cases he
     rename_i hnp
     refine zt.of_fn af hck (by rw[← ha.len];omega) ?_
     exact YN ih hok he (y7 0 ha) hs fun e' H' hq=>hq
    ·rename_i af
     obtain⟨hck,hok⟩:=hT.fn f af false hx
     split at he
     ·cases he
     rename_i hnp
     split at he
     case isFalse =>
      refine zt.of_fn af hck (by rw[← ha.len];omega) ?_
      exact YN ih hok he (y7 0 ha) hs fun e' H' hq=>hq
     rename_i hfr
     obtain⟨e0,n0,g0,hev,rfl,hfe,rfl,rfl⟩:=Wk he
     refine UF (Uz (n0:=n0) (g0:=g0) hfe ?_) hfe hfr ha hs
     refine zt.of_fn af hck (by rw[List.length_map];omega) ?_
     exact YN ih hok hev (y7 0 (AV.frees_rl _ hfr)) (TX _) fun e' H' hq=>hq
    ·rename_i s df d
     obtain⟨c1,c2,o1,o2,o3,o4,o5,o6,o7⟩:=hT.sp f s df d true hx
     split at he
     ·cases he
     rename_i hnp
     exact Xq ih c1 c2 o1 o2 o3 o4 o5 o6 o7 (by omega) he ha hs fun e' H' hq=>hq
    ·rename_i s df d
     obtain⟨c1,c2,o1,o2,o3,o4,o5,o6,o7⟩:=hT.sp f s df d false hx
     split at he
     ·cases he
     rename_i hnp
     split at he
     case isFalse=>exact Xq ih c1 c2 o1 o2 o3 o4 o5 o6 o7 (by omega) he ha hs fun e' H' hq=>hq
     rename_i hfr
     obtain⟨e0,n0,g0,hev,rfl,hfe,rfl,rfl⟩:=Wk he
     refine UF (Uz (n0:=n0) (g0:=g0) hfe ?_) hfe hfr ha hs
     exact Xq ih c1 c2 o1 o2 o3 o4 o5 o6 o7 (by rw[List.length_map];omega) hev (AV.frees_rl _ hfr) (TX _) fun e' H' hq=>hq
theorem zz.of_ev {T:FuncId→Option UU} {O:FuncId→List AV→Option AV} (hT:Q9 P T O) (fuel n:Nat) {f:FuncId} {args:List AV} {r:AV} (hf:AV.frees args=true) (hr:r.free=true)
  (he:(match OR P T O fuel n f args 0 [] with|some (.ret v,_,_)=>Zt v.strip r|_=>false)=true):zz P f args r:=by
 split at he
 ·rename_i v nx' h' e
  have e2:=WU _ _ he
  have:=Uz (e:=.ret v) (by show v.strip.free=true;rw[e2];exact hr) (SC hT fuel n f args 0 [] _ nx' h' e (fun _=>none) args zb.emp (AV.frees_rl _ hf) (TX _))
  exact this.mono fun e' H' ⟨h1,h2⟩=>⟨by rw[h1];show zZ.ret v.strip=_;rw[e2],h2⟩
 ·cases he
end
noncomputable def ob {α β:Type} (o:Option α) (f:α→Option β):Option β:=Option.rec none f o
noncomputable def bc {α:Type} (t:Bool) (a b:α):α:=Bool.rec b a t
noncomputable def Re (l:EL) (n:Nat):AV:=List.rec (motive:=fun _=>AV) .any (fun p _ ih=>Bool.rec ih p.2 (Nat.beq n p.1)) l
theorem Ul (n:Nat):∀ l:EL,Re l n=zd l n
 | []=>rfl
 | (d,c)::r=>by
  show Bool.rec (Re r n) c (Nat.beq n d)=if n=d then c else zd r n
  cases hb:Nat.beq n d with
  | true=>rw[if_pos (Nat.eq_of_beq_eq_true hb)]
  | false=>rw[if_neg (Nat.ne_of_beq_eq_false hb),Ul n r]
noncomputable def WM (x:zu) (l:EL):AV:=zu.rec (motive:=fun _=>EL→AV) (fun n l=>Re l n) (fun c _=>c) x l
theorem Yn (x:zu) (l:EL):WM x l=x.ev (zd l):=by
 cases x with
 | t n=>exact Ul n l
 | k c=>rfl
noncomputable def AV.boolQ (v:AV):Option Bool:=AV.rec (motive_1:=fun _=>Option Bool) (motive_2:=fun _=>Unit) (motive_3:=fun _=>Unit) (any:=none) (bool:=fun b=>some b) (ubool:=fun _=>none) (int:=fun _ _=>none) (str:=fun _=>none) (agg:=fun _ _=>none) (tup:=fun _ _=>none) (sl:=fun _ _ _ _=>none) (slx:=fun _ _ _ _ _=>none) (nilp:=none) (ptr:=fun _ _=>none) (view:=fun _ _=>none) (ms:=fun _ _ _ _=>none) (nilm:=none) (mp:=fun _=>none) (clo:=fun _ _ _ _ _=>none) (oth:=fun _=>none) (ifc:=fun _ _ _=>none) () (fun _ _ _ _=>()) () (fun _ _ _ _=>()) v
noncomputable def AV.intQ (v:AV):Option (IntKind×Int):=AV.rec (motive_1:=fun _=>Option (IntKind×Int)) (motive_2:=fun _=>Unit) (motive_3:=fun _=>Unit) (any:=none) (bool:=fun _=>none) (ubool:=fun _=>none) (int:=fun k n=>some (k,n)) (str:=fun _=>none) (agg:=fun _ _=>none) (tup:=fun _ _=>none) (sl:=fun _ _ _ _=>none) (slx:=fun _ _ _ _ _=>none) (nilp:=none) (ptr:=fun _ _=>none) (view:=fun _ _=>none) (ms:=fun _ _ _ _=>none) (nilm:=none) (mp:=fun _=>none) (clo:=fun _ _ _ _ _=>none) (oth:=fun _=>none) (ifc:=fun _ _ _=>none) () (fun _ _ _ _=>()) () (fun _ _ _ _=>()) v
noncomputable def AV.tupQ (v:AV):Option (List AV):=AV.rec (motive_1:=fun _=>Option (List AV)) (motive_2:=fun _=>Unit) (motive_3:=fun _=>Unit) (any:=none) (bool:=fun _=>none) (ubool:=fun _=>none) (int:=fun _ _=>none) (str:=fun _=>none) (agg:=fun _ _=>none) (tup:=fun vs _=>some vs) (sl:=fun _ _ _ _=>none) (slx:=fun _ _ _ _ _=>none) (nilp:=none) (ptr:=fun _ _=>none) (view:=fun _ _=>none) (ms:=fun _ _ _ _=>none) (nilm:=none) (mp:=fun _=>none) (clo:=fun _ _ _ _ _=>none) (oth:=fun _=>none) (ifc:=fun _ _ _=>none) () (fun _ _ _ _=>()) () (fun _ _ _ _=>()) v
noncomputable def AV.lenQ (v:AV):Option Int:=AV.rec (motive_1:=fun _=>Option Int) (motive_2:=fun _=>Unit) (motive_3:=fun _=>Unit) (any:=none) (bool:=fun _=>none) (ubool:=fun _=>none) (int:=fun _ _=>none) (str:=fun _=>none) (agg:=fun _ _=>none) (tup:=fun _ _=>none) (sl:=fun _ _ xs _=>some (xs.length:Int)) (slx:=fun _ xs _ _ _=>some (xs.length:Int)) (nilp:=none) (ptr:=fun _ _=>none) (view:=fun _ _=>none) (ms:=fun _ _ n _=>some (n:Int)) (nilm:=none) (mp:=fun _=>none) (clo:=fun _ _ _ _ _=>none) (oth:=fun _=>none) (ifc:=fun _ _ _=>none) () (fun _ _ _ _=>()) () (fun _ _ _ _=>()) v
noncomputable def MA (o:Nat) (v:AV):Option AV:=AV.rec (motive_1:=fun _=>Option AV) (motive_2:=fun _=>Unit) (motive_3:=fun _=>Unit) (any:=none) (bool:=fun _=>none) (ubool:=fun _=>none) (int:=fun _ _=>none) (str:=fun _=>none) (agg:=fun _ _=>none) (tup:=fun _ _=>none) (sl:=fun _ _ _ _=>none) (slx:=fun _ _ _ _ _=>none) (nilp:=none) (ptr:=fun b k=>some (.ptr b (k+o))) (view:=fun cs _=>some (.view (cs.drop o))) (ms:=fun _ _ _ _=>none) (nilm:=none) (mp:=fun _=>none) (clo:=fun _ _ _ _ _=>none) (oth:=fun _=>none) (ifc:=fun _ _ _=>none) () (fun _ _ _ _=>()) () (fun _ _ _ _=>()) v
noncomputable def MD (n:Nat) (ag:Bool) (h:AH) (v:AV):Option AV:=AV.rec (motive_1:=fun _=>Option AV) (motive_2:=fun _=>Unit) (motive_3:=fun _=>Unit) (any:=none) (bool:=fun _=>none) (ubool:=fun _=>none) (int:=fun _ _=>none) (str:=fun _=>none) (agg:=fun _ _=>none) (tup:=fun _ _=>none) (sl:=fun _ _ _ _=>none) (slx:=fun _ _ _ _ _=>none) (nilp:=none) (ptr:=fun b off=>match h.get b with
 | some (.cells cs)=>if off+n≤cs.length then some (mk ag ((cs.drop off).take n)) else none
 | _=>none) (view:=fun cs _=>if n≤cs.length then some (mk ag (cs.take n)) else none) (ms:=fun _ _ _ _=>none) (nilm:=none) (mp:=fun _=>none) (clo:=fun _ _ _ _ _=>none) (oth:=fun _=>none) (ifc:=fun _ _ _=>none) () (fun _ _ _ _=>()) () (fun _ _ _ _=>()) v
noncomputable def OT (a b:IntKind):Bool:=Nat.beq a.ctorIdx b.ctorIdx
theorem Od (a b c d:IntKind):and (OT a b) (OT c d)=decide (a=b∧c=d):=by
 cases a<;>cases b<;>cases c<;>cases d<;>rfl
noncomputable def T3 (k:IntKind) (n:Int):Int:=match n with
 | .ofNat m=>Bool.rec (k.wrap n) n (Nat.ble m 127)
 | n=>k.wrap n
theorem RQ (k:IntKind) (n:Int):T3 k n=k.wrap n:=by
 unfold T3
 split
 ·rename_i m
  cases hb:Nat.ble m 127 with
  | false=>rfl
  | true =>
   have hm:m≤127:=Nat.le_of_ble_eq_true hb
   show ((m:Nat):Int)=k.wrap (m:Int)
   unfold IntKind.wrap
   have h0:(0:Int)≤(m:Int):=by omega
   have e:∀ b:Nat,8≤b→(m:Int) % 2 ^ b=m:=fun b hb=>by
    refine Int.emod_eq_of_lt h0 ?_
    have:(2:Int) ^ 8≤2 ^ b:=by exact_mod_cast Nat.pow_le_pow_right (by decide) hb
    omega
   have e2:∀ b:Nat,8≤b→¬ ((m:Int)≥2 ^ (b-1)):=fun b hb=>by
    have:(2:Int) ^ 7≤2 ^ (b-1):=by exact_mod_cast Nat.pow_le_pow_right (by decide) (by omega)
    omega
   have hk:8≤k.bits:=by cases k<;>decide
   simp only[e _ hk,e2 _ hk,decide_false,Bool.and_false,V6,if_false]
 ·rfl
def NS (a b:Int):Bool:=match a,b with
 | .ofNat m,.ofNat n=>Nat.ble (m+1) n
 | a,b=>decide (a<b)
theorem Ob (a b:Int):NS a b=decide (a<b):=by
 unfold NS
 split
 ·rename_i m n
  rw[Bool.eq_iff_iff,Nat.ble_eq,zU]
  show m+1≤n↔((m:Nat):Int)<(n:Int)
  omega
 ·rfl
def NT (a b:Int):Bool:=match a,b with
 | .ofNat m,.ofNat n=>Nat.beq m n
 | a,b=>a==b
theorem RH (a b:Int):NT a b=(a==b):=by
 unfold NT
 split
 ·rename_i m n
  rw[Bool.eq_iff_iff,Nat.beq_eq,beq_iff_eq]
  show m=n↔((m:Nat):Int)=(n:Int)
  omega
 ·rfl
noncomputable def Tw (op:BinOp) (k:IntKind) (a b:Int):Option AV :=
 BinOp.casesOn (motive:=fun _=>IntKind→Int→Int→Option AV) op
 (fun k a b=>some (.int k (T3 k (a+b)))) (fun k a b=>some (.int k (T3 k (a-b)))) (fun k a b=>yR .mul k a b) (fun k a b=>yR .quo k a b) (fun k a b=>yR .rem k a b) (fun k a b=>yR .and k a b) (fun k a b=>yR .or k a b) (fun k a b=>yR .xor k a b) (fun k a b=>yR .shl k a b) (fun k a b=>yR .shr k a b) (fun k a b=>yR .andNot k a b) (fun _ a b=>some (.bool (NT a b))) (fun _ a b=>some (.bool (not (NT a b)))) (fun _ a b=>some (.bool (NS a b))) (fun k a b=>yR .leq k a b) (fun _ a b=>some (.bool (NS b a))) (fun k a b=>yR .geq k a b) k a b
theorem R5 (op:BinOp) (k:IntKind) (a b:Int):Tw op k a b=yR op k a b:=by
 cases op<;>first|rfl|(simp only[Tw,yR,RQ,Ob,RH];done)|(simp only[Tw,yR,RH];rfl)
noncomputable def RJ (o:z6):Program→ym→EL→Nat→AH→ER :=
 z6.rec (motive:=fun _=>Program→ym→EL→Nat→AH→ER)
 (mv:=fun x _ _ l nx h=>some (.ret (WM x l),nx,h))
 (pick:=fun c a b _ _ l nx h=>ob (AV.boolQ (WM c l)) fun t=>some (.ret (bc t (WM a l) (WM b l)),nx,h))
 (nilchk:=fun x P call l nx h=>yb P call (zd l) nx h (.nilchk x))
 (bi:=fun op k x y _ _ l nx h=>ob (AV.intQ (WM x l)) fun a=>ob (AV.intQ (WM y l)) fun b=>bc (and (OT a.1 k) (OT b.1 k)) (ob (Tw op k a.2 b.2) fun v=>some (.ret v,nx,h)) none)
 (shf:=fun op x y P call l nx h=>yb P call (zd l) nx h (.shf op x y))
 (bs:=fun op x y P call l nx h=>yb P call (zd l) nx h (.bs op x y))
 (bb:=fun g x y P call l nx h=>yb P call (zd l) nx h (.bb g x y))
 (eqa:=fun g ks x y P call l nx h=>yb P call (zd l) nx h (.eqa g ks x y))
 (isnil:=fun nk x P call l nx h=>yb P call (zd l) nx h (.isnil nk x))
 (isnn:=fun nk x P call l nx h=>yb P call (zd l) nx h (.isnn nk x))
 (not:=fun x _ _ l nx h=>ob (AV.boolQ (WM x l)) fun t=>some (.ret (.bool (not t)),nx,h))
 (ineg:=fun x P call l nx h=>yb P call (zd l) nx h (.ineg x))
 (cvi:=fun k x P call l nx h=>yb P call (zd l) nx h (.cvi k x))
 (cvid:=fun x P call l nx h=>yb P call (zd l) nx h (.cvid x))
 (cvb2s:=fun x P call l nx h=>yb P call (zd l) nx h (.cvb2s x))
 (bld:=fun z qs P call l nx h=>yb P call (zd l) nx h (.bld z qs))
 (bls:=fun s n z qs P call l nx h=>yb P call (zd l) nx h (.bls s n z qs))
 (bls2:=fun s n z qs P call l nx h=>yb P call (zd l) nx h (.bls2 s n z qs))
 (mkfn:=fun f a b P call l nx h=>yb P call (zd l) nx h (.mkfn f a b))
 (ext:=fun x i _ _ l nx h=>ob (AV.tupQ (WM x l)) fun vs=>ob (vs[i]?) fun v=>some (.ret v,nx,h))
 (mki:=fun t x P call l nx h=>yb P call (zd l) nx h (.mki t x))
 (fa:=fun o x _ _ l nx h=>ob (MA o (WM x l)) fun v=>some (.ret v,nx,h))
 (fld:=fun o n g x P call l nx h=>yb P call (zd l) nx h (.fld o n g x))
 (ia:=fun s x i P call l nx h=>yb P call (zd l) nx h (.ia s x i))
 (iar:=fun n s x i P call l nx h=>yb P call (zd l) nx h (.iar n s x i))
 (ixs:=fun x i P call l nx h=>yb P call (zd l) nx h (.ixs x i))
 (sls:=fun x a b P call l nx h=>yb P call (zd l) nx h (.sls x a b))
 (sll:=fun s x a b c P call l nx h=>yb P call (zd l) nx h (.sll s x a b c))
 (sllx:=fun s x a P call l nx h=>yb P call (zd l) nx h (.sllx s x a))
 (len:=fun x _ _ l nx h=>ob (AV.lenQ (WM x l)) fun n=>some (.ret (.int .i64 n),nx,h))
 (lens:=fun x P call l nx h=>yb P call (zd l) nx h (.lens x))
 (mm:=fun g x ys P call l nx h=>yb P call (zd l) nx h (.mm g x ys))
 (boxv:=fun x P call l nx h=>yb P call (zd l) nx h (.boxv x))
 (ifnil:=fun g x P call l nx h=>yb P call (zd l) nx h (.ifnil g x))
 (tas:=fun t z x P call l nx h=>yb P call (zd l) nx h (.tas t z x))
 (ld:=fun n g x _ _ l nx h=>ob (MD n g h (WM x l)) fun v=>some (.ret v,nx,h))
 (lkp:=fun kt z g m k P call l nx h=>yb P call (zd l) nx h (.lkp kt z g m k))
 (lenm:=fun x P call l nx h=>yb P call (zd l) nx h (.lenm x))
 (alloc:=fun z P call l nx h=>yb P call (zd l) nx h (.alloc z))
 (box:=fun x P call l nx h=>yb P call (zd l) nx h (.box x))
 (mkm:=fun kt P call l nx h=>yb P call (zd l) nx h (.mkm kt))
 (st:=fun n x y P call l nx h=>yb P call (zd l) nx h (.st n x y))
 (mup:=fun kt m k v P call l nx h=>yb P call (zd l) nx h (.mup kt m k v))
 (app:=fun s n x y P call l nx h=>yb P call (zd l) nx h (.app s n x y))
 (apps:=fun x y P call l nx h=>yb P call (zd l) nx h (.apps x y))
 (mks:=fun s n x P call l nx h=>yb P call (zd l) nx h (.mks s n x))
 (mksn:=fun z n x P call l nx h=>yb P call (zd l) nx h (.mksn z n x))
 (blsm:=fun s n z qs P call l nx h=>yb P call (zd l) nx h (.blsm s n z qs))
 (appm:=fun s n z x y P call l nx h=>yb P call (zd l) nx h (.appm s n z x y))
 (appm2:=fun s n z x y P call l nx h=>yb P call (zd l) nx h (.appm2 s n z x y))
 (frz:=fun s x P call l nx h=>yb P call (zd l) nx h (.frz s x))
 (slar:=fun n x a P call l nx h=>yb P call (zd l) nx h (.slar n x a))
 (slaf:=fun n s x a P call l nx h=>yb P call (zd l) nx h (.slaf n s x a))
 (call:=fun f xs P call l nx h=>yb P call (zd l) nx h (.call f xs))
 (callv:=fun g xs P call l nx h=>yb P call (zd l) nx h (.callv g xs))
 (pan:=fun x P call l nx h=>yb P call (zd l) nx h (.pan x))
 o
theorem Qf (o:z6) (P:Program) (call:ym) (l:EL) (nx:Nat) (h:AH):RJ o P call l nx h=yb P call (zd l) nx h o:=by
 cases o with
 | mv x=>show some (zZ.ret (WM x l),nx,h)=_;rw[Yn];rfl
 | pick c a b =>
  show ob (AV.boolQ (WM c l)) (fun t=>some (zZ.ret (bc t (WM a l) (WM b l)),nx,h))=_
  simp only[Yn,yb,z6.cls,zY]
  generalize c.ev (zd l)=v
  cases v<;>first|rfl|(rename_i t;cases t<;>rfl)
 | bi op k x y =>
  show ob (AV.intQ (WM x l)) (fun a=>ob (AV.intQ (WM y l)) fun b=>bc (and (OT a.1 k) (OT b.1 k)) (ob (Tw op k a.2 b.2) fun v=>some (zZ.ret v,nx,h)) none)=_
  simp only[Yn,yb,z6.cls,zY,Od,R5]
  generalize x.ev (zd l)=v
  generalize y.ev (zd l)=w
  cases v<;>first|rfl|skip
  cases w<;>first|rfl|skip
  rename_i k1 a k2 b
  show bc (decide (k1=k∧k2=k)) (ob (yR op k a b) fun v=>some (zZ.ret v,nx,h)) none=_
  simp only
  by_cases hc:k1=k∧k2=k
  ·rw[decide_eq_true hc,if_pos hc]
   cases yR op k a b<;>rfl
  ·rw[decide_eq_false hc,if_neg hc];rfl
 | not x =>
  show ob (AV.boolQ (WM x l)) (fun t=>some (zZ.ret (AV.bool (not t)),nx,h))=_
  simp only[Yn,yb,z6.cls,zY]
  generalize x.ev (zd l)=v
  cases v<;>rfl
 | ext x i =>
  show ob (AV.tupQ (WM x l)) (fun vs=>ob (vs[i]?) fun v=>some (zZ.ret v,nx,h))=_
  simp only[Yn,yb,z6.cls,zY]
  generalize x.ev (zd l)=v
  cases v<;>first|rfl|skip
  rename_i vs
  show (ob (vs[i]?) fun v=>some (zZ.ret v,nx,h))=_
  simp only
  cases vs[i]?<;>rfl
 | fa o x =>
  show ob (MA o (WM x l)) (fun v=>some (zZ.ret v,nx,h))=_
  simp only[Yn,yb,z6.cls,zY]
  generalize x.ev (zd l)=v
  cases v<;>rfl
 | len x =>
  show ob (AV.lenQ (WM x l)) (fun n=>some (zZ.ret (AV.int .i64 n),nx,h))=_
  simp only[Yn,yb,z6.cls,zY]
  generalize x.ev (zd l)=v
  cases v<;>rfl
 | ld n g x =>
  show ob (MD n g h (WM x l)) (fun v=>some (zZ.ret v,nx,h))=_
  simp only[Yn,yb,z6.cls,rev]
  generalize x.ev (zd l)=v
  cases v<;>first|rfl|skip
  ·rename_i b off
   show ob (match h.get b with
    | some (.cells cs)=>if off+n≤cs.length then some (mk g ((cs.drop off).take n)) else none
    | _=>none) (fun v=>some (zZ.ret v,nx,h))=_
   simp only
   cases h.get b with
   | none=>rfl
   | some o =>
    cases o with
    | cells cs =>
     simp only
     by_cases hc:off+n≤cs.length
     ·rw[if_pos hc];rfl
     ·rw[if_neg hc];rfl
    | tip n s=>rfl
    | map kt es=>rfl
  ·rename_i cs
   show ob (if n≤cs.length then some (mk g (cs.take n)) else none) (fun v=>some (zZ.ret v,nx,h))=_
   simp only
   by_cases hc:n≤cs.length
   ·rw[if_pos hc];rfl
   ·rw[if_neg hc];rfl
 | _=>rfl
noncomputable def OD (l:EL) (d:Nat) (c:AV):EL:=List.rec (motive:=fun _=>EL) [(d,c)] (fun p r ih=>Bool.rec (p::ih) ((d,c)::r) (Nat.beq d p.1)) l
theorem Sg (d:Nat) (c:AV):∀ l:EL,OD l d c=EL.put l d c
 | []=>rfl
 | (n,x)::r=>by
  show Bool.rec ((n,x)::OD r d c) ((d,c)::r) (Nat.beq d n)=if d=n then (d,c)::r else (n,x)::EL.put r d c
  cases hb:Nat.beq d n with
  | true=>rw[if_pos (Nat.eq_of_beq_eq_true hb)]
  | false=>rw[if_neg (Nat.ne_of_beq_eq_false hb),Sg d c r]
noncomputable def TR (l:EL) (d:Option Nat) (c:AV):EL:=Option.rec l (fun d=>OD l d c) d
theorem QI (l:EL) (d:Option Nat) (c:AV):TR l d c=EL.set l d c:=by
 cases d with
 | none=>rfl
 | some d=>exact Sg d c l
noncomputable def Mb (g:Option (Nat×Bool)) (l:EL):Option Bool:=Option.rec (some true) (fun _=>gv g (zd l)) g
theorem Oo (g:Option (Nat×Bool)) (l:EL):Mb g l=gv g (zd l):=by cases g<;>rfl
noncomputable def N9 (R:List yQ) (l:EL) (h:AH):Bool:=List.rec (motive:=fun _=>Bool) true (fun _ _ _=>Un (zd l) h.get R) R
theorem PX (R:List yQ) (l:EL) (h:AH):N9 R l h=Un (zd l) h.get R:=by cases R<;>rfl
abbrev QR:=Option (XI×Nat×AH)
noncomputable def PT (P:Program) (call:ym) (its:List (zg×List yQ)):EL→Nat→AH→QR :=
 List.rec (motive:=fun _=>EL→Nat→AH→QR) (fun l nx h=>some (.ok l,nx,h))
  (fun it _ ih l nx h=>ob (Mb it.1.guard l) fun t=>bc t
   (ob (RJ it.1.op P call l nx h) fun r=>zZ.rec (motive:=fun _=>QR) (fun v=>bc (N9 it.2 (TR l it.1.dst v) r.2.2) (ih (TR l it.1.dst v) r.2.1 r.2.2) none) (fun v=>some (.pan v,r.2)) r.1) (ih (TR l it.1.dst (.tup [])) nx h)) its
theorem Ux (P:Program) (call:ym):∀(its:List (zg×List yQ)) (l:EL) (nx:Nat) (h:AH),PT P call its l nx h=yA P call its l nx h
 | [],_,_,_=>rfl
 | it::r,l,nx,h=>by
  show (ob (Mb it.1.guard l) fun t=>bc t
   (ob (RJ it.1.op P call l nx h) fun x=>zZ.rec (motive:=fun _=>QR) (fun v=>bc (N9 it.2 (TR l it.1.dst v) x.2.2) (PT P call r (TR l it.1.dst v) x.2.1 x.2.2) none) (fun v=>some (.pan v,x.2)) x.1) (PT P call r (TR l it.1.dst (.tup [])) nx h):QR)=_
  simp only[yA,Oo,Qf,QI,PX,Ux P call r]
  cases gv it.1.guard (zd l) with
  | none=>rfl
  | some t =>
   cases t with
   | false=>rfl
   | true =>
    cases yb P call (zd l) nx h it.1.op with
    | none=>rfl
    | some x =>
     obtain⟨e,nx',h'⟩:=x
     cases e with
     | pan v=>rfl
     | ret v =>
      show bc (Un (zd (EL.set l it.1.dst v)) (AH.get h') it.2) (yA P call r (EL.set l it.1.dst v) nx' h') none=if Un (zd (EL.set l it.1.dst v)) (AH.get h') it.2=true then yA P call r (EL.set l it.1.dst v) nx' h' else none
      cases Un (zd (EL.set l it.1.dst v)) (AH.get h') it.2<;>rfl
noncomputable def PM (r:CR) (k:EL→Nat→AH→CR):CR :=
 Option.rec none (fun x=>EX.rec (motive:=fun _=>CR) (fun e l=>zP.rec (motive:=fun _=>CR) (k l x.2.1 x.2.2) (fun i=>some (.n (.exit i) l,x.2)) (some (.n .ret l,x.2)) e) (fun v=>some (.p v,x.2)) x.1) r
noncomputable def NX (id:Nat) (r:CR):CR :=
 Option.rec none (fun x=>EX.rec (motive:=fun _=>CR) (fun e l=>zP.rec (motive:=fun _=>CR) (some (.n .normal l,x.2)) (fun i=>bc (Nat.beq i id) (some (.n .normal l,x.2)) (some (.n (.exit i) l,x.2))) (some (.n .ret l,x.2)) e) (fun v=>some (.p v,x.2)) x.1) r
theorem TD (r:CR) (k:EL→Nat→AH→CR):PM r k=match r with
  | some (.n .normal l,nx,h)=>k l nx h
  | r=>r:=by
 cases r with
 | none=>rfl
 | some x =>
  obtain⟨e,nx,h⟩:=x
  cases e with
  | p v=>rfl
  | n e l=>cases e<;>rfl
theorem PH (id:Nat) (r:CR):NX id r=match r with
  | some (.n (.exit i) l,nx,h)=>if i=id then some (.n .normal l,nx,h) else some (.n (.exit i) l,nx,h)
  | r=>r:=by
 cases r with
 | none=>rfl
 | some x =>
  obtain⟨e,nx,h⟩:=x
  cases e with
  | p v=>rfl
  | n e l =>
   cases e with
   | normal=>rfl
   | ret=>rfl
   | exit i =>
    show bc (Nat.beq i id) (some (EX.n .normal l,nx,h)) (some (EX.n (.exit i) l,nx,h))=if i=id then _ else _
    cases hb:Nat.beq i id with
    | true=>rw[if_pos (Nat.eq_of_beq_eq_true hb)];rfl
    | false=>rw[if_neg (Nat.ne_of_beq_eq_false hb)];rfl
abbrev CF:=AC→EL→Nat→AH→CR
noncomputable def VK (l:EL) (k:List Nat):EL:=List.rec (motive:=fun _=>EL) [] (fun n _ ih=>(n,Re l n)::ih) k
theorem Vh (l:EL):∀ k:List Nat,VK l k=EL.keep l k
 | []=>rfl
 | n::k=>by
  show (n,Re l n)::VK l k=(n,zd l n)::EL.keep l k
  rw[Ul,Vh l k]
noncomputable def MC (r:QR):CR:=ob r fun x=>XI.rec (motive:=fun _=>CR) (fun l=>some (.n .normal l,x.2)) (fun v=>some (.p v,x.2)) x.1
noncomputable def Py (P:Program) (call:ym) (ih:CF) (c:AC):EL→Nat→AH→CR :=
 AC.rec (motive:=fun _=>Program→ym→CF→EL→Nat→AH→CR)
 (skip:=fun _ _ _ l nx h=>some (.n .normal l,nx,h))
 (reg:=fun _ items P call _ l nx h=>MC (PT P call (ya items) l nx h))
 (seq:=fun a b _ _ _ _ ih l nx h=>PM (ih a l nx h) (ih b))
 (join:=fun k a b _ _ _ _ ih l nx h=>PM (ih a l nx h) fun l nx h=>ih b (VK l k) nx h)
 (cond:=fun c t e _ _ _ _ ih l nx h=>ob (AV.boolQ (WM c l)) fun x=>bc x (ih t l nx h) (ih e l nx h))
 (block:=fun id b _ _ _ ih l nx h=>NX id (ih b l nx h))
 (loop:=fun k b _ _ _ ih l nx h=>PM (ih b (VK l k) nx h) (ih (.loop k b)))
 (scope:=fun b _ _ _ ih l nx h=>ih b l nx h)
 (exit:=fun id _ _ _ l nx h=>some (.n (.exit id) l,nx,h))
 (ret:=fun _ _ _ l nx h=>some (.n .ret l,nx,h))
 (rfun:=fun _ _ _ _ _ _ _ _ _ _ _ _=>none)
 (both:=fun _ _ _ _ _ _ _ _ _ _=>none) c P call ih
noncomputable def cQ (P:Program) (call:ym) (m:Nat):CF:=Nat.rec (motive:=fun _=>CF) (fun _ _ _ _=>none) (fun _ ih c=>Py P call ih c) m
theorem T8 (P:Program) (call:ym):∀(m:Nat) (c:AC) (l:EL) (nx:Nat) (h:AH),cQ P call m c l nx h=XJ P call m c l nx h
 | 0,_,_,_,_=>rfl
 | m+1,c,l,nx,h=>by
  have ih:=T8 P call m
  show Py P call (cQ P call m) c l nx h=_
  unfold XJ
  cases c with
  | skip=>rfl
  | reg c items =>
   show MC (PT P call (ya items) l nx h)=_
   rw[Ux]
   simp only
   cases yA P call (ya items) l nx h with
   | none=>rfl
   | some x=>obtain⟨e,nx',h'⟩:=x;cases e<;>rfl
  | seq a b =>
   show PM (cQ P call m a l nx h) (cQ P call m b)=_
   rw[TD,ih]
   simp only[ih]
   all_goals rfl
  | join k a b =>
   show PM (cQ P call m a l nx h) (fun l nx h=>cQ P call m b (VK l k) nx h)=_
   rw[TD,ih]
   simp only[ih,Vh]
   all_goals rfl
  | cond c t e =>
   show (ob (AV.boolQ (WM c l)) fun x=>bc x (cQ P call m t l nx h) (cQ P call m e l nx h))=_
   rw[Yn,ih,ih]
   show _=(match c.ev (zd l) with
    | .bool true=>XJ P call m t l nx h
    | .bool false=>XJ P call m e l nx h
    | _=>none)
   generalize c.ev (zd l)=v
   cases v with
   | bool b=>cases b<;>rfl
   | _=>rfl
  | block id b =>
   show NX id (cQ P call m b l nx h)=_
   rw[PH,ih]
   all_goals rfl
  | loop k b =>
   show PM (cQ P call m b (VK l k) nx h) (cQ P call m (.loop k b))=_
   rw[TD,ih,Vh]
   simp only[ih]
   all_goals rfl
  | scope b=>exact ih b l nx h
  | exit id=>rfl
  | ret=>rfl
  | rfun g ps a b=>rfl
  | both a b=>rfl
noncomputable def QS (P:Program) (call:ym) (fuel:Nat) (s:Uc) (d:X9) (caps:List AV) (rv:Option AV) (l1:EL) (nx:Nat) (h:AH):ER :=
 if d.np<caps.length then none else
 match PT P call (ya d.items) (EL.set (zX 0 caps) (some d.d) (rv.getD (.oth .nilIface))) nx h with
 | some (.ok l,nx,h)=>match cQ P call fuel d.body l nx h with
  | some (.n (.exit _) _,_,_)=>none
  | some (.n _ _,nx,h)=>match yl ((zd l1).keep (List.range s.lo)) h.get s.res with
   | some vs=>some (.ret (zL vs),nx,h)
   | none=>none
  | _=>none
 | _=>none
noncomputable def OY (P:Program) (call:ym) (fuel:Nat) (s:Uc) (df:FuncId) (d:X9) (args:List AV) (nx:Nat) (h:AH):ER :=
 evThen s.res (cQ P call fuel s.pre (zX 0 args) nx h) fun l nx h =>
 evThen s.res (match s.mid with
  | none=>some (.n .normal l,nx,h)
  | some m=>cQ P call fuel m l nx h) fun l nx h =>
 evThen s.res (cQ P call fuel s.blk l nx h) fun l nx h =>
 match PT P call (ya s.items) l nx h with
 | some (.ok l1,nx,h)=>match zd l1 s.g with
  | .clo f [] caps=>if f=df∧Program.callable P f=true then match cQ P call fuel s.body l1 nx h with
   | some (.n (.exit _) _,_,_)=>none
   | some (.n _ _,nx,h)=>QS P call fuel s d caps none l1 nx h
   | some (.p v,nx,h)=>QS P call fuel s d caps (some v) l1 nx h
   | none=>none
   else none
  | _=>none
 | some (.pan v,nx,h)=>some (.pan v,nx,h)
 | none=>none
noncomputable def Mc (P:Program) (call:ym) (fuel:Nat) (x:UU) (args:List AV) (nx:Nat) (h:AH):ER :=
 match x with
 | .fn af true=>if af.np<args.length then none else Xd af.res (cQ P call fuel af.body (zX 0 args) nx h)
 | .fn af false=>if af.np<args.length then none else if AV.frees (args.map AV.strip)=true then XQ nx h (Xd af.res (cQ P call fuel af.body (zX 0 (args.map AV.strip)) 0 [])) else Xd af.res (cQ P call fuel af.body (zX 0 args) nx h)
 | .sp s df d true=>if s.np<args.length then none else OY P call fuel s df d args nx h
 | .sp s df d false=>if s.np<args.length then none else if AV.frees (args.map AV.strip)=true then XQ nx h (OY P call fuel s df d (args.map AV.strip) 0 []) else OY P call fuel s df d args nx h
theorem Q5 (P:Program) (call:ym) (fuel:Nat) (s:Uc) (d:X9) (caps:List AV) (rv:Option AV) (l1:EL) (nx:Nat) (h:AH):QS P call fuel s d caps rv l1 nx h=Wj P call fuel s d caps rv l1 nx h:=by
 unfold QS Wj
 simp only[Ux,T8]
 all_goals rfl
theorem PD (P:Program) (call:ym) (fuel:Nat) (s:Uc) (df:FuncId) (d:X9) (args:List AV) (nx:Nat) (h:AH):OY P call fuel s df d args nx h=TC P call fuel s df d args nx h:=by
 unfold OY TC
 simp only[Ux,T8,Q5]
 all_goals rfl
theorem Ol (P:Program) (call:ym) (fuel:Nat) (x:UU) (args:List AV) (nx:Nat) (h:AH):Mc P call fuel x args nx h=Qz P call fuel x args nx h:=by
 unfold Mc Qz
 simp only[T8,PD]
 all_goals rfl
noncomputable def RW (P:Program) (T:FuncId→Option UU) (O:FuncId→List AV→Option AV) (fuel:Nat) (call:ym):ym:=fun f args nx h =>
 match O f (args.map AV.strip) with
 | some r=>some (.ret r,nx,h)
 | none=>match T f with
  | none=>none
  | some x=>Mc P call fuel x args nx h
noncomputable def fQ (P:Program) (T:FuncId→Option UU) (O:FuncId→List AV→Option AV) (fuel n:Nat):ym :=
 Nat.rec (motive:=fun _=>ym) (fun _ _ _ _=>none) (fun _ ih=>RW P T O fuel ih) n
theorem Ps (P:Program) (T:FuncId→Option UU) (O:FuncId→List AV→Option AV) (fuel:Nat):∀ n:Nat,fQ P T O fuel n=OR P T O fuel n
 | 0=>by funext f args nx h;rfl
 | n+1=>by
  have ih:=Ps P T O fuel n
  show RW P T O fuel (fQ P T O fuel n)=_
  rw[ih]
  funext f args nx h
  unfold RW OR
  simp only[Ol]
  all_goals rfl
inductive Tr where
 | leaf
 | node (k:Nat) (v:UU) (l r:Tr)
noncomputable def Tr.find (t:Tr) (n:Nat):Option UU :=
 Tr.rec (motive:=fun _=>Option UU) none (fun k v _ _ hl hr=>bc (Nat.beq n k) (some v) (bc (Nat.ble n k) hl hr)) t
def Tr.vals:Tr→List (Nat×UU)
 | .leaf=>[]
 | .node k v l r=>(k,v)::(l.vals++r.vals)
theorem Tr.find_mem {n:Nat} {v:UU}:∀ t:Tr,t.find n=some v→(n,v)∈t.vals
 | .leaf,h=>by cases h
 | .node k x l r,h=>by
  have h2:bc (Nat.beq n k) (some x) (bc (Nat.ble n k) (l.find n) (r.find n))=some v:=h
  cases hb:Nat.beq n k with
  | true =>
   rw[hb] at h2
   have h3:some x=some v:=h2
   cases h3
   rw[Nat.eq_of_beq_eq_true hb]
   exact Zc ..
  | false =>
   rw[hb] at h2
   have h3:bc (Nat.ble n k) (l.find n) (r.find n)=some v:=h2
   refine ZL _ (List.mem_append.2 ?_)
   cases hc:Nat.ble n k with
   | true=>rw[hc] at h3;exact .inl (Tr.find_mem l h3)
   | false=>rw[hc] at h3;exact .inr (Tr.find_mem r h3)
theorem zz.of_ev2 {P:Program} {T:FuncId→Option UU} {O:FuncId→List AV→Option AV} (hT:Q9 P T O) (fuel n:Nat) {f:FuncId} {args:List AV} {r:AV} (hf:AV.frees args=true) (hr:r.free=true)
  (he:(match fQ P T O fuel n f args 0 [] with|some (.ret v,_,_)=>Zt v.strip r|_=>false)=true):zz P f args r :=
 zz.of_ev hT fuel n hf hr (by rw[← Ps];exact he)
def O8 (P:Program) (f:FuncId):UU→Prop
 | .fn af _=>za P f af=true∧af.body.okc=true
 | .sp s g d _=>(Va P f s=true∧YH P g d=true)∧(s.pre.okc&&(s.blk.okc&&(s.items.all zg.okc&&(s.body.okc&&((match s.mid with|some m=>m.okc|none=>true)&&(d.items.all zg.okc&&d.body.okc))))))=true
def ZA (P:Program):Tr→Prop
 | .leaf=>True
 | .node k v l r=>O8 P k v∧ZA P l∧ZA P r
theorem ZA.mem {P:Program} {n:Nat} {v:UU}:∀ {t:Tr},ZA P t→(n,v)∈t.vals→O8 P n v
 | .leaf,_,h=>by cases h
 | .node k x l r,ho,h=>by
  obtain⟨h1,h2,h3⟩:=ho
  rcases List.mem_cons.1 h with h|h
  ·cases h;exact h1
  ·rcases List.mem_append.1 h with h|h
   ·exact ZA.mem h2 h
   ·exact ZA.mem h3 h
theorem ZA.tab {P:Program} {t:Tr} (h:ZA P t) {O:FuncId→List AV→Option AV} (ho:∀ f as r,O f as=some r→AV.frees as=true∧r.free=true∧zz P f as r):Q9 P t.find O :=
 ⟨fun f af b hf=>h.mem (Tr.find_mem t hf),fun f s g d b hf=>by
  obtain⟨⟨c1,c2⟩,c3⟩:=h.mem (Tr.find_mem t hf)
  simp only[zH] at c3
  obtain⟨o1,o2,o3,o4,o5,o6,o7⟩:=c3
  exact⟨c1,c2,o1,o2,o3,o4,fun m hm=>by rw[hm] at o5;exact o5,o6,o7⟩,ho⟩
noncomputable def TF (f0:FuncId) (as0:List AV) (r0:AV) (O:FuncId→List AV→Option AV) (f:FuncId) (as:List AV):Option AV :=
 bc (Nat.beq f f0) (bc (Z2 as as0) (some r0) (O f as)) (O f as)
theorem Xv {P:Program} {f0:FuncId} {as0:List AV} {r0:AV} {O:FuncId→List AV→Option AV} (hp:zz P f0 as0 r0) (hf:AV.frees as0=true) (hr:r0.free=true) (ho:∀ f as r,O f as=some r→AV.frees as=true∧r.free=true∧zz P f as r) :
  ∀ f as r,TF f0 as0 r0 O f as=some r→AV.frees as=true∧r.free=true∧zz P f as r:=by
 intro f as r h
 unfold TF at h
 cases hb:Nat.beq f f0 with
 | false=>rw[hb] at h;exact ho f as r h
 | true =>
  rw[hb] at h
  cases hc:Z2 as as0 with
  | false=>rw[hc] at h;exact ho f as r h
  | true =>
   rw[hc] at h
   have e:some r0=some r:=h
   cases e
   rw[Nat.eq_of_beq_eq_true hb,Zk _ _ hc]
   exact⟨hf,hr,hp⟩
attribute [push_cast] steps st2 zY rev ZN ZC yR Rd RR bound ZG NI mk zX AV.cells AV.boxable AV.one AV.strip1 AV.strip2 Zp yH
attribute [go_sem] steps st2 zY rev ZN ZC yR Rd RR bound ZG NI mk zX AV.cells AV.boxable AV.one AV.strip1 AV.strip2 Zp yH Nat.reduceEqDiff reduceCtorEq Nat.reduceAdd Int.reduceNeg Nat.reduceLeDiff Int.reduceToNat Int.reduceEq Int.reduceLT Int.reduceLE Int.reduceAdd
attribute [go_sem ↓] reduceIte
abbrev Io (d:Nat) (o:z6):zg:=⟨some d,none,o,[]⟩
abbrev Im (d s:Nat):zg:=⟨some d,none,.mv (.t s),[]⟩
abbrev If (d k s:Nat):zg:=⟨some d,none,.fa k (.t s),[]⟩
abbrev Il (d k s:Nat):zg:=⟨some d,none,.ld k false (.t s),[]⟩
abbrev Jt (d g:Nat) (o:z6):zg:=⟨some d,some (g,true),o,[]⟩
abbrev Jf (d g:Nat) (o:z6):zg:=⟨some d,some (g,false),o,[]⟩
attribute [go_sem] Io Im If Il Jt Jf
abbrev zj (d:Nat) (n:Int):zg:=⟨some d,none,.mv (.k (.int .i64 n)),[]⟩
abbrev zh (d:Nat) (b:Bool):zg:=⟨some d,none,.mv (.k (.bool b)),[]⟩
abbrev zC (d s:Nat) (n:Int):zg:=⟨some d,none,.bi .add .i64 (.t s) (.k (.int .i64 n)),[]⟩
abbrev zN (d s:Nat) (n:Int):zg:=⟨some d,none,.bi .eql .i64 (.t s) (.k (.int .i64 n)),[]⟩
abbrev YV (d s:Nat) (n:Int):zg:=⟨some d,none,.bi .gtr .i64 (.t s) (.k (.int .i64 n)),[]⟩
abbrev VA (d s:Nat) (n:Int):zg:=⟨some d,none,.bi .sub .i64 (.t s) (.k (.int .i64 n)),[]⟩
abbrev zI (d a b:Nat):zg:=⟨some d,none,.pick (.t a) (.t b) (.k (.bool false)),[]⟩
abbrev ye (d a b:Nat):zg:=⟨some d,none,.pick (.t a) (.k (.bool true)) (.t b),[]⟩
abbrev zc (d k s:Nat):zg:=⟨some d,none,.ld k true (.t s),[]⟩
abbrev zF (d k a b:Nat):zg:=⟨some d,none,.ia k (.t a) (.t b),[]⟩
abbrev zK (d a b:Nat):zg:=⟨some d,none,.bi .lss .i64 (.t a) (.t b),[]⟩
abbrev z1 (d k n a b:Nat):zg:=⟨some d,none,.app k n (.t a) (.t b),[]⟩
abbrev zk (d s:Nat):zg:=⟨some d,none,.nilchk (.t s),[]⟩
abbrev zD (d s:Nat):zg:=⟨some d,none,.len (.t s),[]⟩
abbrev WW (d s:Nat):zg:=⟨some d,none,.lens (.t s),[]⟩
abbrev XM (d a b:Nat):zg:=⟨some d,none,.bi .add .i64 (.t a) (.t b),[]⟩
abbrev zr (d s k:Nat):zg:=⟨some d,none,.ext (.t s) k,[]⟩
abbrev zp (d s:Nat):zg:=⟨some d,none,.boxv (.t s),[]⟩
abbrev zW (d s:Nat):zg:=⟨some d,none,.not (.t s),[]⟩
abbrev Jm (d g s:Nat):zg:=⟨some d,some (g,true),.mv (.t s),[]⟩
abbrev Jl (d g k s:Nat):zg:=⟨some d,some (g,true),.ld k false (.t s),[]⟩
abbrev Ja (d g k s:Nat):zg:=⟨some d,some (g,true),.fa k (.t s),[]⟩
abbrev Fm (d g s:Nat):zg:=⟨some d,some (g,false),.mv (.t s),[]⟩
abbrev Fl (d g k s:Nat):zg:=⟨some d,some (g,false),.ld k false (.t s),[]⟩
abbrev Fa (d g k s:Nat):zg:=⟨some d,some (g,false),.fa k (.t s),[]⟩
abbrev AC.rg (l:List zg):AC:=.reg [] l
attribute [go_sem] AC.rg Jm Jl Ja Fm Fl Fa zj zh zC zN YV VA zI ye zc zF zK z1 zk zD WW XM zr zp zW
end Go.Ab
