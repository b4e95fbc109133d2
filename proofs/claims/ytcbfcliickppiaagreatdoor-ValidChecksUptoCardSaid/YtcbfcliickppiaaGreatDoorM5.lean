import Derived.JoinedOf
import GoSem.ClaimGoes
import Derived.Test.YtcbfcliickppiaaGreatDoorM4
import Derived.Lib.ItoaMem
import Derived.Lib.ParseIntBTie
import Derived.Lib.ValidLaws
import Derived.Lib.ItoaLen
import Derived.Lib.Join
import Derived.Lib.DecodeN
import Derived.Lib.TrimUEq
import Derived.Shelf.Strings.OnBuilder
set_option maxRecDepth 100000
set_option linter.all false
namespace Go.Ab
attribute [go_sem] zx yB
def nen2{a b p:Prop}(C:a)(D:b)(e:a->b->p:=by intro C D e;subst e;rw[C]at D;cases D):p:=e C D
def xa{p q:Prop}(h:q)(e:q->p:=by intro h;simp(disch:=first|omega|assumption) only[go_sem];exact h):p:=e h
def xb{p:Prop}(e:p:=by simp(disch:=first|omega|assumption) only[go_sem]):p:=e
def xc{a p q:Prop}(C:a)(h:q)(e:a->q->p:=by intro C h;simp(disch:=first|omega|assumption) only[C,go_sem];exact h):p:=e C h
def xd{a b p q:Prop}(C:a)(D:b)(h:q)(e:a->b->q->p:=by intro C D h;simp(disch:=first|omega|assumption) only[C,D,go_sem];exact h):p:=e C D h
def xe{a b c p q:Prop}(C:a)(D:b)(E:c)(h:q)(e:a->b->c->q->p:=by intro C D E h;simp(disch:=first|omega|assumption) only[C,D,E,go_sem];exact h):p:=e C D E h
def xf{p:Prop}(e:p:=by simp(disch:=first|omega|assumption) only[wrap64,go_sem]):p:=e
def xg{p:Prop}(e:p:=by omega):p:=e
def xh{A B p:Prop}(y:A)(h:B)(e:A->B->p:=by intro y h;simp(disch:=first|omega|assumption) only[go_sem];exact za y h):p:=e y h
def xi{p:Prop}(e:p:=by simp only[ze];omega):p:=e
def xj{a w p:Prop}(y:w)(C:a)(e:w->a->p:=by intro y C;exact y rfl (by simp[C])):p:=e y C
def xk{a b c d p q:Prop}(C:a)(D:b)(E:c)(F:d)(h:q)(e:a->b->c->d->q->p:=by intro C D E F h;simp(disch:=first|omega|assumption) only[C,D,E,F,go_sem];exact h):p:=e C D E F h
def xl{p q:Prop}(h:q)(e:q->p:=by intro h;simp only[ze];exact h):p:=e h
def xm{a b c A B p:Prop}(C:a)(D:b)(E:c)(y:A)(h:B)(e:a->b->c->A->B->p:=by intro C D E y h;simp(disch:=first|omega|assumption) only[C,D,E,go_sem];exact za y h):p:=e C D E y h
def xn{a b A B p:Prop}(C:a)(D:b)(y:A)(h:B)(e:a->b->A->B->p:=by intro C D y h;simp(disch:=first|omega|assumption) only[C,D,go_sem];exact za y h):p:=e C D y h
def xo{w p:Prop}(y:w)(e:w->p:=by intro y;exact y rfl (by simp[])):p:=e y
def xp{a b c d f p q:Prop}(C:a)(D:b)(E:c)(F:d)(G:f)(h:q)(e:a->b->c->d->f->q->p:=by intro C D E F G h;simp(disch:=first|omega|assumption) only[C,D,E,F,G,go_sem];exact h):p:=e C D E F G h
def xq{p q:Prop}(h:q)(e:q->p:=by intro h;simp(disch:=first|omega|assumption) only[wrap64,go_sem];exact h):p:=e h
def xr{a p:Prop}(C:a)(e:a->p:=by intro C;simp[C]):p:=e C
def xt{a A B p:Prop}(C:a)(y:A)(h:B)(e:a->A->B->p:=by intro C y h;simp(disch:=first|omega|assumption) only[C,go_sem];exact za y h):p:=e C y h
def xu{a b c d f g p q:Prop}(C:a)(D:b)(E:c)(F:d)(G:f)(I:g)(h:q)(e:a->b->c->d->f->g->q->p:=by intro C D E F G I h;simp(disch:=first|omega|assumption) only[C,D,E,F,G,I,go_sem];exact h):p:=e C D E F G I h
def xv{a p:Prop}(C:a)(e:a->p:=by intro C;rw[C];simp):p:=e C
def xw{p:Prop}(e:p:=by simp):p:=e
def xx{a b c p q:Prop}(C:a)(D:b)(E:c)(h:q)(e:a->b->c->q->p:=by intro C D E h;simp(disch:=first|omega|assumption) only[C,D,E,zr,zm,zi,zq,zl,zh,zy,go_sem];exact h):p:=e C D E h
def xy{a p:Prop}(C:a)(e:a->p:=by intro C;simpa using C):p:=e C
def xz{a b w p:Prop}(y:w)(C:a)(D:b)(e:w->a->b->p:=by intro y C D;exact y rfl (by simp[C,D])):p:=e y C D
def xA{p q:Prop}(h:q)(e:q->p:=by intro h;simp(disch:=first|omega|assumption) only[zr,zm,zi,zq,zl,zh,zy,go_sem];exact h):p:=e h
def xB{a p q:Prop}(C:a)(h:q)(e:a->q->p:=by intro C h;simp(disch:=first|omega|assumption) only[C,wrap64,go_sem];exact h):p:=e C h
def xC{a b c d p q:Prop}(C:a)(D:b)(E:c)(F:d)(h:q)(e:a->b->c->d->q->p:=by intro C D E F h;simp(disch:=first|omega|assumption) only[C,D,E,F,zr,zm,zi,zq,zl,zh,zy,go_sem];exact h):p:=e C D E F h
def xD{p q:Prop}(h:q)(e:q->p:=by intro h;simp(disch:=first|omega|assumption) only[Option.getD,Option.isSome,zS,go_sem];exact h):p:=e h
def xE{a b c d A B p:Prop}(C:a)(D:b)(E:c)(F:d)(y:A)(h:B)(e:a->b->c->d->A->B->p:=by intro C D E F y h;simp(disch:=first|omega|assumption) only[C,D,E,F,go_sem];exact za y h):p:=e C D E F y h
def xF{p:Prop}(e:p:=by simp(disch:=first|omega|assumption) only[ir344,zx,yB,steps,st2,Yy,rev,X8,Z9,Yi,YO,YP,bound,Zc,WJ,mk,yf,AV.cells,AV.boxable,AV.one,AV.strip1,AV.strip2,Zb,y7,go_sem_proc,AV.i,AV.e,AV.n,IC.op,LJ,W.m,W.M,W.z,W.f,W.F,W.v,W.V,W.l,W.L,W.b,W.B,W.N,W.G,W.x,W.E,W.d,W.D,W.q,W.Q,W.S,W.T,W.p,W.w,W.i,W.a,W.o,W.s,W.c,W.C,W.k,W.O,W.j,W.h,W.jj,W.hh,W.jjc,W.hhc,W.oc,W.t,W.J,W.e,W.n,W.y,W.I,W.K,W.R,W.r,W.r0,W.rz,W.ru,W.g,W.Y,W.A,W.Z,W.u,W.W,W.H,W.P,W.U,W.X,List.map_cons,List.map_nil,Nat.reduceSub]):p:=e
def xG{a b c d f g i p q:Prop}(C:a)(D:b)(E:c)(F:d)(G:f)(I:g)(J:i)(h:q)(e:a->b->c->d->f->g->i->q->p:=by intro C D E F G I J h;simp(disch:=first|omega|assumption) only[C,D,E,F,G,I,J,go_sem];exact h):p:=e C D E F G I J h
def xH{a b c d f g A B p:Prop}(C:a)(D:b)(E:c)(F:d)(G:f)(I:g)(y:A)(h:B)(e:a->b->c->d->f->g->A->B->p:=by intro C D E F G I y h;simp(disch:=first|omega|assumption) only[C,D,E,F,G,I,go_sem];exact za y h):p:=e C D E F G I y h
def xI{a p q:Prop}(C:a)(h:q)(e:a->q->p:=by intro C h;simp(disch:=first|omega|assumption) only[C,zr,zm,zi,zq,zl,zh,zy,go_sem];exact h):p:=e C h
def xJ{p:Prop}(e:p:=by simp(disch:=first|omega|assumption) only[cT,List.map,go_sem]):p:=e
def xK{a p q:Prop}(C:a)(h:q)(e:a->q->p:=by intro C h;simp only[C,zd.upd,if_false];exact h):p:=e C h
def xL{a b c p q:Prop}(C:a)(D:b)(E:c)(h:q)(e:a->b->c->q->p:=by intro C D E h;simp(disch:=first|omega|assumption) only[C,D,E,zC,go_sem];exact h):p:=e C D E h
def xM{a p:Prop}(C:a)(e:a->p:=by intro C;rw[<-C];rfl):p:=e C
def xN{a b p q:Prop}(C:a)(D:b)(h:q)(e:a->b->q->p:=by intro C D h;simp(disch:=first|omega|assumption) only[C,D,push_cast,go_sem_proc];exact h):p:=e C D h
def xO{a b p:Prop}(C:a)(D:b)(e:a->b->p:=by intro C D;simp(disch:=first|omega|assumption) only[C,D,ir301,zx,yB,steps,st2,Yy,rev,X8,Z9,Yi,YO,YP,bound,Zc,WJ,mk,yf,AV.cells,AV.boxable,AV.one,AV.strip1,AV.strip2,Zb,y7,go_sem_proc,AV.i,AV.e,AV.n,IC.op,LJ,W.m,W.M,W.z,W.f,W.F,W.v,W.V,W.l,W.L,W.b,W.B,W.N,W.G,W.x,W.E,W.d,W.D,W.q,W.Q,W.S,W.T,W.p,W.w,W.i,W.a,W.o,W.s,W.c,W.C,W.k,W.O,W.j,W.h,W.jj,W.hh,W.jjc,W.hhc,W.oc,W.t,W.J,W.e,W.n,W.y,W.I,W.K,W.R,W.r,W.r0,W.rz,W.ru,W.g,W.Y,W.A,W.Z,W.u,W.W,W.H,W.P,W.U,W.X,List.map_cons,List.map_nil,Nat.reduceSub]):p:=e C D
def xP{a b c p q:Prop}(C:a)(D:b)(E:c)(h:q)(e:a->b->c->q->p:=by intro C D E h;simp(disch:=first|omega|assumption) only[C,D,E,wrap64,go_sem];exact h):p:=e C D E h
def xQ{a b c p q:Prop}(C:a)(D:b)(E:c)(h:q)(e:a->b->c->q->p:=by intro C D E h;simp(disch:=first|omega|assumption) only[C,D,E,ir340,steps,st2,Yy,rev,X8,Z9,Yi,YO,YP,bound,Zc,WJ,mk,yf,AV.cells,AV.boxable,AV.one,AV.strip1,AV.strip2,Zb,y7,go_sem_proc,AV.i,AV.e,AV.n,IC.op,LJ,W.m,W.M,W.z,W.f,W.F,W.v,W.V,W.l,W.L,W.b,W.B,W.N,W.G,W.x,W.E,W.d,W.D,W.q,W.Q,W.S,W.T,W.p,W.w,W.i,W.a,W.o,W.s,W.c,W.C,W.k,W.O,W.j,W.h,W.jj,W.hh,W.jjc,W.hhc,W.oc,W.t,W.J,W.e,W.n,W.y,W.I,W.K,W.R,W.r,W.r0,W.rz,W.ru,W.g,W.Y,W.A,W.Z,W.u,W.W,W.H,W.P,W.U,W.X,List.map_cons,List.map_nil,Nat.reduceSub];exact h):p:=e C D E h
def xR{a p q:Prop}(C:a)(h:q)(e:a->q->p:=by intro C h;simp only[C,yg,yy,maxLen];exact h):p:=e C h
def xS{A B p:Prop}(y:A)(h:B)(e:A->B->p:=by intro y h;simp(disch:=first|omega|assumption) only[zr,zm,zi,zq,zl,zh,zy,go_sem];exact za y h):p:=e y h
def xT{a b p:Prop}(C:a)(D:b)(e:a->b->p:=by intro C D;simp[C,D]):p:=e C D
def xU{a b c d f A B p:Prop}(C:a)(D:b)(E:c)(F:d)(G:f)(y:A)(h:B)(e:a->b->c->d->f->A->B->p:=by intro C D E F G y h;simp(disch:=first|omega|assumption) only[C,D,E,F,G,go_sem];exact za y h):p:=e C D E F G y h
def xV{p q:Prop}(h:q)(e:q->p:=by intro h;simp(disch:=first|omega|assumption) only[Xd,go_sem];exact h):p:=e h
def xW{a b c d p q:Prop}(C:a)(D:b)(E:c)(F:d)(h:q)(e:a->b->c->d->q->p:=by intro C D E F h;simp(disch:=first|omega|assumption) only[C,D,E,F,zC,go_sem];exact h):p:=e C D E F h
def xX{p q:Prop}(h:q)(e:q->p:=by intro h;simp(disch:=first|omega|assumption) only[push_cast,go_sem_proc];exact h):p:=e h
def xY{a p q:Prop}(C:a)(h:q)(e:a->q->p:=by intro C h;simp(disch:=first|omega|assumption) only[C,steps,st2,Yy,rev,X8,Z9,Yi,YO,YP,bound,Zc,WJ,mk,yf,AV.cells,AV.boxable,AV.one,AV.strip1,AV.strip2,Zb,y7,go_sem_proc];exact h):p:=e C h
def xZ{p q:Prop}(h:q)(e:q->p:=by intro h;simp(disch:=first|omega|assumption) only[steps,st2,Yy,rev,X8,Z9,Yi,YO,YP,bound,Zc,WJ,mk,yf,AV.cells,AV.boxable,AV.one,AV.strip1,AV.strip2,Zb,y7,go_sem_proc];exact h):p:=e h
def x0{p q:Prop}(h:q)(e:q->p:=by intro h;simp(disch:=first|omega|assumption) only[zS,go_sem];exact h):p:=e h
def x1{a b p:Prop}(C:a)(D:b)(e:a->b->p:=by intro C D;rw[C];simp[D]):p:=e C D
def x2{p q:Prop}(h:q)(e:q->p:=by intro h;simp(disch:=first|omega|assumption) only[Option.getD,Option.isSome,zW,zV,zX,go_sem];exact h):p:=e h
def x3{p q:Prop}(h:q)(e:q->p:=by intro h;simp(disch:=first|omega|assumption) only[wrap64,Wa,go_sem];exact h):p:=e h
def x4{a b c d f g i j p q:Prop}(C:a)(D:b)(E:c)(F:d)(G:f)(I:g)(J:i)(K:j)(h:q)(e:a->b->c->d->f->g->i->j->q->p:=by intro C D E F G I J K h;simp(disch:=first|omega|assumption) only[C,D,E,F,G,I,J,K,go_sem];exact h):p:=e C D E F G I J K h
def x5{p:Prop}(e:p:=by simp(disch:=first|omega|assumption) only[steps,st2,Yy,rev,X8,Z9,Yi,YO,YP,bound,Zc,WJ,mk,yf,AV.cells,AV.boxable,AV.one,AV.strip1,AV.strip2,Zb,y7,go_sem_proc]):p:=e
def x6{p q:Prop}(h:q)(e:q->p:=by intro h;simp(disch:=first|omega|assumption) only[Option.getD,Option.isSome,zX,go_sem];exact h):p:=e h
def x7{p q:Prop}(h:q)(e:q->p:=by intro h;simp(disch:=first|omega|assumption) only[zC,go_sem];exact h):p:=e h
def x8{p q:Prop}(h:q)(e:q->p:=by intro h;simp(disch:=first|omega|assumption) only[zk,go_sem];exact h):p:=e h
def x9{a b p:Prop}(C:a)(D:b)(e:a->b->p:=by intro C D;simp[C,<-D]):p:=e C D
def wa{a p:Prop}(C:a)(e:a->p:=by intro C;rw[C];rfl):p:=e C
def wb{A B p:Prop}(y:A)(h:B)(e:A->B->p:=by intro y h;simp(disch:=first|omega|assumption) only[zk,go_sem];exact za y h):p:=e y h
def wc{a b p q:Prop}(C:a)(D:b)(h:q)(e:a->b->q->p:=by intro C D h;simp(disch:=first|omega|assumption) only[C,D,zr,zm,zi,zq,zl,zh,zy,go_sem];exact h):p:=e C D h
def wd{a b c p q:Prop}(C:a)(D:b)(E:c)(h:q)(e:a->b->c->q->p:=by intro C D E h;simp(disch:=first|omega|assumption) only[C,D,E,push_cast,go_sem_proc];exact h):p:=e C D E h
def we{p q:Prop}(h:q)(e:q->p:=by intro h;simp(disch:=first|omega|assumption) only[Option.getD,Option.isSome,zE,zS,go_sem];exact h):p:=e h
def wg{a b p q:Prop}(C:a)(D:b)(h:q)(e:a->b->q->p:=by intro C D h;simp(disch:=first|omega|assumption) only[C,D,steps,st2,Yy,rev,X8,Z9,Yi,YO,YP,bound,Zc,WJ,mk,yf,AV.cells,AV.boxable,AV.one,AV.strip1,AV.strip2,Zb,y7,go_sem_proc];exact h):p:=e C D h
def wh{p q:Prop}(h:q)(e:q->p:=by intro h;simp(disch:=first|omega|assumption) only[wrap64,Wd,go_sem];exact h):p:=e h
def wi{a b p:Prop}(C:a)(D:b)(e:a->b->p:=by intro C D;simp(disch:=first|omega|assumption) only[C,D,go_sem]):p:=e C D
def wj{a p q:Prop}(C:a)(h:q)(e:a->q->p:=by intro C h;simp(disch:=first|omega|assumption) only[C,zC,go_sem];exact h):p:=e C h
def wl{a b p:Prop}(C:a)(D:b)(e:a->b->p:=by intro C D;simp only[zd.upd,C,if_false];exact D):p:=e C D
def wm{p q:Prop}(h:q)(e:q->p:=by intro h;simp only[ZX,yg,yy];exact h):p:=e h
def wn{a p q:Prop}(C:a)(h:q)(e:a->q->p:=by intro C h;simp(disch:=first|omega|assumption) only[C,zS,go_sem];exact h):p:=e C h
def wo{p:Prop}(e:p:=by simp(disch:=first|omega|assumption) only[Ul,List.map,go_sem]):p:=e
def wq{a b p:Prop}(C:a)(D:b)(e:a->b->p:=by intro C D;simp[yL,ZA,zK,yK,C,D]):p:=e C D
def wr{p q:Prop}(h:q)(e:q->p:=by intro h;simp(disch:=first|omega|assumption) only[wrap64,steps,st2,Yy,rev,X8,Z9,Yi,YO,YP,bound,Zc,WJ,mk,yf,AV.cells,AV.boxable,AV.one,AV.strip1,AV.strip2,Zb,y7,go_sem_proc];exact h):p:=e h
def ws{A B p:Prop}(y:A)(h:B)(e:A->B->p:=by intro y h;simp(disch:=first|omega|assumption) only[zC,go_sem];exact za y h):p:=e y h
def wt{a b c p q:Prop}(C:a)(D:b)(E:c)(h:q)(e:a->b->c->q->p:=by intro C D E h;simp(disch:=first|omega|assumption) only[C,D,E,steps,st2,Yy,rev,X8,Z9,Yi,YO,YP,bound,Zc,WJ,mk,yf,AV.cells,AV.boxable,AV.one,AV.strip1,AV.strip2,Zb,y7,go_sem_proc];exact h):p:=e C D E h
def wu{p:Prop}(e:p:=by simp only[OX];omega):p:=e
def wv{a p q:Prop}(C:a)(h:q)(e:a->q->p:=by intro C h;simp(disch:=first|omega|assumption) only[C,push_cast,go_sem_proc];exact h):p:=e C h
def ww{a b c d p q:Prop}(C:a)(D:b)(E:c)(F:d)(h:q)(e:a->b->c->d->q->p:=by intro C D E F h;simp(disch:=first|omega|assumption) only[C,D,E,F,wrap64,go_sem];exact h):p:=e C D E F h
def wx{a b c p:Prop}(C:a)(D:b)(E:c)(e:a->b->c->p:=by intro C D E;simp(disch:=first|omega|assumption) only[C,D,E,go_sem]):p:=e C D E
def wy{p:Prop}(e:p:=by simp(disch:=first|omega|assumption) only[Int.natCast_add,Int.natCast_one,go_sem]):p:=e
def wz{a b p:Prop}(C:a)(D:b)(e:a->b->p:=by intro C D;rw[C];exact D):p:=e C D
def wA{p:Prop}(e:p:=by simp only[zt];omega):p:=e
def wB{a b p q:Prop}(C:a)(D:b)(h:q)(e:a->b->q->p:=by intro C D h;simp(disch:=first|omega|assumption) only[C,D,zS,go_sem];exact h):p:=e C D h
def wC{p:Prop}(e:p:=by simp only[ze,yy];omega):p:=e
def wD{a p:Prop}(C:a)(e:a->p:=by intro C;simp[<-C]):p:=e C
def wE{p q:Prop}(h:q)(e:q->p:=by intro h;simp only[zn,yg,yy,maxLen];exact h):p:=e h
def wF{p q:Prop}(h:q)(e:q->p:=by intro h;simp only[yQ,List.mem_append,List.mem_map];exact h):p:=e h
def wG{a b c d p q:Prop}(C:a)(D:b)(E:c)(F:d)(h:q)(e:a->b->c->d->q->p:=by intro C D E F h;simp(disch:=first|omega|assumption) only[C,D,E,F,zr,zm,zi,zq,zl,zh,zy,wrap64,go_sem];exact h):p:=e C D E F h
def wH{p q:Prop}(h:q)(e:q->p:=by intro h;simp(disch:=first|omega|assumption) only[zX,go_sem];exact h):p:=e h
def wI{a b A B p:Prop}(C:a)(D:b)(y:A)(h:B)(e:a->b->A->B->p:=by intro C D y h;simp(disch:=first|omega|assumption) only[C,D,zr,zm,zi,zq,zl,zh,zy,go_sem];exact za y h):p:=e C D y h
def wJ{a b c p:Prop}(C:a)(D:b)(E:c)(e:a->b->c->p:=by intro C D E;simp[yL,ZA,zK,yK,C,D,E]):p:=e C D E
def wK{a b p:Prop}(C:a)(D:b)(e:a->b->p:=by intro C D;rw[C,<-D];rfl):p:=e C D
def wL{a A B p:Prop}(C:a)(y:A)(h:B)(e:a->A->B->p:=by intro C y h;simp(disch:=first|omega|assumption) only[C,zr,zm,zi,zq,zl,zh,zy,go_sem];exact za y h):p:=e C y h
def wM{p q:Prop}(h:q)(e:q->p:=by intro h;simp(disch:=first|omega|assumption) only[cK,go_sem];exact h):p:=e h
def wN{a p:Prop}(C:a)(e:a->p:=by intro C;simp only[C,yg,yy,maxLen];omega):p:=e C
def wO{a p q:Prop}(C:a)(h:q)(e:a->q->p:=by intro C h;simp(disch:=first|omega|assumption) only[C,Xd,go_sem];exact h):p:=e C h
def wP{p:Prop}(e:p:=by simp only;omega):p:=e
def wQ{a p:Prop}(C:a)(e:a->p:=by intro C;rw[List.flatMap_append,<-C];simp):p:=e C
def wR{p:Prop}(e:p:=by simp(disch:=first|omega|assumption) only[ir334,zx,yB,push_cast,go_sem_proc]):p:=e
def wS{p:Prop}(e:p:=by simp(disch:=first|omega|assumption) only[zX,go_sem]):p:=e
def wT{a p:Prop}(C:a)(e:a->p:=by intro C;simp only[C,yg,yy];omega):p:=e C
def wU{a p:Prop}(C:a)(e:a->p:=by intro C;simp(disch:=first|omega|assumption) only[C,wrap64,go_sem]):p:=e C
def wV{p:Prop}(e:p:=by simp(disch:=first|omega|assumption) only[push_cast,go_sem_proc]):p:=e
def wW{A B p:Prop}(y:A)(h:B)(e:A->B->p:=by intro y h;simp(disch:=first|omega|assumption) only[zX,go_sem];exact za y h):p:=e y h
def wX{p:Prop}(e:p:=by simp[ze]):p:=e
def wY{a b p:Prop}(C:a)(D:b)(e:a->b->p:=by intro C D;rw[C,<-D];simp):p:=e C D
def wZ{a p:Prop}(C:a)(e:a->p:=by intro C;rw[zn];exact C):p:=e C
def w1{p q:Prop}(h:q)(e:q->p:=by intro h;simp(disch:=first|omega|assumption) only[Option.getD,Option.isSome,Vt,Ys,go_sem];exact h):p:=e h
def w2{p:Prop}(e:p:=by simp only[lenD];omega):p:=e
def w3{p q:Prop}(h:q)(e:q->p:=by intro h;simp(disch:=first|omega|assumption) only[Option.getD,Option.isSome,zTy,go_sem];exact h):p:=e h
def w4{p:Prop}(e:p:=by simp only[ze,List.length_map];omega):p:=e
def w5{p q:Prop}(h:q)(e:q->p:=by intro h;simp(disch:=first|omega|assumption) only[Option.getD,Option.isSome,Ys,go_sem];exact h):p:=e h
def w6{a b p:Prop}(C:a)(D:b)(e:a->b->p:=by intro C D;simp(disch:=first|omega|assumption) only[C,D,ir276,zx,yB,push_cast,go_sem_proc]):p:=e C D
def w7{a b p:Prop}(C:a)(D:b)(e:a->b->p:=by intro C D;rw[C,D];simp only[maxLen];omega):p:=e C D
def w8{a p:Prop}(C:a)(e:a->p:=by intro C;simp[yL,ZA,zK,yK,C]):p:=e C
def w9{a p:Prop}(C:a)(e:a->p:=by intro C;simp(disch:=first|omega|assumption) only[C,go_sem]):p:=e C
def va{a b p:Prop}(C:a)(D:b)(e:a->b->p:=by intro C D;rw[C,Bool.eq_false_iff];simp only[D,yu,Zh];omega):p:=e C D
def vc{p:Prop}(e:p:=by simp[cT]):p:=e
def vd{p:Prop}(e:p:=by simp(disch:=first|omega|assumption) only[zr,zm,zi,zq,zl,zh,zy,go_sem]):p:=e
def ve{a p:Prop}(C:a)(e:a->p:=by intro C;simp only[C,yy,maxLen];omega):p:=e C
def vf{p:Prop}(e:p:=by simp(disch:=first|omega|assumption) only[WI,List.map,go_sem]):p:=e
def vg{p:Prop}(e:p:=by simp only[bS];omega):p:=e
def vh{p:Prop}(e:p:=by simp[We]):p:=e
def vi{p:Prop}(e:p:=by simp[Vp]):p:=e
def vj{p:Prop}(e:p:=by simp only[bM];omega):p:=e
def vk{p:Prop}(e:p:=by simp only[bE];omega):p:=e
def vl{p:Prop}(e:p:=by simp;omega):p:=e
def vm{w p:Prop}(y:w)(e:w->p:=by intro y;simp(disch:=first|omega|assumption) only[go_sem];exact y rfl (by simp[])):p:=e y
def vn{a w p:Prop}(y:w)(C:a)(e:w->a->p:=by intro y C;simp(disch:=first|omega|assumption) only[go_sem];exact y rfl (by simp[C])):p:=e y C
def vo{a b w p:Prop}(C:a)(y:w)(D:b)(e:a->w->b->p:=by intro C y D;simp(disch:=first|omega|assumption) only[C,go_sem];exact y rfl (by simp[D])):p:=e C y D
def vp{a b c d w p:Prop}(C:a)(D:b)(y:w)(E:c)(F:d)(e:a->b->w->c->d->p:=by intro C D y E F;simp(disch:=first|omega|assumption) only[C,D,go_sem];exact y rfl (by simp[E,F])):p:=e C D y E F
end Go.Ab
namespace Go.Ab
abbrev B8:=List UInt8
abbrev B9:=List B8
abbrev AV.o(k:Nat)(l:List (List AV)):AV:=.sl .no k l
attribute [go_sem] AV.o
end Go.Ab
namespace Go.Proofs.YtcbfcliickppiaaGreatDoor
open Go.Ab
mutual
inductive Val where
 | mk (k n:Int) (s:B8) (l:List Val) (m:List yU)
inductive yU where
 | mk (name:B8) (v:Val)
end
mutual
def cV:Val->List AV| .mk k n s l m=>[.i k,.i n,.str s,.o 5 (PE l),.o 6 (Ya m)]
def PE:List Val->List (List AV)
 | []=>[]
 | v::r=>cV v::PE r
def cM:yU->List AV| .mk s v=>.str s::cV v
def Ya:List yU->List (List AV)
 | []=>[]
 | x::r=>cM x::Ya r
end
def PH:∀l,PE l=l.map cV
 | []=>rfl
 | v::r=>by rw[PE,PH r];rfl
def Tj:∀l,Ya l=l.map cM
 | []=>rfl
 | v::r=>by rw[Ya,Tj r];rfl
def YI(l:List Val):(PE l).length=l.length:=by rw[PH];simp
def yI(l:List yU):(Ya l).length=l.length:=by rw[Tj];simp
def Xa{l a:List Val}{x:Val}{b:List Val}(h:l=a++x::b):(PE l).getD a.length []=cV x:=by rw[PH,Z2 h]
def yZ{l a:List yU}{x:yU}{b:List yU}(h:l=a++x::b):(Ya l).getD a.length []=cM x:=by rw[Tj,Z2 h]
def zC(k n:Int)(s:B8)(l:List Val)(m:List yU):cV (.mk k n s l m)=[.i k,.i n,.str s,.o 5 (PE l),.o 6 (Ya m)]:=rfl
def zy(s:B8)(v:Val):cM (.mk s v)=.str s::cV v:=rfl
def TP(v:Val):(cV v).map AV.strip1=cV v:=by cases v;rfl
mutual
def Val.ind{P:Val->Prop}(h:∀k n s l m,(∀f∈l,P f)->(∀s f,yU.mk s f∈m->P f)->P (.mk k n s l m)):∀f,P f| .mk k n s l m=>h k n s l m (Val.indL h l) (λs f g=>Val.indM h m s f g)
def Val.indL{P:Val->Prop}(h:∀k n s l m,(∀f∈l,P f)->(∀s f,yU.mk s f∈m->P f)->P (.mk k n s l m)):∀l:List Val,∀f∈l,P f
 | [],_,hv=>by cases hv
 | x::r,f,hv=>(List.mem_cons.1 hv).elim (λe=>e▸Val.ind h x) (Val.indL h r f)
def Val.ind1{P:Val->Prop}(h:∀k n s l m,(∀f∈l,P f)->(∀s f,yU.mk s f∈m->P f)->P (.mk k n s l m)):∀m:yU,∀s f,m=.mk s f->P f| .mk s f,s',v',e=>by cases e;exact Val.ind h f
def Val.indM{P:Val->Prop}(h:∀k n s l m,(∀f∈l,P f)->(∀s f,yU.mk s f∈m->P f)->P (.mk k n s l m)):∀l:List yU,∀s f,yU.mk s f∈l->P f
 | [],_,_,hv=>by cases hv
 | x::r,s,f,hv=>(List.mem_cons.1 hv).elim (λe=>Val.ind1 h x s f e.symm) (Val.indM h r s f)
end
def zr(v:Val):(cV v).length=5:=by cases v;rfl
def zq(x:yU):(cM x).length=6:=by cases x with|mk s f=>cases f;rfl
def zm(v:Val):(cV v).take 5=cV v:=by cases v;rfl
def zl(x:yU):(cM x).take 6=cM x:=by cases x with|mk s f=>cases f;rfl
def zi(a b c d e:AV)(v:Val):splice [a,b,c,d,e] 0 (cV v)=cV v:=by cases v;rfl
def zh(a b c d e f:AV)(x:yU):splice [a,b,c,d,e,f] 0 (cM x)=cM x:=by cases x with|mk s g=>cases g;rfl
mutual
def bV:Val->Nat| .mk _ _ s l m=>1+s.length+Wg l+ZC m
def Wg:List Val->Nat
 | []=>0
 | v::r=>bV v+Wg r
def bM:yU->Nat| .mk s v=>s.length+bV v
def ZC:List yU->Nat
 | []=>0
 | x::r=>bM x+ZC r
end
def RE(v:Val):1<=bV v:=by cases v;simp only[bV];omega
def zpE(v:yU):1<=bM v:=by cases v with|mk s v=>have:=RE v;simp only[bM];omega
def Xi:∀l,l.length<=Wg l
 | []=>by simp
 | v::r=>by have:=Xi r;have:=RE v;simp only[Wg,yg];omega
def y5:∀l,l.length<=ZC l
 | []=>by simp
 | v::r=>by have:=y5 r;have:=zpE v;simp only[ZC,yg];omega
def UA(a:List Val)(x:Val)(b:List Val):Wg (a++x::b)=Wg a+bV x+Wg b:=by
 induction a with
 | nil=>simp[Wg]
 | cons g a f=>simp only[L7,Wg,f];omega
def Wb(a:List yU)(x:yU)(b:List yU):ZC (a++x::b)=ZC a+bM x+ZC b:=by
 induction a with
 | nil=>simp[ZC]
 | cons g a f=>simp only[L7,ZC,f];omega
abbrev ze:Nat:=1099511627776
def zbT:∀p,bV p<=ze->zf 33 [.agg (cV p)] (.i (bV p)):=by
 refine Val.ind λk n s l m M O K=>?_;refine zo ir33 λKP Q J=>?_;have G:=YI l;have I:=yI m;have U:=Xi l;have W:=y5 m;have L:1+s.length+Wg l+ZC m<=ze:=K;simp only[ze]at L;simp(disch:=omega) only[ir33,zC,wrap64,go_sem];refine zc l 4 (λn:Int=>[(3,.i n)]) (λv j n H=>n+Wg j=1+s.length+Wg l/\H=zd.emp) (1+s.length) xb ⟨by omega,rfl⟩ ?_ ?_
 ·rintro n H A ⟨h,rfl⟩ f;simp only[Wg]at h;refine xd G f ?_;refine zc m 5 (λn:Int=>[(3,.i n)]) (λv j n H=>n+ZC j=1+s.length+Wg l+ZC m/\H=zd.emp) n xb ⟨by omega,rfl⟩ ?_ ?_
  ·rintro n H A ⟨h,rfl⟩ f;simp only[ZC]at h;refine xd I f ?_;have:n=((bV (.mk k n s l m):Nat):Int):=by simp only[bV];omega
   exact J rfl (by simp[bV,this])
  ·rintro v x j n H A g f _ ⟨h,rfl⟩ C;have z:=yZ g;have y:=Wb v x j;rw[<-g]at y;cases x with
   | mk t p =>
   simp only[ZC,bM]at h y;simp(disch:=omega) only[zr,zm,zi,zq,zl,zh,zy,I,f,z,wrap64,go_sem];refine za (O t p (xv g) xi) ?_;simp(disch:=omega) only[G,I,f,z,zy,wrap64,go_sem];refine zJ (C (n+t.length+bV p) zd.emp ⟨by omega,rfl⟩) xb
 ·rintro v x j n H A g f _ ⟨h,rfl⟩ C;have z:=Xa g;have y:=UA v x j;rw[<-g]at y;simp only[Wg]at h;refine xx G f z ?_;refine za (M x (xv g) xi) ?_;refine xq ?_;refine zJ (C (n+bV x) zd.emp ⟨by omega,rfl⟩) xb
noncomputable def Th{α:Type}(a b:α):Bool:=@decide (a=b) (Classical.propDecidable _)
def yz{α:Type}{a b:α}(h:a=b):Th a b=true:=by simp[Th,h]
def zw{α:Type}{a b:α}(h:a≠b):Th a b=false:=by simp[Th,h]
def zhC{α:Type}(a b:α):Th a b=Th b a:=by
 by_cases f:a=b
 ·rw[yz f,yz f.symm]
 ·rw[zw f,zw (Ne.symm f)]
def cT(l:B9):List (List AV):=l.map λk=>[.str k]
def zn(l:B9):(cT l).length=l.length:=vc
def ziW(l:B9):(cT l).map (·.map AV.strip1)=cT l:=by simp[cT,AV.strip1]
def ZM{l a:B9}{x:B8}{b:B9}(h:l=a++x::b):(cT l).getD a.length []=[.str x]:=Z2 h
def Ux{α:Type}{a b f v:List α}{x:α}(h:a=f++x::v)(j:a.length=b.length)(p:b.take f.length=f):∃y r,b=f++y::r:=by
 have g:f.length<b.length:=by rw[<-j,h];simp
 refine⟨b[f.length],b.drop (f.length+1),?_⟩
 conv=>lhs;rw[<-List.take_append_drop f.length b,p,List.drop_eq_getElem_cons g]
def Ve{α:Type}{b f r:List α}{y:α}(h:b=f++y::r):b.take (f++[y]).length=f++[y]:=by
 subst h;have e:f++y::r=(f++[y])++r:=xw
 rw[e,List.take_left'];rfl
def UB{α:Type}{a b:List α}(g:a.length=b.length)(f:b.take a.length=a):a=b:=by rw[g,List.take_length]at f;exact f.symm
def Sl{α:Type}{a b f j r:List α}{x y:α}(h:a=f++x::j)(h':b=f++y::r)(g:x≠y):a≠b:=λe=>by rw[h,h']at e;exact g (List.cons.inj (List.append_cancel_left e)).1
mutual
def Yx:Val->Int| .mk k _ _ l m=>if k=6 then XY l 0+1 else if k=7 then XU m 0+1 else 0
def XY:List Val->Int->Int
 | [],n=>n
 | v::r,n=>XY r (WJ true n (Yx v))
def UU:yU->Int| .mk _ v=>Yx v
def XU:List yU->Int->Int
 | [],n=>n
 | x::r,n=>XU r (WJ true n (UU x))
end
def zi5(a b:Int):a<=WJ true a b:=by simp only[WJ,if_true];split<;>omega
mutual
def RN:∀f,0<=Yx f/\Yx f<=bV f
 | .mk k n s l m=>by
  have g:=Sf l 0;have h:=T9 m 0;simp only[Yx,bV];split
  ·omega
  ·split<;>omega
def Sf:∀l (n:Int),n<=XY l n/\(XY l n<=n∨XY l n<=Wg l)
 | [],n=>by simp[XY,Wg]
 | v::r,n=>by
  have f:=RN v;have g:=Sf r (WJ true n (Yx v));have h:=zi5 n (Yx v);have j:WJ true n (Yx v)=n∨WJ true n (Yx v)=Yx v:=by simp only[WJ,if_true];split<;>simp
  simp only[XY,Wg];omega
def zhl:∀x,0<=UU x/\UU x<=bM x| .mk s v=>by have:=RN v;simp only[UU,bM];omega
def T9:∀l (n:Int),n<=XU l n/\(XU l n<=n∨XU l n<=ZC l)
 | [],n=>by simp[XU,ZC]
 | v::r,n=>by
  have f:=zhl v;have g:=T9 r (WJ true n (UU v));have h:=zi5 n (UU v);have j:WJ true n (UU v)=n∨WJ true n (UU v)=UU v:=by simp only[WJ,if_true];split<;>simp
  simp only[XU,ZC];omega
end
def zav:∀v,bV v<=ze->zf 359 [.agg (cV v)] (.i (Yx v)):=by
 refine Val.ind λk n s l m U W G=>?_;refine zo ir359 λKP Q C=>?_;have J:=YI l;have K:=yI m;have Z:=Xi l;have aa:=y5 m;have O:1+s.length+Wg l+ZC m<=ze:=G;simp only[ze]at O;have X:=Sf l 0;have Y:=T9 m 0;by_cases L:k=6
 ·subst L;refine wj J ?_;refine zc l 15 (λn:Int=>[(3,.i n)]) (λp j n H=>XY j n=XY l 0) 0 xb rfl ?_ ?_
  ·rintro n H z f h;simp only[XY]at f;refine xP J h f ?_;exact C rfl (by simp[Yx])
  ·rintro p x j n H z g h _ f A;have I:=Xa g;have y:=UA p x j;rw[<-g]at y;simp only[XY]at f;refine xx J h I (zb λb G=>?_);refine xS (U x (xv g) xi) ?_;refine xq ?_;exact zJ (A _ _ f) xb
 by_cases M:k=7
 ·subst M;refine wj K ?_;refine zc m 29 (λn:Int=>[(3,.i n)]) (λp j n H=>XU j n=XU m 0) 0 xb rfl ?_ ?_
  ·rintro n H z f h;simp only[XU]at f;refine xP K h f ?_;exact C rfl (by simp[Yx])
  ·rintro p x j n H z g h _ f A;have I:=yZ g;have y:=Wb p x j;rw[<-g]at y;cases x with
   | mk t v =>
   simp only[XU,UU,bM]at f y;refine xx K h I (zb λb G=>?_);refine xS (W t v (xv g) xi) ?_;refine xq ?_;exact zJ (A _ _ f) xb
 ·simp(disch:=omega) only[ir359,zC,L,M,go_sem];exact C rfl (by simp[Yx,L,M])
def zjM:∀v,bV v<=ze->zf 260 [.agg (cV v)] (.i (Yx v)):=by
 refine Val.ind λk n s l m U W M=>?_;refine zo ir260 λKP Q C=>?_;have I:=YI l;have J:=yI m;have Z:=Xi l;have aa:=y5 m;have O:1+s.length+Wg l+ZC m<=ze:=M;simp only[ze]at O;have X:=Sf l 0;have Y:=T9 m 0;by_cases K:k=6
 ·subst K;refine wj I ?_;refine zc l 4 (λn:Int=>[(3,.i n)]) (λp j n H=>XY j n=XY l 0) 0 xb rfl ?_ ?_
  ·rintro n H z f h;simp only[XY]at f;refine xP I h f ?_;exact C rfl (by simp[Yx])
  ·rintro p x j n H z g h _ f A;have G:=Xa g;have y:=UA p x j;rw[<-g]at y;simp only[XY]at f;refine xx I h G ?_;refine za (U x (xv g) xi) ?_;refine xq ?_;exact zJ (A _ _ f) xb
 by_cases L:k=7
 ·subst L;refine wj J ?_;refine zc m 5 (λn:Int=>[(3,.i n)]) (λp j n H=>XU j n=XU m 0) 0 xb rfl ?_ ?_
  ·rintro n H z f h;simp only[XU]at f;refine xP J h f ?_;exact C rfl (by simp[Yx])
  ·rintro p x j n H z g h _ f A;have G:=yZ g;have y:=Wb p x j;rw[<-g]at y;cases x with
   | mk t v =>
   simp only[XU,UU,bM]at f y;refine xx J h G ?_;refine za (W t v (xv g) xi) ?_;refine xq ?_;exact zJ (A _ _ f) xb
 ·simp(disch:=omega) only[ir260,zC,K,L,go_sem];exact C rfl (by simp[Yx,K,L])
def zV:Val:=.mk 0 0 [] [] []
def zeS:cV zV=[.i 0,.i 0,.str [],.o 5 [],.o 6 []]:=rfl
def Y2(t:B8):List yU->Val×Bool
 | []=>(zV,false)
 | .mk s v::r=>if s=t then (v,true)else Y2 t r
def zmo(t:B8)(m:List yU)(z:m.length<=ze):zf 187 [.str t,.o 6 (Ya m)] (.tup [.agg (cV (Y2 t m).1),.bool (Y2 t m).2]):=by
 refine zo ir187 λKP Q y=>?_;have p:=yI m;simp only[ze]at z;refine xa (zb λb z=>?_);refine xc p ?_;refine zc m 10 ZY (λG A n H=>Y2 t A=Y2 t m/\H b=some (.cells [.i 0,.i 0,.str [],.sl .nil 5 [],.sl .nil 6 []])) () xb ⟨rfl,by simp[zd.upd]⟩ ?_ ?_
 ·rintro n H C ⟨f,g⟩ j;refine xe p j g ?_;refine @y _ _ [.agg [.i 0,.i 0,.str [],.sl .nil 5 [],.sl .nil 6 []],.bool false] xb ?_;rw[<-f];rfl
 ·rintro G x A n H C K j _ ⟨f,g⟩ I;have L:=yZ K;cases x with
  | mk s M =>
  simp only[Y2]at f;refine xx p j L (zb λO J=>?_);have v:=QX J g;by_cases h:s=t
  ·refine xC h g (Ne.symm v) v ?_;simp only[h,if_true]at f;refine @y _ _ [.agg (cV M),.bool true] vd ?_;rw[<-f];simp[Yz,AV.strip,AV.strip1,TP]
  ·refine xI h ?_;simp only[h,if_false]at f;exact zJ (I () _ ⟨f,by simp[zd.upd,Ne.symm v,g]⟩) xf
def zqh(t:B8)(m:List yU)(y:m.length<=ze):zf 329 [.str t,.o 6 (Ya m)] (.tup [.agg (cV (Y2 t m).1),.bool (Y2 t m).2]):=by
 refine zo ir329 λKP Q v=>?_;have j:=yI m;simp only[ze]at y;refine xa (zb λb y=>?_);refine xc j ?_;refine zc m 6 ZY (λG A n H=>Y2 t A=Y2 t m/\H b=some (.cells [.i 0,.i 0,.str [],.sl .nil 5 [],.sl .nil 6 []])) () xb ⟨rfl,by simp[zd.upd]⟩ ?_ ?_
 ·rintro n H C ⟨f,g⟩ h;refine xe j h g ?_;refine @v _ _ [.agg [.i 0,.i 0,.str [],.sl .nil 5 [],.sl .nil 6 []],.bool false] xb ?_;rw[<-f];rfl
 ·rintro G x A n H C J h _ ⟨f,g⟩ I;have z:=yZ J;cases x with
  | mk s K =>
  simp only[Y2]at f;by_cases p:s=t
  ·simp(disch:=omega) only[zr,zm,zi,zq,zl,zh,zy,j,h,z,p,g,go_sem];simp only[p,if_true]at f;refine @v _ _ [.agg (cV K),.bool true] vd ?_;rw[<-f];simp[Yz,AV.strip,AV.strip1,TP]
  ·refine xC j h z p ?_;simp only[p,if_false]at f;exact zJ (I () _ ⟨f,g⟩) xf
structure Tok where
 k:Int
 s:B8
def cK(t:Tok):List AV:=[.i t.k,.str t.s]
def UL(l:List Tok):List (List AV):=l.map cK
def zdB(a b:List Tok):UL (a++b)=UL a++UL b:=by simp[UL]
def YJ(l:List Tok):(UL l).length=l.length:=by simp[UL]
def TY(l:List Tok):(UL l).map (·.map AV.strip1)=UL l:=by simp[UL,cK,AV.strip1]
def zle(f:FuncId)(hf:Program.callable Tryz.prog f=true)(a b:List Val)(X:a.length<=ze)(Z:∀x∈a,∀h,zf f [.agg (cV x),.agg (cV h)] (.bool (Th x h))):
  zf 355 [.o 5 (PE a),.o 5 (PE b),.clo f [] []] (.bool (Th a b)):=by
 refine zo ir355 λKP Q C=>?_;have g:=YI a;have p:=YI b;simp only[ze]at X;by_cases I:a.length=b.length
 case neg =>
  have J:¬ ((a.length:Int)=b.length):=xg
  have z:a≠b:=λe=>I (by rw[e]);refine xe g p J ?_;exact xj C (zw z)
 have J:((a.length:Int)=b.length)=True:=eq_true xg;refine xe g p J ?_;refine zc a 17 ZY (λj aa n H=>b.take j.length=j) () xb rfl ?_ ?_
 ·rintro n H U K y;refine xd g y ?_;exact xj C (yz (UB I K))
 ·rintro j x aa n H U v y _ K W;obtain⟨h,r,G⟩:=Ux v I K;have L:=Xa v;have M:=Xa G;have O:(j.length:Int)<b.length:=xg
  simp(disch:=omega) only[zr,zm,zi,zq,zl,zh,zy,g,p,y,O,L,M,go_sem];refine zb λab ad=>?_;simp(disch:=omega) only[zr,zm,zi,zq,zl,zh,zy,g,p,y,O,L,M,go_sem];refine zb λac Y=>?_;have z:=ZB Y;refine wc (Ne.symm z) z ?_;refine⟨hf,za (Z x (xv v) h) ?_⟩;by_cases A:x=h
  ·refine xc (yz A) ?_;exact zJ (W () _ (by rw[A];exact Ve G)) xf
  ·refine xc (zw A) ?_;exact xj C (zw (Sl v G A))
def zlh(f:FuncId)(hf:Program.callable Tryz.prog f=true)(a b:List yU)(X:a.length<=ze)(Z:∀x∈a,∀h,zf f [.agg (cM x),.agg (cM h)] (.bool (Th x h))):
  zf 356 [.o 6 (Ya a),.o 6 (Ya b),.clo f [] []] (.bool (Th a b)):=by
 refine zo ir356 λKP Q C=>?_;have g:=yI a;have p:=yI b;simp only[ze]at X;by_cases I:a.length=b.length
 case neg =>
  have J:¬ ((a.length:Int)=b.length):=xg
  have z:a≠b:=λe=>I (by rw[e]);refine xe g p J ?_;exact xj C (zw z)
 have J:((a.length:Int)=b.length)=True:=eq_true xg;refine xe g p J ?_;refine zc a 17 ZY (λj aa n H=>b.take j.length=j) () xb rfl ?_ ?_
 ·rintro n H U K y;refine xd g y ?_;exact xj C (yz (UB I K))
 ·rintro j x aa n H U v y _ K W;obtain⟨h,r,G⟩:=Ux v I K;have L:=yZ v;have M:=yZ G;have O:(j.length:Int)<b.length:=xg
  simp(disch:=omega) only[zr,zm,zi,zq,zl,zh,zy,g,p,y,O,L,M,go_sem];refine zb λab ad=>?_;simp(disch:=omega) only[zr,zm,zi,zq,zl,zh,zy,g,p,y,O,L,M,go_sem];refine zb λac Y=>?_;have z:=ZB Y;refine wc (Ne.symm z) z ?_;refine⟨hf,za (Z x (xv v) h) ?_⟩;by_cases A:x=h
  ·refine xc (yz A) ?_;exact zJ (W () _ (by rw[A];exact Ve G)) xf
  ·refine xc (zw A) ?_;exact xj C (zw (Sl v G A))
def zhD(s t:B8)(v u:Val)(j:zf 320 [.agg (cV v),.agg (cV u)] (.bool (Th v u))):zf 357 [.agg (cM (.mk s v)),.agg (cM (.mk t u))] (.bool (Th (yU.mk s v) (yU.mk t u))):=by
 refine zo ir357 λKP Q h=>?_;by_cases g:s=t
 ·refine wL g j ?_;refine xa ?_;have:Th (yU.mk t v) (yU.mk t u)=Th v u:=by
   by_cases f:v=u
   ·rw[yz f,yz (by rw[f])]
   ·rw[zw f,zw (xr f)]
  exact xz h this g
 ·refine xI g ?_;have:Th (yU.mk s v) (yU.mk t u)=false:=zw (xr g);exact xj h this
def znH:∀A,bV A<=ze->∀u,zf 320 [.agg (cV A),.agg (cV u)] (.bool (Th A u)):=by
 refine Val.ind λk n s l m W X U u=>?_;obtain⟨v,y,z,j,g⟩:=u;have ab:1+s.length+Wg l+ZC m<=ze:=U;have ac:=Xi l;have ad:=y5 m;have Y:∀x∈l,∀f,zf 320 [.agg (cV x),.agg (cV f)] (.bool (Th x f)):=λx I f=>by obtain⟨a,b,M⟩:=List.append_of_mem I;have:=UA a x b;rw[<-M]at this;exact W x I xg f
 have Z:∀x∈m,∀f,zf 357 [.agg (cM x),.agg (cM f)] (.bool (Th x f)):=λx I f=>by obtain⟨a,b,M⟩:=List.append_of_mem I;have:=Wb a x b;rw[<-M]at this;obtain⟨t,A⟩:=x;obtain⟨aa,O⟩:=f;simp only[bM]at this;exact zhD t aa A O (X t A I xg O)
 refine zo ir320 λKP Q G=>?_;by_cases p:k=v
 case neg =>
  have h:¬ (Val.mk k n s l m=Val.mk v y z j g):=xr p
  refine wj p ?_;exact xj G (zw h)
 by_cases C:n=y
 case neg =>
  have h:¬ (Val.mk k n s l m=Val.mk v y z j g):=xr C
  simp(disch:=omega) only[ir320,zC,p,C,go_sem];exact xj G (zw h)
 by_cases K:s=z
 case neg =>
  have h:¬ (Val.mk k n s l m=Val.mk v y z j g):=xr K
  refine xL p C K ?_;exact xj G (zw h)
 refine xL p C K ?_;refine za (zle _ yw l j xg Y) ?_;by_cases L:l=j
 case neg =>
  have h:¬ (Val.mk k n s l m=Val.mk v y z j g):=xr L
  exact vo (zw L) G (zw h)
 refine xt (yz L) (zlh _ yw m g xg Z) ?_;refine xa ?_;have:Th (Val.mk k n s l m) (Val.mk v y z j g)=Th m g:=by
  by_cases J:m=g
  ·rw[yz J,yz (by rw[p,C,K,L,J])]
  ·rw[zw J,zw (xr J)]
 exact xj G this
def zcE(a b:List yU)(Y:a.length<=ze)(Z:∀s f,yU.mk s f∈a->∀u,zf 72 [.agg (cV f),.agg (cV u)] (.bool (Th f u))):
  zf 157 [.o 6 (Ya a),.o 6 (Ya b)] (.bool (Th a b)):=by
 refine zo ir157 λKP Q p=>?_;have g:=yI a;have j:=yI b;simp only[ze]at Y;by_cases I:a.length=b.length
 case neg =>
  have J:¬ ((a.length:Int)=b.length):=xg
  have z:a≠b:=λe=>I (by rw[e]);refine xe g j J ?_;exact xj p (zw z)
 have J:((a.length:Int)=b.length)=True:=eq_true xg;refine xe g j J ?_;refine zc a 5 ZY (λh ad n H=>b.take h.length=h) () xb rfl ?_ ?_
 ·rintro n H W K y;refine xd g y ?_;exact xj p (yz (UB I K))
 ·rintro h x ad n H W v y _ K X;obtain⟨U,r,G⟩:=Ux v I K;have L:=yZ v;have M:=yZ G;have O:(h.length:Int)<b.length:=xg
  have aa:x∈a:=xv v
  have ac:=Ve G;have z:x≠U->a≠b:=Sl v G;obtain⟨s,f⟩:=x;obtain⟨t,u⟩:=U;by_cases A:s=t
  case neg =>have ab:=z (xr A);simp(disch:=omega) only[zr,zm,zi,zq,zl,zh,zy,g,j,y,O,L,M,A,go_sem];exact xj p (zw ab)
  simp(disch:=omega) only[zr,zm,zi,zq,zl,zh,zy,g,j,y,O,L,M,A,go_sem];refine za (Z s f aa u) ?_;by_cases C:f=u
  ·refine xc (yz C) ?_;exact zJ (X () _ (by rw[A,C];exact ac)) xf
  ·have:=z (xr C);exact vo (zw C) p (zw this)
def zce:∀g,bV g<=ze->∀u,zf 72 [.agg (cV g),.agg (cV u)] (.bool (Th g u)):=by
 refine Val.ind λk n s l m aj ak K u=>?_;obtain⟨y,z,A,f,j⟩:=u;have ah:1+s.length+Wg l+ZC m<=ze:=K;have ao:=Xi l;have ap:=y5 m;have al:∀x∈l,∀C,zf 72 [.agg (cV x),.agg (cV C)] (.bool (Th x C)):=λx L C=>by obtain⟨a,b,p⟩:=List.append_of_mem L;have:=UA a x b;rw[<-p]at this;exact aj x L xg C
 have am:∀s g,yU.mk s g∈m->∀u,zf 72 [.agg (cV g),.agg (cV u)] (.bool (Th g u)):=λt g L u=>by obtain⟨a,b,p⟩:=List.append_of_mem L;have:=Wb a (.mk t g) b;rw[<-p]at this;simp only[bM]at this;exact ak t g L xg u
 refine zo ir72 λKP Q I=>?_;have U:=YI l;have Z:=YI f;by_cases v:k=y
 case neg =>
  have h:¬ (Val.mk k n s l m=Val.mk y z A f j):=xr v
  refine wj v ?_;exact xj I (zw h)
 by_cases G:n=z
 case neg =>
  have h:¬ (Val.mk k n s l m=Val.mk y z A f j):=xr G
  simp(disch:=omega) only[ir72,zC,v,G,go_sem];exact xj I (zw h)
 by_cases J:s=A
 case neg =>
  have h:¬ (Val.mk k n s l m=Val.mk y z A f j):=xr J
  refine xL v G J ?_;exact xj I (zw h)
 by_cases X:l.length=f.length
 case neg =>
  have Y:¬ ((l.length:Int)=f.length):=xg
  have h:¬ (Val.mk k n s l m=Val.mk y z A f j):=by simp only[Val.mk.injEq];rintro⟨_,_,_,e,_⟩;exact X (by rw[e])
  simp(disch:=omega) only[ir72,zC,v,G,J,U,Z,Y,go_sem];exact xj I (zw h)
 have Y:((l.length:Int)=f.length)=True:=eq_true xg;simp(disch:=omega) only[ir72,zC,v,G,J,U,Z,Y,go_sem];simp only[ze]at ah;refine zc l 5 ZY (λM an n H=>f.take M.length=M) () xb rfl ?_ ?_
 ·rintro _ H ac ab aa;have ad:=UB X ab;refine xn U aa (zcE m j xi am) ?_;refine xa ?_;have:Th (Val.mk k n s l m) (Val.mk y z A f j)=Th m j:=by
   by_cases O:m=j
   ·rw[yz O,yz (by rw[v,G,J,ad,O])]
   ·rw[zw O,zw (xr O)]
  exact xj I this
 ·rintro M x an _ H ac p aa _ ab ag;obtain⟨C,r,K⟩:=Ux p X ab;have ae:=Xa p;have af:=Xa K;have ai:(M.length:Int)<f.length:=xg
  simp(disch:=omega) only[zr,zm,zi,zq,zl,zh,zy,U,Z,aa,ai,ae,af,go_sem];refine za (al x (xv p) C) ?_;by_cases W:x=C
  ·refine xc (yz W) ?_;exact zJ (ag () _ (by rw[W];exact Ve K)) xf
  ·have h:¬ (Val.mk k n s l m=Val.mk y z A f j):=by simp only[Val.mk.injEq];rintro⟨_,_,_,e,_⟩;exact Sl p K W e
   exact vo (zw W) I (zw h)
def zj6(m:List yU)(K:ZC m<=ze)(J:∀s g,yU.mk s g∈m->zf 105 [.agg (cV g)] (.agg (cV g))):zf 42 [.o 6 (Ya m)] (.o 6 (Ya m)):=by
 refine zo ir42 λKP Q I=>?_;have p:=yI m;have U:=y5 m;simp only[ze]at K;refine xa ?_;refine zc m 4 (λx:Own×List yU=>[(3,.sl x.1 6 (Ya x.2))]) (λf M x H=>x.2=f/\VD zd.emp H x.1 f.length 6) (.nil,[]) (by simp(disch:=omega) only[Ya,go_sem]) ⟨rfl,VD.nil _ _⟩ ?_ ?_
 ·rintro⟨o,f⟩ H G ⟨rfl,ho⟩ j;refine xd p j ?_;exact xo I
 ·rintro f x M ⟨o,ds⟩ H G y j O ⟨z,ho⟩ v;simp only at z ho v ⊢;obtain rfl:f=ds:=z.symm;have A:=yZ y;have L:x∈m:=xv y
  have h:=yI f;obtain⟨s,g⟩:=x;refine xx p j A ?_;refine za (J s g L) ?_;refine xx p j A (zp (by rw[h];exact ho.own) ?_ ?_ λo' H' C=>?_)
  ·simp only[h,yg,yy];omega
  ·refine xR h ?_;omega
  rw[h]at C;refine xq ?_;refine zJ (v (o',f++[.mk s g]) H' ⟨rfl,(ho.stepS C).cast xw⟩) (by simp(disch:=omega) only[Tj,List.map_append,List.map_cons,zy,TP,AV.strip1,go_sem])
def copyV:∀f,bV f<=ze->zf 105 [.agg (cV f)] (.agg (cV f)):=by
 refine Val.ind λk n s l m Z aa I=>?_;have W:1+s.length+Wg l+ZC m<=ze:=I;have ae:=Xi l;have ag:=y5 m;have ab:∀x∈l,zf 105 [.agg (cV x)] (.agg (cV x)):=λx p=>by obtain⟨a,b,h⟩:=List.append_of_mem p;have:=UA a x b;rw[<-h]at this;exact Z x p xg
 have ac:∀s f,yU.mk s f∈m->zf 105 [.agg (cV f)] (.agg (cV f)):=λt f p=>by obtain⟨a,b,h⟩:=List.append_of_mem p;have:=Wb a (.mk t f) b;rw[<-h]at this;simp only[bM]at this;exact aa t f p xg
 refine zo ir105 λKP Q U=>?_;have C:=YI l;refine x7 (zb λb I=>?_);refine xa (zb λA X=>?_);have j:=ZB X;refine xa ?_;simp only[ze]at W;refine zc l 4 (λx:Own×List Val=>[(3,.sl x.1 5 (PE x.2))]) (λg ad x H=>x.2=g/\VD ((zd.emp.upd b (.cells [.i k,.i n,.str s,.o 5 (PE l),.o 6 (Ya m)])).upd A (.cells [.i 0,.i 0,.str [],.sl .nil 5 [],.sl .nil 6 []])) H x.1 g.length 5) (.nil,[]) (by simp(disch:=omega) only[PE,go_sem]) ⟨rfl,VD.nil _ _⟩ ?_ ?_
 ·rintro⟨o,g⟩ H M ⟨rfl,ho⟩ z;have v:H b=some (.cells [.i k,.i n,.str s,.o 5 (PE g),.o 6 (Ya m)]):=ho.sub b _ (by simp[zd.upd,Ne.symm j]);have O:H A=some (.cells [.i 0,.i 0,.str [],.sl .nil 5 [],.sl .nil 6 []]):=ho.sub A _ (by simp[zd.upd]);refine xm C z v (zj6 m xi ac) ?_;refine xk v O j (Ne.symm j) ?_;refine @U _ _ [.agg [.i k,.i n,.str s,.sl o 5 (PE g),.o 6 (Ya m)]] (wi j (Ne.symm j)) ?_;simp[Yz,AV.strip,AV.strip1,zC]
 ·rintro g x ad ⟨o,ds⟩ H M h z af ⟨J,ho⟩ G;simp only at J ho G ⊢;obtain rfl:g=ds:=J.symm;have K:=Xa h;have Y:x∈l:=xv h
  have y:=YI g;have v:H b=some (.cells [.i k,.i n,.str s,.o 5 (PE l),.o 6 (Ya m)]):=ho.sub b _ (by simp[zd.upd,Ne.symm j]);refine xC C z K v ?_;refine za (ab x Y) ?_;refine xx C z K (zp (by rw[y];exact ho.own) ?_ ?_ λo' H' L=>?_)
  ·simp only[y,yg,yy];omega
  ·refine xR y ?_;omega
  rw[y]at L;refine xq ?_;refine zJ (G (o',g++[x]) H' ⟨rfl,(ho.stepS L).cast xw⟩) (by simp(disch:=omega) only[PH,List.map_append,List.map_cons,TP,AV.strip1,go_sem])
abbrev zhk(H:zd)(o:Own)(sz:Nat)(xs:List (List AV)):AV->zd->Prop:=λv H'=>∃o',v=.sl o' sz xs/\zQ H o H' o' xs.length sz
abbrev YR(P:Program)(f:FuncId)(args:List AV)(H:zd)(o:Own)(sz:Nat)(xs:List (List AV)):Prop :=zY P f args H (λe H'=>match e with|.ret v=>zhk H o sz xs v H'|.pan _=>False)
def zu{P:Program}{KP:AV->zd->Prop}{Q:ZV->Env->zd->Prop}{g:List Fr}{ρ:Env}{H:zd}{all l:List yo}{d:Option Nat}{R:List VQ}{f:FuncId}{args:List AV}{o:Own}{sz:Nat}{xs:List (List AV)}(h:YR P f args H o sz xs)(j:∀o' H',zQ H o H' o' xs.length sz->Qe P KP Q all l g R (ρ.set d (.sl o' sz xs)) H'):goK P KP Q all l g d R ρ f args H :=
 ZT (XP:=λ_ _=>False) h (λv H' ⟨o',e,p⟩=>by subst e;exact j o' H' p) (λ_ _ h=>h.elim)
def zH(s:B8):B9->Bool
 | []=>false
 | x::r=>if x=s then true else zH s r
def Zm(s:B8):∀l,zH s l=true↔s∈l
 | []=>by simp[zH]
 | x::r=>by
  have:=Zm s r;simp only[zH,List.mem_cons];split
  ·rename_i f;simp[f]
  ·rename_i f;rw[this];constructor
   ·exact .inr
   ·rintro(e|e)
    ·exact absurd e.symm f
    ·exact e
def TG(l:B9)(s:B8)(I:l.length<=ze):zf 134 [.o 1 (cT l),.str s] (.bool (zH s l)):=by
 refine zo ir134 λKP Q p=>?_;have j:=zn l;simp only[ze]at I;refine xa ?_;refine zc l 5 ZY (λA y n H=>zH s y=zH s l) () xb rfl ?_ ?_
 ·rintro n H z f g;refine xd j g ?_;simp only[zH]at f;exact p rfl (wD f)
 ·rintro A x y n H z G g _ f C;have v:=ZM G;simp only[zH]at f;by_cases h:x=s
  ·simp only[h,if_true]at f;refine xk j g v h ?_;exact p rfl (wD f)
  ·simp only[h,if_false]at f;refine xk j g v h ?_;exact zJ (C () _ f) xf
def zaT(s:B8):B9->Int->Int
 | [],_=>-1
 | x::r,i=>if s=x then i else zaT s r (i+1)
def zbk(s:B8):∀l (i:Int),0<=i->decide (0<=zaT s l i)=zH s l
 | [],i,_=>by simp[zaT,zH]
 | x::r,i,hi=>by
  simp only[zaT,zH];by_cases f:s=x
  ·simp[f];omega
  ·simp only[f,Ne.symm f,if_false];exact zbk s r (i+1) xg
def zp2(l:B9)(s:B8)(I:l.length<=ze):zf 158 [.o 1 (cT l),.str s] (.i (zaT s l 0)):=by
 refine zo ir158 λKP Q v=>?_;have g:=zn l;simp only[ze]at I;refine xc g ?_;refine zc l 8 ZY (λp z n H=>zaT s z p.length=zaT s l 0) () xb rfl ?_ ?_
 ·rintro n H A f h;refine xd g h ?_;simp only[zaT]at f;exact v rfl (wD f)
 ·rintro p x z n H A G h _ f C;have y:=ZM G;simp only[zaT]at f;by_cases j:s=x
  ·subst j;simp only[if_true]at f;refine xe g h y ?_;exact v rfl (wD f)
  ·simp only[j,if_false]at f;refine xk g h y j ?_;exact zJ (C () _ (xy f)) xf
def Z4(l:B9)(s:B8)(g:l.length<=ze):zf 75 [.o 1 (cT l),.str s] (.bool (zH s l)):=by refine zo ir75 λKP Q f=>?_;refine xh (zp2 l s g) ?_;refine xa ?_;have:=zbk s l 0 xg;exact xj f this
mutual
def yN:Val->B9->B9| .mk k _ s l m,acc=>if k=8 then (if zH s acc then acc else acc++[s])else if k=6 then Xz l acc else if k=7 then XH m acc else acc
def Xz:List Val->B9->B9
 | [],acc=>acc
 | v::r,acc=>Xz r (yN v acc)
def Pu:yU->B9->B9| .mk _ v,acc=>yN v acc
def XH:List yU->B9->B9
 | [],acc=>acc
 | x::r,acc=>XH r (Pu x acc)
end
mutual
def VY:∀g f,(yN g f).length<=f.length+bV g
 | .mk k n s l m,f=>by
  have h:=L5 l f;have j:=LP m f;simp only[yN,bV];split
  ·split
   ·omega
   ·simp;omega
  ·split
   ·omega
   ·split<;>omega
def L5:∀l f,(Xz l f).length<=f.length+Wg l
 | [],f=>by simp[Xz]
 | v::r,f=>by have g:=VY v f;have h:=L5 r (yN v f);simp only[Xz,Wg];omega
def MX:∀x f,(Pu x f).length<=f.length+bM x| .mk s v,f=>by have:=VY v f;simp only[Pu,bM];omega
def LP:∀l f,(XH l f).length<=f.length+ZC l
 | [],f=>by simp[XH]
 | x::r,f=>by have g:=MX x f;have h:=LP r (Pu x f);simp only[XH,ZC];omega
end
def zqI:∀z,∀f H o,f.length+bV z<=ze->zM H o f.length 1->YR Tryz.prog 384 [.sl o 1 (cT f),.agg (cV z)] H o 1 (cT (yN z f)):=by
 refine Val.ind λk n s l m ae af f H o j ho=>?_;have ac:f.length+(1+s.length+Wg l+ZC m)<=ze:=j;have ah:=Xi l;have ai:=y5 m;have X:=YI l;have Y:=yI m;have A:=zn f;simp only[ze]at ac;refine Xt ir384 λKP Q C ag=>?_;by_cases M:k=8
 ·subst M;refine ws (Zk.low (Z4 f s xi)) ?_;cases y:zH s f with
  | true =>
   refine xc y ?_;refine C _ _ H H _ nofun rfl (yT.refl _) ⟨o,?_,?_⟩
   ·simp[Yz,Xf,yN,y]
   ·simpa[yN,y,A]using zQ.refl ho
  | false =>
   refine xc y (zp (wz A ho) ?_ ?_ λo' H' h=>?_)
   ·simp only[A,yg,yy];omega
   ·refine xR A ?_;omega
   refine xa ?_;refine C _ _ H' H' _ nofun rfl (yT.refl _) ⟨o',?_,?_⟩
   ·simp[Yz,Xf,yN,y,cT,AV.strip1]
   ·simpa[yN,y,A,zn]using h
 by_cases K:k=6
 ·subst K;refine wj X ?_;refine zc l 28 (λx:Own×B9=>[(0,.sl x.1 1 (cT x.2))]) (λW v x H'=>Xz v x.2=Xz l f/\x.2.length+Wg v<=f.length+Wg l/\zQ H o H' x.1 x.2.length 1) (o,f) xb ⟨rfl,by simp,zQ.refl ho⟩ ?_ ?_
  ·rintro⟨o1,a⟩ H' U ⟨g,_,h⟩ p;simp only[Xz]at g;subst g;refine xd X p ?_;refine C _ _ H' H' _ nofun rfl (yT.refl _) ⟨o1,?_,?_⟩
   ·simp[Yz,Xf,yN]
   ·simpa[yN,zn]using h
  ·rintro W x v ⟨o1,a⟩ H' U G p _ ⟨g,J,h⟩ Z;have aa:=Xa G;have ab:=VY x a;simp only[Xz,Wg]at g J;refine xx X p aa (zb λb j=>?_);refine xA (zu (ae x (xv G) a _ o1 xi (h.own.upd j)) λo2 O I=>?_);rw[zn]at I;refine xq ?_;exact zJ (Z (o2,yN x a) O ⟨g,by simp only;omega,(h.upd j).trans I⟩) xb
 by_cases L:k=7
 ·subst L;refine wj Y ?_;refine zc m 41 (λx:Own×B9=>[(0,.sl x.1 1 (cT x.2))]) (λW v x H'=>XH v x.2=XH m f/\x.2.length+ZC v<=f.length+ZC m/\zQ H o H' x.1 x.2.length 1) (o,f) xb ⟨rfl,by simp,zQ.refl ho⟩ ?_ ?_
  ·rintro⟨o1,a⟩ H' U ⟨g,_,h⟩ p;simp only[XH]at g;subst g;refine xd Y p ?_;refine C _ _ H' H' _ nofun rfl (yT.refl _) ⟨o1,?_,?_⟩
   ·simp[Yz,Xf,yN]
   ·simpa[yN,zn]using h
  ·rintro W x v ⟨o1,a⟩ H' U G p _ ⟨g,J,h⟩ Z;have aa:=yZ G;have ab:=MX x a;simp only[XH,ZC]at g J;have ad:x∈m:=xv G
   obtain⟨t,z⟩:=x;simp only[Pu,bM]at ab g J;refine xx Y p aa (zb λb j=>?_);refine xA (zu (af t z ad a _ o1 xi (h.own.upd j)) λo2 O I=>?_);rw[zn]at I;refine xq ?_;exact zJ (Z (o2,yN z a) O ⟨g,by simp only;omega,(h.upd j).trans I⟩) xb
 ·refine xL M K L ?_;refine C _ _ H H _ nofun rfl (yT.refl _) ⟨o,?_,?_⟩
  ·simp[Yz,Xf,yN,M,K,L]
  ·simpa[yN,M,K,L,zn]using zQ.refl ho
def zrk:∀L,∀f H o,f.length+bV L<=ze->zM H o f.length 1->YR Tryz.prog 328 [.agg (cV L),.sl o 1 (cT f)] H o 1 (cT (yN L f)):=by
 refine Val.ind λk n s l m al am f H o ai ho=>?_;have aj:f.length+(1+s.length+Wg l+ZC m)<=ze:=ai;have ao:=Xi l;have ap:=y5 m;have G:=YI l;have p:=yI m;have Y:=zn f;simp only[ze]at aj;refine Xt ir328 λKP Q v an=>?_;by_cases X:k=8
 ·subst X;refine ws (Zk.low (TG f s xi)) ?_;have fin:∀o' H' (a:B9),yN (.mk 8 n s l m) f=a->zQ H o H' o' a.length 1->zhk H o 1 (cT (yN (.mk 8 n s l m) f)) (.sl o' 1 (cT a)) H':=λo' H' a e y=>by
   rw[e];exact⟨o',rfl,by rw[zn];exact y⟩
  cases A:zH s f with
  | true =>
   refine xc A ?_;refine ZZ ZY (λ_ H'=>H'=H) (λ_=>0) () xb rfl ?_;rintro _ H' K rfl _;by_cases C:(0:Int)<l.length
   ·refine xd G C ?_;refine ZZ ZY (λ_ g=>g=H') (λ_=>0) () xb rfl ?_;rintro _ g O rfl _;by_cases j:(0:Int)<m.length
    ·refine xd p j ?_;refine v _ _ g g [.sl o 1 (cT f)] nofun xb (yT.refl _) (fin o g f (by simp[yN,A]) (zQ.refl ho))
    ·refine xd p j ?_;refine v _ _ g g [.sl o 1 (cT f)] nofun xb (yT.refl _) (fin o g f (by simp[yN,A]) (zQ.refl ho))
   ·refine xd G C ?_;refine ZZ ZY (λ_ g=>g=H') (λ_=>0) () xb rfl ?_;rintro _ g O rfl _;by_cases j:(0:Int)<m.length
    ·refine xd p j ?_;refine v _ _ g g [.sl o 1 (cT f)] nofun xb (yT.refl _) (fin o g f (by simp[yN,A]) (zQ.refl ho))
    ·refine xd p j ?_;refine v _ _ g g [.sl o 1 (cT f)] nofun xb (yT.refl _) (fin o g f (by simp[yN,A]) (zQ.refl ho))
  | false =>
   refine xc A (zp (wz Y ho) ?_ ?_ λo' H' y=>?_)
   ·simp only[Y,yg,yy];omega
   ·refine xR Y ?_;omega
   have ah:(cT f++[[AV.str s]])=cT (f++[s]):=vc
   have aa:zQ H o H' o' (f++[s]).length 1:=by simpa[Y]using y
   refine xc ah ?_;refine ZZ ZY (λ_ h=>h=H') (λ_=>0) () xb rfl ?_;rintro _ h K rfl _;by_cases C:(0:Int)<l.length
   ·refine xd G C ?_;refine ZZ ZY (λ_ g=>g=h) (λ_=>0) () xb rfl ?_;rintro _ g O rfl _;by_cases j:(0:Int)<m.length
    ·refine xd p j ?_;refine v _ _ g g [.sl o' 1 (cT (f++[s]))] nofun xb (yT.refl _) (fin o' g _ (by simp[yN,A]) aa)
    ·refine xd p j ?_;refine v _ _ g g [.sl o' 1 (cT (f++[s]))] nofun xb (yT.refl _) (fin o' g _ (by simp[yN,A]) aa)
   ·refine xd G C ?_;refine ZZ ZY (λ_ g=>g=h) (λ_=>0) () xb rfl ?_;rintro _ g O rfl _;by_cases j:(0:Int)<m.length
    ·refine xd p j ?_;refine v _ _ g g [.sl o' 1 (cT (f++[s]))] nofun xb (yT.refl _) (fin o' g _ (by simp[yN,A]) aa)
    ·refine xd p j ?_;refine v _ _ g g [.sl o' 1 (cT (f++[s]))] nofun xb (yT.refl _) (fin o' g _ (by simp[yN,A]) aa)
 have aq:(k=8)=False:=eq_false X;refine wj X ?_;by_cases ab:k=6
 ·subst ab;refine zc l 5 (λx:Own×B9=>[(1,.sl x.1 1 (cT x.2))]) (λad J x H'=>Xz J x.2=Xz l f/\x.2.length+Wg J<=f.length+Wg l/\zQ H o H' x.1 x.2.length 1) (o,f) xb ⟨rfl,by simp,zQ.refl ho⟩ ?_ ?_
  ·rintro⟨o1,a⟩ H' K ⟨z,_,y⟩ I;simp only[Xz]at z;subst z;refine xd G I ?_;refine ZZ ZY (λ_ h=>h=H') (λ_=>0) () xb rfl ?_;rintro _ h O rfl _;have fin:zhk H o 1 (cT (yN (.mk 6 n s l m) f)) (.sl o1 1 (cT (Xz l f))) h:=⟨o1,by simp[yN],by simpa[yN,zn]using y⟩;by_cases j:(0:Int)<m.length
   ·refine xd p j ?_;exact v _ _ h h [.sl o1 1 (cT (Xz l f))] nofun xb (yT.refl _) fin
   ·refine xd p j ?_;exact v _ _ h h [.sl o1 1 (cT (Xz l f))] nofun xb (yT.refl _) fin
  ·rintro ad x J ⟨o1,a⟩ H' K U I _ ⟨z,Z,y⟩ ae;have af:=Xa U;have ag:=VY x a;simp only[Xz,Wg]at z Z;refine xx G I af (zu (al x (xv U) a _ o1 xi y.own) λo2 h W=>?_);rw[zn]at W;refine xq ?_;exact zJ (ae (o2,yN x a) h ⟨z,by simp only;omega,y.trans W⟩) xb
 refine ZZ ZY (λ_ h=>h=H) (λ_=>0) () xb rfl ?_;rintro _ M K rfl _;by_cases ac:k=7
 ·subst ac;by_cases C:(0:Int)<l.length
  all_goals
   refine xd G C ?_;refine zc m 6 (λx:Own×B9=>[(1,.sl x.1 1 (cT x.2))]) (λad J x H'=>XH J x.2=XH m f/\x.2.length+ZC J<=f.length+ZC m/\zQ M o H' x.1 x.2.length 1) (o,f) xb ⟨rfl,by simp,zQ.refl ho⟩ ?_ ?_
   ·rintro⟨o1,a⟩ H' K ⟨z,_,y⟩ I;simp only[XH]at z;subst z;refine xd p I ?_;have fin:zhk M o 1 (cT (yN (.mk 7 n s l m) f)) (.sl o1 1 (cT (XH m f))) H':=⟨o1,by simp[yN],by simpa[yN,zn]using y⟩;exact v _ _ H' H' [.sl o1 1 (cT (XH m f))] nofun xb (yT.refl _) fin
   ·rintro ad x J ⟨o1,a⟩ H' K U I _ ⟨z,Z,y⟩ ae;have af:=yZ U;have ag:=MX x a;simp only[XH,ZC]at z Z;have ak:x∈m:=xv U
    obtain⟨t,L⟩:=x;simp only[Pu,bM]at ag z Z;refine xx p I af (zu (am t L ak a _ o1 xi y.own) λo2 h W=>?_);rw[zn]at W;refine xq ?_;exact zJ (ae (o2,yN L a) h ⟨z,by simp only;omega,y.trans W⟩) xb
 have fin:zhk M o 1 (cT (yN (.mk k n s l m) f)) (.sl o 1 (cT f)) M:=⟨o,by simp[yN,X,ab,ac],by simpa[yN,X,ab,ac,zn]using zQ.refl ho⟩;by_cases C:(0:Int)<l.length
 all_goals
  refine xe G C ab ?_;refine ZZ ZY (λ_ h=>h=M) (λ_=>0) () xb rfl ?_;rintro _ h O rfl _;by_cases j:(0:Int)<m.length
  ·refine xe p j ac ?_;exact v _ _ h h [.sl o 1 (cT f)] nofun xb (yT.refl _) fin
  ·refine xd p j ?_;exact v _ _ h h [.sl o 1 (cT f)] nofun xb (yT.refl _) fin
def ziI(v:Val)(h:bV v<=ze):zf 360 [.agg (cV v)] (.o 1 (cT (yN v []))):=by refine zo ir360 λKP Q f=>?_;refine xA (zu (zqI v [] _ .nil (xy h) rfl) λo' H' g=>?_);exact vm f
def zhy(v:Val)(h:bV v<=ze):zf 261 [.agg (cV v)] (.o 1 (cT (yN v []))):=by refine zo ir261 λKP Q f=>?_;refine xA (zu (zrk v [] _ .nil (xy h) rfl) λo' H' g=>?_);exact vm f
def NG(c:UInt8):Bool:=decide (48<=c.toNat)&&decide (c.toNat<=57)
def isL(c:UInt8):Bool:=(decide (97<=c.toNat)&&decide (c.toNat<=122))||((decide (65<=c.toNat)&&decide (c.toNat<=90))||decide (c.toNat=95))
def zjX(c:UInt8):zf 354 [.int .u8 (c.toNat:Int)] (.bool (NG c)):=by
 refine zo ir354 λKP Q g=>?_;by_cases f:(48:Int)<=c.toNat
 ·refine xc f ?_;have h':48<=c.toNat:=xg
  have e:decide ((c.toNat:Int)<=57)=decide (c.toNat<=57):=by rw[decide_eq_decide];omega
  exact g rfl (by simp[NG,h',e])
 ·refine xc f ?_;have h':¬ 48<=c.toNat:=xg
  exact g rfl (by simp[NG,h'])
def zj9(c:UInt8):zf 129 [.int .u8 (c.toNat:Int)] (.bool (NG c)):=by
 refine zo ir129 λKP Q g=>?_;by_cases f:(48:Int)<=c.toNat
 ·refine xc f ?_;have h':48<=c.toNat:=xg
  have e:decide ((c.toNat:Int)<=57)=decide (c.toNat<=57):=by rw[decide_eq_decide];omega
  exact g rfl (by simp[NG,h',e])
 ·refine xc f ?_;have h':¬ 48<=c.toNat:=xg
  exact g rfl (by simp[NG,h'])
def zm8(c:UInt8):zf 353 [.int .u8 (c.toNat:Int)] (.bool (isL c)):=by
 refine zo ir353 λKP Q j=>?_;have e:decide ((c.toNat:Int)=95)=decide (c.toNat=95):=by rw[decide_eq_decide];omega
 by_cases f:(97:Int)<=c.toNat
 ·have h':97<=c.toNat:=xg
  by_cases z:(c.toNat:Int)<=122
  ·have y:c.toNat<=122:=xg
   refine xd f z ?_;exact j rfl (by simp[isL,h',y])
  ·have y:¬ c.toNat<=122:=xg
   have g:(65:Int)<=c.toNat:=xg
   have v:¬ (c.toNat:Int)<=90:=xg
   have h:¬ c.toNat<=90:=xg
   refine xk f z g v ?_;exact j rfl (by simp[isL,h',y,h,e])
 ·have h':¬ 97<=c.toNat:=xg
  by_cases g:(65:Int)<=c.toNat
  ·have p:65<=c.toNat:=xg
   by_cases v:(c.toNat:Int)<=90
   ·have h:c.toNat<=90:=xg
    refine xe f g v ?_;exact j rfl (by simp[isL,h',p,h])
   ·have h:¬ c.toNat<=90:=xg
    refine xe f g v ?_;exact j rfl (by simp[isL,h',p,h,e])
  ·have p:¬ 65<=c.toNat:=xg
   refine xd f g ?_;exact j rfl (by simp[isL,h',p,e])
def zfm(c:UInt8):zf 128 [.int .u8 (c.toNat:Int)] (.bool (isL c)):=by
 refine zo ir128 λKP Q j=>?_;have e:decide ((c.toNat:Int)=95)=decide (c.toNat=95):=by rw[decide_eq_decide];omega
 by_cases f:(97:Int)<=c.toNat
 ·have h':97<=c.toNat:=xg
  by_cases z:(c.toNat:Int)<=122
  ·have y:c.toNat<=122:=xg
   refine xd f z ?_;exact j rfl (by simp[isL,h',y])
  ·have y:¬ c.toNat<=122:=xg
   have g:(65:Int)<=c.toNat:=xg
   have v:¬ (c.toNat:Int)<=90:=xg
   have h:¬ c.toNat<=90:=xg
   refine xk f z g v ?_;exact j rfl (by simp[isL,h',y,h,e])
 ·have h':¬ 97<=c.toNat:=xg
  by_cases g:(65:Int)<=c.toNat
  ·have p:65<=c.toNat:=xg
   by_cases v:(c.toNat:Int)<=90
   ·have h:c.toNat<=90:=xg
    refine xe f g v ?_;exact j rfl (by simp[isL,h',p,h])
   ·have h:¬ c.toNat<=90:=xg
    refine xe f g v ?_;exact j rfl (by simp[isL,h',p,h,e])
  ·have p:¬ 65<=c.toNat:=xg
   refine xd f g ?_;exact j rfl (by simp[isL,h',p,e])
def Ur:B8->Nat->Bool
 | [],_=>true
 | c::r,i=>if isL c||(decide (i≠0)&&NG c)then Ur r (i+1)else false
def zI(s:B8):Bool:=Ur s 0&&decide (s≠[])
def zfN{s a:B8}{x:UInt8}{b:B8}(h:s=a++x::b):s.getD a.length 0=x:=by subst h;simp
def zcN(s:B8)(K:s.length<=ze):zf 318 [.str s] (.bool (zI s)):=by
 refine zo ir318 λKP Q y=>?_;simp only[ze]at K;refine xa ?_;refine zc s 6 ZY (λh G n H=>Ur G h.length=Ur s 0) () xb rfl ?_ ?_
 ·rintro n H I f p;simp only[Ur]at f;refine xc p ?_;exact y rfl (by simp[zI,<-f])
 ·rintro h x G n H I J p _ f A;have C:=zfN J;simp only[Ur]at f;refine xn p C (zm8 x) ?_;cases g:isL x with
  | true =>simp only[g,Bool.true_or,if_true]at f;refine xc g ?_;exact zJ (A () _ (xy f)) xf
  | false =>
   by_cases z:h.length=0
   ·have v:(h.length:Int)=0:=xg
    simp only[g,z,ne_eq,not_true_eq_false,decide_false,Bool.false_and,Bool.or_false,Ql,if_false]at f;refine xd g v ?_;exact y rfl (by simp[zI,<-f])
   ·have v:¬ (h.length:Int)=0:=xg
    refine xE g v p C (zjX x) ?_;cases j:NG x with
    | true =>simp only[g,j,z,ne_eq,not_false_eq_true,decide_true,Bool.and_self,Bool.or_true,if_true]at f;refine xc j ?_;exact zJ (A () _ (xy f)) xf
    | false =>simp only[g,j,Bool.and_false,Bool.or_false,Ql,if_false]at f;refine xc j ?_;exact y rfl (by simp[zI,<-f])
def XO(s:B8)(L:s.length<=ze):zf 46 [.str s] (.bool (zI s)):=by
 refine zo ir46 λKP Q j=>?_;simp only[ze]at L;cases s with
 | nil =>refine xa ?_;exact j rfl (by simp[zI,Ur])
 | cons c r =>
  have U:¬ (c::r=[]):=xw
  have W:(0:Int)<((c::r).length:Nat):=xw
  refine xn U W (zfm c) ?_;cases y:isL c with
  | false =>refine xc y ?_;exact j rfl (by simp[zI,Ur,y])
  | true =>
   refine xc y ?_;have K:zI (c::r)=Ur r 1:=by simp[zI,Ur,y]
   refine ZZ (λx:B8×B8=>[(3,.i ((x.1.length:Int)+1))]) (λx H=>r=x.1++x.2/\Ur x.2 (x.1.length+1)=Ur r 1) (λx=>x.2.length) ([],r) xb ⟨rfl,rfl⟩ ?_;rintro⟨f,C⟩ H X ⟨p,g⟩ A;simp only at p g A ⊢;have hlen:r.length=f.length+C.length:=xv p
   simp only[yg]at L;have Y:(((c::r).length:Nat):Int)=f.length+C.length+1:=xr hlen
   cases C with
   | nil =>
    have z:¬ ((f.length:Int)+1<((r.length+1:Nat):Int)):=by simp at hlen;omega
    simp only[Ur]at g;refine xc z ?_;exact j rfl (x9 K g)
   | cons x t =>
    simp only[yg]at hlen;have z:((f.length:Int)+1<((r.length+1:Nat):Int)):=xg
    have J:(0:Int)<=(f.length:Int)+1:=xg
    have M:((f.length:Int)+1).toNat=f.length+1:=xg
    have I:r.getD f.length 0=x:=zfN p;simp only[Ur]at g;refine xE z J M I (zfm x) ?_;have G:r=(f++[x])++t:=xv p
    cases h:isL x with
    | true =>simp only[h,Bool.true_or,if_true]at g;refine xc h ?_;refine zJ (A (f++[x],t) _ xw ⟨G,by simpa using g⟩) (by simp(disch:=omega) only[wrap64,ZX,Int.natCast_add,Int.natCast_one,go_sem])
    | false =>
     refine xU h z J M I (zj9 x) ?_;cases v:NG x with
     | true =>
      have O:f.length+1≠0:=xg
      simp only[h,v,O,ne_eq,not_false_eq_true,decide_true,Bool.and_self,Bool.or_true,if_true]at g;refine xc v ?_;refine zJ (A (f++[x],t) _ xw ⟨G,by simpa using g⟩) (by simp(disch:=omega) only[wrap64,ZX,Int.natCast_add,Int.natCast_one,go_sem])
     | false =>simp only[h,v,Bool.and_false,Bool.or_false,Ql,if_false]at g;refine xc v ?_;exact j rfl (x9 K g)
def Zw:B8->Nat
 | []=>0
 | c::r=>if NG c then Zw r+1 else 0
def Ws:∀l,Zw l<=l.length
 | []=>ZG _
 | c::r=>by have:=Ws r;simp only[Zw,yg];split<;>omega
def WQ(s:B8)(k:Nat):(s.drop k=[]/\s.length<=k)∨(k<s.length/\s.drop k=s.getD k 0::s.drop (k+1)):=by
 rcases Nat.lt_or_ge k s.length with f|f
 ·right;refine⟨f,?_⟩;rw[List.drop_eq_getElem_cons f];simp[f]
 ·left;exact⟨List.drop_of_length_le f,f⟩
def Vm(s:B8)(z:s.length<=ze):zf 415 [.str s] (.i (Zw s)):=by
 refine zo ir415 λKP Q v=>?_;simp only[ze]at z;refine xa ?_;refine ZZ (λn:Nat=>[(3,.i n)]) (λn H=>Zw s=n+Zw (s.drop n)/\n<=s.length) (λn=>s.length-n) 0 xb ⟨by simp,by omega⟩ ?_;rintro n H A ⟨f,C⟩ y;rcases WQ s n with ⟨j,p⟩|⟨j,p⟩
 ·have h:¬ ((n:Int)<s.length):=xg
  rw[j]at f;simp only[Zw,Nat.add_zero]at f;exact vo h v f
 ·have h:((n:Int)<s.length):=xg
  rw[p]at f;simp only[Zw]at f;refine xt h (zjX (s.getD n 0)) ?_;cases g:NG (s.getD n 0)with
  | true =>simp only[g,if_true]at f;refine xc g ?_;exact zJ (y (n+1) _ xg ⟨by omega,by omega⟩) (by simp(disch:=omega) only[wrap64,Int.natCast_add,Int.natCast_one,go_sem])
  | false =>simp only[g,Ql,if_false,Nat.add_zero]at f;exact vo g v f
def zkz(s:B8)(i:Int)(J:0<=i)(h:i<=s.length)(C:s.length<=ze):zf 385 [.str s,.i i] (.i (Zw (s.drop i.toNat))):=by
 obtain⟨k,rfl⟩:∃k:Nat,i=k:=⟨i.toNat,by omega⟩;refine zo ir385 λKP Q v=>?_;simp only[ze]at C;have A:=Ws (s.drop k);rw[T1]at A;refine xa ?_;refine ZZ (λn:Nat=>[(5,.i n)]) (λn H=>Zw (s.drop k)=n+Zw (s.drop (k+n))/\k+n<=s.length) (λn=>s.length-n) 0 xb ⟨by simp,by omega⟩ ?_;rintro n H I ⟨f,K⟩ y;have G:((k:Int)+n).toNat=k+n:=xg
 have z:(0:Int)<=(k:Int)+n:=xg
 rcases WQ s (k+n)with ⟨h,p⟩|⟨h,p⟩
 ·have j:¬ ((k:Int)+n<s.length):=xg
  rw[h]at f;simp only[Zw,Nat.add_zero]at f;refine xB j ?_;exact xj v f
 ·have j:((k:Int)+n<s.length):=xg
  rw[p]at f;simp only[Zw]at f;refine xP j G z ?_;refine za (zj9 (s.getD (k+n) 0)) ?_;cases g:NG (s.getD (k+n) 0)with
  | true =>simp only[g,if_true]at f;refine xc g ?_;exact zJ (y (n+1) _ xg ⟨by rw[<-Nat.add_assoc];omega,by omega⟩) (by simp(disch:=omega) only[wrap64,Int.natCast_add,Int.natCast_one,go_sem])
  | false =>simp only[g,Ql,if_false,Nat.add_zero]at f;exact vo g v f
def zeE(c:UInt8)(s:B8):[c].isPrefixOf s=decide (s.head?=some c):=by
 cases s with
 | nil=>rfl
 | cons d r =>
  by_cases f:d=c
  ·subst f;simp[List.isPrefixOf]
  ·have h':¬ c=d:=λe=>f e.symm;simp[List.isPrefixOf,f,h']
def VX(s:B8):Nat:=if Zw s=0 then 0 else if s.getD 0 0=48 then 1 else Zw s
def Zq(s:B8):Nat:=if s.head?=some 45 then (if Zw s.tail=0 then 0 else 1+VX s.tail)else VX s
def zeD(s:B8):VX s<=s.length:=by have:=Ws s;unfold VX;split<;>(try split)<;>omega
def ziX{s:B8}(h:Zw s≠0):0<VX s:=by unfold VX;simp only[h,if_false];split<;>omega
def Ko(s:B8):Zq s<=s.length:=by
 have h:=zeD s;have j:=zeD s.tail;unfold Zq;split
 ·rename_i f;cases s with
  | nil=>simp at f
  | cons c r =>simp only[List.tail_cons,yg]at j ⊢;by_cases g:Zw r=0<;>simp only[g,if_true,if_false]<;>omega
 ·exact h
def Mf(a:UInt8)(n:Nat)(g:n<256):decide ((a.toNat:Int)=n)=decide (a=UInt8.ofNat n):=by
 rw[decide_eq_decide];have:(UInt8.ofNat n).toNat=n:=by simp[UInt8.toNat_ofNat'];omega
 constructor
 ·intro f;apply UInt8.toNat_inj.1;rw[this];omega
 ·intro f;subst f;rw[this]
def zpK(s:B8)(A:s.length<=ze):zf 414 [.str s] (.i (Zq s)):=by
 refine zo ir414 λKP Q j=>?_;simp only[ze]at A;refine xh (zaf s [45]) ?_;rw[zeE];by_cases h:s.head?=some 45
 ·cases s with
  | nil=>simp at h
  | cons c r =>
   have G:c=45:=xy h
   subst G;simp only[yg]at A;have C:(1:Int)<=((r.length+1:Nat):Int):=xg
   simp(disch:=omega) only[h,C,Int.toNat_one,go_sem];refine za (Vm r xi) ?_;by_cases f:Zw r=0
   ·refine xc f ?_;exact j rfl (by simp[Zq,f])
   ·have p:¬ ((Zw r:Int)=0):=xg
    have I:=Ws r;have v:(1:Int)<((r.length+1:Nat):Int):=xg
    have e:=Mf (r.getD 0 0) 48 xg;by_cases g:r.getD 0 0=48
    ·have hi:VX r=1:=by simp only[VX,f,g,if_false,if_true]
     simp(disch:=omega) only[p,v,Int.toNat_one,g,UInt8.reduceToNat,wrap64,go_sem];exact j rfl (by simp[Zq,f,hi])
    ·have y:¬ ((r.getD 0 0).toNat:Int)=48:=by
      intro z;rw[decide_eq_true (by exact z)]at e;exact g (by simpa using e.symm)
     have hi:VX r=Zw r:=by simp only[VX,f,g,if_false]
     simp(disch:=omega) only[p,v,Int.toNat_one,y,wrap64,go_sem];exact j rfl (by simp[Zq,f,hi])
 ·refine xt h (Vm s xi) ?_;by_cases f:Zw s=0
  ·refine xc f ?_;exact j rfl (by simp[Zq,h,VX,f])
  ·have p:¬ ((Zw s:Int)=0):=xg
   have I:=Ws s;have v:(0:Int)<(s.length:Int):=xg
   have e:=Mf (s.getD 0 0) 48 xg;by_cases g:s.getD 0 0=48
   ·have hi:VX s=1:=by simp only[VX,f,g,if_false,if_true]
    simp(disch:=omega) only[p,v,g,UInt8.reduceToNat,wrap64,go_sem];exact j rfl (by simp[Zq,h,hi])
   ·have y:¬ ((s.getD 0 0).toNat:Int)=48:=by
     intro z;rw[decide_eq_true (by exact z)]at e;exact g (by simpa using e.symm)
    have hi:VX s=Zw s:=by simp only[VX,f,g,if_false]
    refine xP p v y ?_;exact j rfl (by simp[Zq,h,hi])
def isE(c:UInt8):Bool:=decide (c=101)||decide (c=69)
def sgN(r:B8):Nat:=if r.head?=some 43∨r.head?=some 45 then 1 else 0
def Uv:B8->Nat
 | []=>0
 | c::r=>if isE c then (if Zw (r.drop (sgN r))=0 then 0 else 1+sgN r+Zw (r.drop (sgN r)))else 0
def zel(r:B8):sgN r<=r.length:=by
 unfold sgN;split
 ·cases r<;>simp_all
 ·omega
def zfR:∀s,Uv s<=s.length
 | []=>by simp[Uv]
 | c::r=>by
  have f:=Ws (r.drop (sgN r));have g:=zel r;rw[T1]at f;simp only[Uv,yg];split
  ·split<;>omega
  ·omega
def zeb(s:B8)(L:s.length<=ze):zf 416 [.str s] (.i (Uv s)):=by
 refine zo ir416 λKP Q g=>?_;simp only[ze]at L;cases s with
 | nil =>refine xa ?_;exact g rfl (by simp[Uv])
 | cons c r =>
  simp only[yg]at L;have af:¬ (c::r=[]):=xw
  have ag:(0:Int)<((r.length+1:Nat):Int):=xg
  have M:=Mf c 101 xg;have O:=Mf c 69 xg;by_cases A:isE c=true
  case neg =>
   have aa:¬ (c.toNat:Int)=101:=by intro v;rw[decide_eq_true (by exact v)]at M;exact A (by simp[isE,(by simpa using M.symm:c=101)])
   have ab:¬ (c.toNat:Int)=69:=by intro v;rw[decide_eq_true (by exact v)]at O;exact A (by simp[isE,(by simpa using O.symm:c=69)])
   refine xk af ag aa ab ?_;have ac:isE c=false:=xy A
   exact g rfl (by simp[Uv,ac])
  have fin:∀k:Nat,Zw (r.drop (sgN r))=k->Uv (c::r)=if k=0 then 0 else 1+sgN r+k:=λk ae=>by subst ae;simp only[Uv,A,if_true]
  have K:(c.toNat:Int)=101∨(¬ (c.toNat:Int)=101/\(c.toNat:Int)=69):=by
   simp only[isE,Uz,Zh]at A;rcases A with rfl|rfl
   ·exact .inl rfl
   ·exact .inr ⟨by decide,rfl⟩
  have G:=Ws (r.drop (sgN r));rw[T1]at G;have ah:=zel r;cases r with
  | nil =>
   have k0:=fin 0 (by simp[sgN,Zw]);rcases K with h|⟨h,z⟩
   ·refine xt h (Vm [] xw) ?_;simp(disch:=omega) only[Zw,go_sem];exact xj g k0
   ·refine xn h z (Vm [] xw) ?_;simp(disch:=omega) only[Zw,go_sem];exact xj g k0
  | cons d t =>
   simp only[yg]at L;have y:(1:Int)<((t.length+1+1:Nat):Int):=xg
   have I:(2:Int)<=((t.length+1+1:Nat):Int):=xg
   have X:(1:Int)<=((t.length+1+1:Nat):Int):=xg
   have U:=Mf d 43 xg;have W:=Mf d 45 xg;by_cases J:d=43∨d=45
   ·have Z:sgN (d::t)=1:=by simp only[sgN,List.head?_cons,Y1,J,if_true]
    have k0:=fin (Zw t) (wa Z);rw[Z]at k0 G;have ad:(d.toNat:Int)=43∨(¬ (d.toNat:Int)=43/\(d.toNat:Int)=45):=by
     rcases J with rfl|rfl
     ·exact .inl rfl
     ·exact .inr ⟨by decide,rfl⟩
    rcases K with h|⟨h,z⟩<;>rcases ad with p|⟨p,C⟩
    all_goals simp only[y,I,yg,List.drop_succ_cons,List.drop_zero]at G
    ·simp(disch:=omega) only[ir416,h,p,y,I,Int.toNat_one,go_sem];refine za (Vm t xi) ?_;by_cases f:Zw t=0
     ·refine xc f ?_;exact xz g k0 f
     ·have j:¬ (Zw t:Int)=0:=xg
      refine xB j ?_;exact xz g k0 f
    ·simp(disch:=omega) only[ir416,h,p,C,y,I,Int.toNat_one,go_sem];refine za (Vm t xi) ?_;by_cases f:Zw t=0
     ·refine xc f ?_;exact xz g k0 f
     ·have j:¬ (Zw t:Int)=0:=xg
      refine xB j ?_;exact xz g k0 f
    ·simp(disch:=omega) only[ir416,h,z,p,y,I,Int.toNat_one,go_sem];refine za (Vm t xi) ?_;by_cases f:Zw t=0
     ·refine xc f ?_;exact xz g k0 f
     ·have j:¬ (Zw t:Int)=0:=xg
      refine xB j ?_;exact xz g k0 f
    ·simp(disch:=omega) only[ir416,h,z,p,C,y,I,Int.toNat_one,go_sem];refine za (Vm t xi) ?_;by_cases f:Zw t=0
     ·refine xc f ?_;exact xz g k0 f
     ·have j:¬ (Zw t:Int)=0:=xg
      refine xB j ?_;exact xz g k0 f
   ·have Y:sgN (d::t)=0:=by simp only[sgN,List.head?_cons,Y1,J,if_false]
    have k0:=fin (Zw (d::t)) (wa Y);rw[Y]at k0 G;have p:¬ (d.toNat:Int)=43:=by intro v;rw[decide_eq_true (by exact v)]at U;exact J (.inl (by simpa using U.symm))
    have C:¬ (d.toNat:Int)=45:=by intro v;rw[decide_eq_true (by exact v)]at W;exact J (.inr (by simpa using W.symm))
    simp only[List.drop_zero,yg]at G;rcases K with h|⟨h,z⟩
    ·simp(disch:=omega) only[ir416,h,p,C,y,X,Int.toNat_one,go_sem];refine za (Vm (d::t) (by simp only[ze,yg];omega)) ?_;by_cases f:Zw (d::t)=0
     ·refine xc f ?_;exact xz g k0 f
     ·have j:¬ (Zw (d::t):Int)=0:=xg
      refine xB j ?_;exact xz g k0 f
    ·simp(disch:=omega) only[ir416,h,z,p,C,y,X,Int.toNat_one,go_sem];refine za (Vm (d::t) (by simp only[ze,yg];omega)) ?_;by_cases f:Zw (d::t)=0
     ·refine xc f ?_;exact xz g k0 f
     ·have j:¬ (Zw (d::t):Int)=0:=xg
      refine xB j ?_;exact xz g k0 f
def XD(r:B8):Nat:=if r.head?=some 46/\0<Zw r.tail then 1+Zw r.tail else 0
def Tx(s:B8):Nat×Int :=if Zq s=0 then (0,0)else (Zq s+XD (s.drop (Zq s))+Uv (s.drop (Zq s+XD (s.drop (Zq s)))),if XD (s.drop (Zq s))=0/\Uv (s.drop (Zq s+XD (s.drop (Zq s))))=0 then 3 else 4)
def zjC(r:B8):XD r<=r.length:=by
 unfold XD;split
 ·rename_i f;cases r with
  | nil=>simp at f
  | cons c t=>have:=Ws t;simp only[List.tail_cons,yg];omega
 ·omega
def zlN(s:B8)(K:s.length<=ze):zf 407 [.str s] (.tup [.i (Tx s).1,.i (Tx s).2]):=by
 refine zo ir407 λKP Q g=>?_;have ab:=K;simp only[ze]at K;refine xh (zpK s ab) ?_;have ah:=Ko s;by_cases A:Zq s=0
 ·refine xc A ?_;exact g rfl (by simp[Tx,A])
 have L:¬ ((Zq s:Int)=0):=xg
 have I:(Zq s:Int)<=s.length:=xg
 refine xn L I (zaf (s.drop (Zq s)) [46]) ?_;rw[zeE];generalize O:Zq s=n at *
 have fin:∀j f:Nat,XD (s.drop n)=j->Uv (s.drop (n+j))=f->Tx s=(n+j+f,if j=0/\f=0 then 3 else 4):=λj f hf z=>by unfold Tx;rw[O,hf,z];simp only[A,if_false]
 have Z:=zfR (s.drop n);rw[T1]at Z;by_cases h:(s.drop n).head?=some 46
 ·obtain⟨c,t,p⟩:∃c t,s.drop n=c::t:=by
   cases ae:s.drop n with
   | nil=>rw[ae]at h;simp at h
   | cons c t=>exact⟨c,t,rfl⟩
  have hlen:s.length=n+1+t.length:=by have:=congrArg List.length p;simp at this;omega
  have hdr:s.drop (n+1)=t:=by rw[<-List.drop_drop,p];rfl
  have ac:((n:Int)+1).toNat=n+1:=xg
  have U:(0:Int)<=(n:Int)+1:=xg
  have W:(n:Int)+1<=s.length:=xg
  have ag:=Ws t;simp(disch:=omega) only[h,wrap64,ac,U,W,hdr,go_sem];refine za (Vm t xi) ?_;by_cases J:(0:Int)<Zw t
  ·have M:0<Zw t:=xg
   have hfr:XD (s.drop n)=1+Zw t:=by unfold XD;rw[if_pos ⟨h,by rw[p];exact M⟩,p];rfl
   have ad:((n:Int)+1+Zw t).toNat=n+(1+Zw t):=xg
   have X:(0:Int)<=(n:Int)+1+Zw t:=xg
   have Y:(n:Int)+1+Zw t<=s.length:=xg
   have aa:=zfR (s.drop (n+(1+Zw t)));rw[T1]at aa;refine ww J ad X Y ?_;refine za (zeb (s.drop (n+(1+Zw t))) (by rw[T1];refine xl ?_;omega)) ?_;have hf:=fin _ _ hfr rfl;generalize z:Uv (s.drop (n+(1+Zw t)))=f at *
   by_cases v:(0:Int)<f
   ·refine xB v ?_;exact g rfl (by simp[hf,Int.add_assoc])
   ·have y:f=0:=xg
    subst y;refine xa ?_;exact g rfl (by simp[hf,Int.add_assoc])
  ·have af:Zw t=0:=xg
   have hfr:XD (s.drop n)=0:=by unfold XD;exact if_neg λC=>by have:=C.2;rw[p]at this;simp only[List.tail_cons]at this;omega
   refine xd J I ?_;refine za (zeb (s.drop n) (by rw[T1];refine xl ?_;omega)) ?_;have hf:=fin _ _ hfr rfl;rw[Nat.add_zero]at hf;generalize z:Uv (s.drop n)=f at *
   by_cases v:(0:Int)<f
   ·have G:¬ f=0:=xg
    refine xB v ?_;exact xz g hf G
   ·have y:f=0:=xg
    subst y;exact vn g hf
 ·have hfr:XD (s.drop n)=0:=by unfold XD;exact if_neg λC=>h C.1
  refine xd h I ?_;refine za (zeb (s.drop n) (by rw[T1];refine xl ?_;omega)) ?_;have hf:=fin _ _ hfr rfl;rw[Nat.add_zero]at hf;generalize z:Uv (s.drop n)=f at *
  by_cases v:(0:Int)<f
  ·have G:¬ f=0:=xg
   refine xB v ?_;exact xz g hf G
  ·have y:f=0:=xg
   subst y;exact vn g hf
def V8(s:B8):Int:=if (Tx s).1=s.length then (Tx s).2 else 0
def zbd(s:B8)(h:s.length<=ze):zf 399 [.str s] (.i (V8 s)):=by
 refine zo ir399 λKP Q g=>?_;refine xh (zlN s h) ?_;by_cases f:(Tx s).1=s.length
 ·have h':(((Tx s).1:Int)=s.length)=True:=eq_true xg;refine xc h' ?_;exact g rfl (by simp[V8,f])
 ·have h':¬ ((Tx s).1:Int)=s.length:=xg
  refine xc h' ?_;exact g rfl (by simp[V8,f])
def okI:Lib.NumEnd Int->Bool
 | .ok _=>true
 | _=>false
def zlx(s:B8):Int:=match Lib.parseIntB 64 s with
 | .ok v=>v
 | Lib.NumEnd.syntax=>0
 | .range=>Lib.intSat 64 s
def Ol(s:B8):Bool:=okI (Lib.parseIntB 64 s)&&decide (V8 s=3)
def zpo(s:B8)(g:s.length<=ze):zf 403 [.str s] (.tup [.i (zlx s),.bool (Ol s)]):=by
 refine zo ir403 λKP Q f=>?_;refine xa ?_;refine za (zhj s (by simp only[ze]at g;omega)) ?_;rcases hp:Lib.parseIntB 64 s with h|_|_
 ·simp(disch:=omega) only[Mx,hp,go_sem];refine za (zbd s g) ?_;refine xa ?_;exact f rfl (by simp[zlx,Ol,hp,okI])
 ·simp(disch:=omega) only[Mx,hp,go_sem];exact f rfl (by simp[zlx,Ol,hp,okI])
 ·simp(disch:=omega) only[Mx,hp,go_sem];exact f rfl (by simp[zlx,Ol,hp,okI])
def zbK(s:B8):Bool:=decide (V8 s=4)||(decide (V8 s=3)&&!Ol s)
def zsX(s:B8)(j:s.length<=ze):zf 389 [.str s] (.bool (zbK s)):=by
 refine zo ir389 λKP Q h=>?_;refine xh (zbd s j) ?_;refine xh (zpo s j) ?_;by_cases f:V8 s=4
 ·refine xc f ?_;exact h rfl (by simp[zbK,f])
 ·by_cases g:V8 s=3
  ·refine xd f g ?_;exact h rfl (by simp[zbK,f,g])
  ·refine xd f g ?_;exact h rfl (by simp[zbK,f,g])
def LH(s:B8):Bool:=decide (s=[116,114,117,101])||(decide (s=[102,97,108,115,101])||decide (s=[110,117,108,108]))
def zsV(s:B8):zf 390 [.str s] (.bool (LH s)):=by
 refine zo ir390 λKP Q h=>?_;by_cases f:s=[116,114,117,101]
 ·refine xc f ?_;exact h rfl (by simp[LH,f])
 ·by_cases g:s=[102,97,108,115,101]
  ·subst g;have j:¬ ([102,97,108,115,101]:B8)=[116,114,117,101]:=by decide
   refine xc j ?_;exact h rfl (by simp[LH,j])
  ·refine xd f g ?_;exact h rfl (by simp[LH,f,g])
def znN(s:B8)(g:s.length<=ze):zf 343 [.str s] (.bool (Lib.validD s)):=by refine zo ir343 λKP Q f=>?_;refine xa ?_;refine za (zou s (by simp only[ze]at g;omega)) ?_;exact vm f
def yK(n:Int)(s:B8)(l:List Val)(m:List yU):Bool:=decide (n=0)&&(decide (s=[])&&(decide (l.length=0)&&decide (m.length=0)))
def zkr(k n:Int)(s:B8)(l:List Val)(m:List yU):zf 375 [.agg (cV (.mk k n s l m))] (.bool (yK n s l m)):=by
 refine zo ir375 λKP Q j=>?_;have p:=YI l;have v:=yI m;by_cases f:n=0
 case neg =>refine wj f ?_;exact j rfl (by simp[yK,f])
 by_cases g:s=[]
 case neg =>simp(disch:=omega) only[ir375,zC,f,g,go_sem];exact j rfl (by simp[yK,g])
 by_cases h:l.length=0
 case neg =>refine xW f g p h ?_;exact j rfl (by simp[yK,h])
 have e:decide ((m.length:Int)=0)=decide (m.length=0):=by rw[decide_eq_decide];omega
 simp(disch:=omega) only[ir375,zC,f,g,p,v,h,go_sem];exact j rfl (by simp[yK,f,g,h,e])
def zK(k n:Int)(s:B8)(l:List Val)(m:List yU):Bool :=yK 0 [] l m&&(if k=0 then decide (n=0)&&decide (s=[])else if k=1 then (decide (n=0)||decide (n=1))&&decide (s=[])else if k=2 then decide (s=[])else if k=3 then decide (n=0)&&zbK s else if k=4 then decide (n=0)&&Lib.validD s else if k=5 then decide (n=0)&&(zI s&&!LH s)else if k=8 then decide (n=0)&&zI s else false)
def zkR(k n:Int)(s:B8)(l:List Val)(m:List yU)(G:s.length<=ze):zf 374 [.agg (cV (.mk k n s l m))] (.bool (zK k n s l m)):=by
 refine zo ir374 λKP Q h=>?_;refine x7 (zb λb f=>?_);refine xh (zkr k 0 [] l m) ?_;cases f:yK 0 [] l m with
 | false =>refine xc f ?_;exact h rfl (by simp[zK,f])
 | true =>
  by_cases k0:k=0
  ·by_cases g:n=0
   ·refine xe f k0 g ?_;exact h rfl (by simp[zK,f,k0,g])
   ·refine xe f k0 g ?_;exact h rfl (by simp[zK,f,k0,g])
  by_cases j:k=1
  ·by_cases g:n=0
   ·refine xk f k0 j g ?_;exact h rfl (by simp[zK,f,j,g])
   ·by_cases I:n=1
    ·refine xp f k0 j g I ?_;exact h rfl (by simp[zK,f,j,I])
    ·refine xp f k0 j g I ?_;exact h rfl (by simp[zK,f,j,g,I])
  by_cases p:k=2
  ·refine xk f k0 j p ?_;exact h rfl (by simp[zK,f,p])
  by_cases v:k=3
  ·by_cases g:n=0
   ·refine xH f k0 j p v g (zsX s G) ?_;refine xa ?_;exact h rfl (by simp[zK,f,v,g])
   ·refine xu f k0 j p v g ?_;exact h rfl (by simp[zK,f,v,g])
  by_cases y:k=4
  ·by_cases g:n=0
   ·refine xG f k0 j p v y g ?_;refine za (znN s G) ?_;refine xa ?_;exact h rfl (by simp[zK,f,y,g])
   ·refine xG f k0 j p v y g ?_;exact h rfl (by simp[zK,f,y,g])
  by_cases z:k=5
  ·by_cases g:n=0
   ·refine x4 f k0 j p v y z g ?_;refine za (zcN s G) ?_;cases C:zI s with
    | true =>refine xt C (zsV s) ?_;refine xa ?_;exact h rfl (by simp[zK,f,z,g,C])
    | false =>refine xc C ?_;exact h rfl (by simp[zK,f,z,g,C])
   ·refine x4 f k0 j p v y z g ?_;exact h rfl (by simp[zK,f,z,g])
  by_cases A:k=8
  ·by_cases g:n=0
   ·simp(disch:=omega) only[f,k0,j,p,v,y,z,A,g,go_sem];refine za (zcN s G) ?_;refine xa ?_;exact h rfl (by simp[zK,f,A,g])
   ·simp(disch:=omega) only[f,k0,j,p,v,y,z,A,g,go_sem];exact h rfl (by simp[zK,f,A,g])
  ·refine x4 f k0 j p v y z A ?_;exact h rfl (by simp[zK,f,k0,j,p,v,y,z,A])
mutual
def ZA(f:B8->Bool):Val->Bool| .mk k n s l m=>if k=6 then Td f l&&yK n s [] m else if k=7 then UX f m&&yK n s l []else zK k n s l m
def Td(f:B8->Bool):List Val->Bool
 | []=>true
 | v::r=>ZA f v&&Td f r
def zlf(f:B8->Bool):yU->Bool| .mk s v=>f s&&ZA f v
def UX(f:B8->Bool):List yU->Bool
 | []=>true
 | x::r=>zlf f x&&UX f r
end
def zr0(f:FuncId)(hf:Program.callable Tryz.prog f=true)(p:B8->Bool)(ad:∀s:B8,s.length<=ze->zf f [.str s] (.bool (p s))):
  ∀C,bV C<=ze->zf 342 [.agg (cV C),.clo f [] []] (.bool (ZA p C)):=by
 refine Val.ind λk n s l m af ag aa=>?_;have ac:1+s.length+Wg l+ZC m<=ze:=aa;have ah:=Xi l;have ai:=y5 m;have L:=YI l;have M:=yI m;simp only[ze]at ac;refine zo ir342 λKP Q A=>?_;refine x7 (zb λb aa=>?_);by_cases Y:k=6
 ·subst Y;refine xc L ?_;refine zc l 22 (λ_:Unit=>[(6,.bool true)]) (λG z _ H=>Td p z=Td p l/\H b=some (.cells [.i 6,.i n,.str s,.sl .nil 5 [],.o 6 (Ya m)])) () xb ⟨rfl,by simp[zd.upd]⟩ ?_ ?_
  ·rintro _ H K ⟨g,h⟩ y;simp only[Td]at g;refine xm L y h (Zk.low (zkr 6 n s [] m)) ?_;refine xa ?_;exact A rfl (by simp[ZA,<-g])
  ·rintro G x z _ H K v y _ ⟨g,h⟩ O;have W:=Xa v;have J:=UA G x z;rw[<-v]at J;simp only[Td]at g;refine xx L y W (zb λab U=>?_);have X:=QX U h;refine xS (af x (xv v) xi) ?_;cases j:ZA p x with
   | true =>simp only[j,Bool.true_and]at g;refine xc j ?_;exact zJ (O () _ ⟨g,by simp[zd.upd,Ne.symm X,h]⟩) xf
   | false =>simp only[j,Bool.false_and]at g;refine xc j ?_;exact A rfl (by simp[ZA,<-g])
 by_cases Z:k=7
 ·subst Z;refine xc M ?_;refine zc m 38 (λ_:Unit=>[(6,.bool true)]) (λG z _ H=>UX p z=UX p m/\H b=some (.cells [.i 7,.i n,.str s,.o 5 (PE l),.sl .nil 6 []])) () xb ⟨rfl,by simp[zd.upd]⟩ ?_ ?_
  ·rintro _ H K ⟨g,h⟩ y;simp only[UX]at g;refine xm M y h (Zk.low (zkr 7 n s l [])) ?_;refine xa ?_;exact A rfl (by simp[ZA,<-g])
  ·rintro G x z _ H K v y _ ⟨g,h⟩ O;have W:=yZ v;have J:=Wb G x z;rw[<-v]at J;have ae:x∈m:=xv v
   obtain⟨t,C⟩:=x;simp only[UX,zlf,bM]at g J;refine xx M y W (zb λab U=>?_);have X:=QX U h;refine xA ?_;refine⟨hf,za (ad t xi) ?_⟩;cases I:p t with
   | true =>
    refine wL I (ag t C ae xi) ?_;cases j:ZA p C with
    | true =>simp only[I,j,Bool.true_and]at g;refine xc j ?_;exact zJ (O () _ ⟨g,by simp[zd.upd,Ne.symm X,h]⟩) xf
    | false =>simp only[I,j,Bool.true_and,Bool.false_and]at g;refine xc j ?_;exact A rfl (by simp[ZA,<-g])
   | false =>simp only[I,Bool.false_and]at g;refine xI I ?_;exact A rfl (by simp[ZA,<-g])
 ·refine xn Y Z (zkR k n s l m xi) ?_;refine xa ?_;exact A rfl (by simp[ZA,Y,Z])
def yL(v:Val):Bool:=ZA Lib.validD v
def zp0(v:Val)(g:bV v<=ze):zf 297 [.agg (cV v)] (.bool (yL v)):=by refine zo ir297 λKP Q f=>?_;refine xS (zr0 _ yw Lib.validD znN v g) ?_;refine xa ?_;exact f rfl (by simp[yL])
def WU(v:Val):Bool:=ZA zI v&&decide (Yx v<=16)
def zlH(v:Val)(h:bV v<=ze):zf 382 [.agg (cV v)] (.bool (WU v)):=by
 refine zo ir382 λKP Q g=>?_;refine xS (zr0 _ yw zI zcN v h) ?_;cases f:ZA zI v with
 | true =>refine wL f (zav v h) ?_;refine xa ?_;exact g rfl (by simp[WU,f])
 | false =>refine xc f ?_;exact g rfl (by simp[WU,f])
def zcf(s:B8):zf 396 [.str s] (.agg (cK ⟨2,s⟩)):=by refine zo ir396 λKP Q f=>?_;refine xa (zb λb g=>?_);refine xa ?_;exact @f _ _ [.agg [.i 2,.str s]] xb rfl
def Of(s:B8):zf 400 [.str s] (.agg (cK ⟨1,s⟩)):=by refine zo ir400 λKP Q f=>?_;refine xa (zb λb g=>?_);refine xa ?_;exact @f _ _ [.agg [.i 1,.str s]] xb rfl
def boolT(b:Bool):B8:=if b then [116,114,117,101]else [102,97,108,115,101]
def zju(b:Bool):zf 405 [.bool b] (.str (boolT b)):=by
 refine zo ir405 λKP Q f=>?_;cases b
 ·refine xa ?_;exact f rfl (by simp[boolT])
 ·refine xa ?_;exact f rfl (by simp[boolT])
def znl(b:Bool):zf 397 [.bool b] (.str (boolT b)):=by refine zo ir397 λKP Q f=>?_;refine xh (zju b) ?_;exact vm f
mutual
def Vp:Val->List Tok| .mk k n s l m=>if k=0 then [⟨2,[110,117,108,108]⟩]else if k=1 then [⟨2,boolT (decide (n=1))⟩]else if k=2 then [⟨3,Lib.itoa n⟩]else if k=3 then [⟨V8 s,s⟩]else if k=4 then [⟨5,s⟩]else if k=5 then [⟨2,s⟩]else if k=8 then [⟨1,[36]⟩,⟨2,s⟩]else if k=6 then ⟨1,[91]⟩::(Qm l++[⟨1,[93]⟩])else ⟨1,[123]⟩::(V6 m++[⟨1,[125]⟩])
def Qm:List Val->List Tok
 | []=>[]
 | v::r=>Vp v++Qm r
def zhR:yU->List Tok| .mk s v=>⟨2,s⟩::⟨1,[58]⟩::Vp v
def V6:List yU->List Tok
 | []=>[]
 | x::r=>zhR x++V6 r
end
mutual
def P6:∀f,(Vp f).length+2<=4*bV f
 | .mk k n s l m=>by
  have g:=N4 l;have h:=NU m;simp only[Vp,bV]
  repeat' split
  all_goals simp only[yg,ZX,yy]
  all_goals omega
def N4:∀l,(Qm l).length<=4*Wg l
 | []=>by simp[Qm]
 | v::r=>by have f:=P6 v;have g:=N4 r;simp only[Qm,Wg,ZX];omega
def zmK:∀x,(zhR x).length<=4*bM x| .mk s v=>by have:=P6 v;simp only[zhR,bM,yg];omega
def NU:∀l,(V6 l).length<=4*ZC l
 | []=>by simp[V6]
 | x::r=>by have f:=zmK x;have g:=NU r;simp only[V6,ZC,ZX];omega
end
def inR(n:Int):Prop:=-9223372036854775808<=n/\n<=9223372036854775807
mutual
def wfV:Val->Prop| .mk _ n _ l m=>inR n/\zg2 l/\Lz m
def zg2:List Val->Prop
 | []=>True
 | v::r=>wfV v/\zg2 r
def wfM:yU->Prop| .mk _ v=>wfV v
def Lz:List yU->Prop
 | []=>True
 | x::r=>wfM x/\Lz r
end
def zcu:∀ {l:List Val},zg2 l->∀f∈l,wfV f| _::_,h,f,hv=>(List.mem_cons.1 hv).elim (λe=>e▸h.1) (zcu h.2 f)
def MT:∀ {l:List yU},Lz l->∀s f,yU.mk s f∈l->wfV f| _::_,h,s,f,hv=>(List.mem_cons.1 hv).elim (λe=>by have:=h.1;rw[<-e]at this;exact this) (MT h.2 s f)
def Sw(a:List Tok)(t:Tok):UL a++[[.i t.k,.str t.s]]=UL (a++[t]):=by simp[UL,cK]
def zby(a:List Tok)(t u:Tok):UL a++[[.i t.k,.str t.s],[.i u.k,.str u.s]]=UL (a++[t,u]):=by simp[UL,cK]
def zlw:∀v,wfV v->∀g H o,g.length+4*bV v<=ze->zM H o g.length 2->YR Tryz.prog 383 [.sl o 2 (UL g),.agg (cV v)] H o 2 (UL (g++Vp v)):=by
 refine Val.ind λk n s l m a5 a6 a2 g H o G ho=>?_;obtain⟨p,a3,a4⟩:=a2;have ay:g.length+4*(1+s.length+Wg l+ZC m)<=ze:=G;have bc:=Xi l;have bd:=y5 m;have ae:=YI l;have af:=yI m;have h:=YJ g;have ba:=N4 l;have a8:=NU m;simp only[ze]at ay;have a1:s.length<=ze:=xi
 refine Xt ir383 λKP Q z a9=>?_;have one:∀t:Tok,Vp (.mk k n s l m)=[t]->∀o' H',zQ H o H' o' (g.length+1) 2->zhk H o 2 (UL (g++Vp (.mk k n s l m))) (.sl o' 2 (UL g++[[.i t.k,.str t.s]])) H':=λt e o' H' f=>by rw[e];exact⟨o',by rw[Sw],by rw[YJ];simpa using f⟩
 have I:((UL g).length+1)*24<=140737488355328:=by rw[h];omega
 have J:(UL g).length+1<=maxLen:=by rw[h];simp only[maxLen];omega
 have az:((UL g).length+2)*24<=140737488355328:=by rw[h];omega
 have a0:(UL g).length+2<=maxLen:=by rw[h];simp only[maxLen];omega
 have A:zM H o (UL g).length 2:=wz h ho
 by_cases k0:k=0
 ·subst k0;refine ws (zcf _) ?_;refine wM ?_;refine zp A I J λo' H' f=>?_;refine xa ?_;exact z _ _ H' H' [_] nofun rfl (yT.refl _) (one ⟨2,[110,117,108,108]⟩ vi o' H' (by simpa[h]using f))
 by_cases ak:k=1
 ·subst ak;refine ws (znl _) ?_;refine xh (zcf _) ?_;refine wM ?_;refine zp A I J λo' H' f=>?_;refine xa ?_;exact z _ _ H' H' [_] nofun rfl (yT.refl _) (one ⟨2,boolT (decide (n=1))⟩ vi o' H' (by simpa[h]using f))
 by_cases al:k=2
 ·subst al;refine ws (zd7 n p.1 p.2) ?_;refine xa ?_;refine zp A I J λo' H' f=>?_;refine xa ?_;exact z _ _ H' H' [_] nofun rfl (yT.refl _) (one ⟨3,Lib.itoa n⟩ vi o' H' (by simpa[h]using f))
 by_cases am:k=3
 ·subst am;refine ws (zbd s a1) ?_;refine xa ?_;refine zp A I J λo' H' f=>?_;refine xa ?_;exact z _ _ H' H' [_] nofun rfl (yT.refl _) (one ⟨V8 s,s⟩ vi o' H' (by simpa[h]using f))
 by_cases an:k=4
 ·subst an;refine x7 ?_;refine zp A I J λo' H' f=>?_;refine xa ?_;exact z _ _ H' H' [_] nofun rfl (yT.refl _) (one ⟨5,s⟩ vi o' H' (by simpa[h]using f))
 by_cases ao:k=5
 ·subst ao;refine ws (zcf _) ?_;refine wM ?_;refine zp A I J λo' H' f=>?_;refine xa ?_;exact z _ _ H' H' [_] nofun rfl (yT.refl _) (one ⟨2,s⟩ vi o' H' (by simpa[h]using f))
 by_cases aq:k=8
 ·subst aq;refine ws (Of _) ?_;refine wM ?_;refine za (zcf _) ?_;refine wM ?_;refine zp A az a0 λo' H' f=>?_;refine xa ?_;refine z _ _ H' H' [_] nofun rfl (yT.refl _) ?_;have e:Vp (.mk 8 n s l m)=[⟨1,[36]⟩,⟨2,s⟩]:=vi
  rw[e];exact⟨o',by rw[<-zby];rfl,by rw[YJ];simpa[h]using f⟩
 by_cases ap:k=6
 ·subst ap;have e:Vp (.mk 6 n s l m)=⟨1,[91]⟩::(Qm l++[⟨1,[93]⟩]):=vi
  have U:=Sw g ⟨1,[91]⟩;simp only at U;refine ws (Of _) ?_;refine wM ?_;refine zp A I J λo1 aa ai=>?_;have aj:zQ H o aa o1 (g++[(⟨1,[91]⟩:Tok)]).length 2:=by simpa[h]using ai
  refine xd U ae ?_;refine zc l 81 (λx:Own×List Tok=>[(0,.sl x.1 2 (UL x.2))]) (λac O x H'=>x.2++Qm O=g++⟨1,[91]⟩::Qm l/\x.2.length+4*Wg O<=g.length+1+4*Wg l/\zQ H o H' x.1 x.2.length 2) (o1,g++[⟨1,[91]⟩]) xb ⟨by simp,by simp,aj⟩ ?_ ?_
  ·rintro⟨o2,a⟩ Y ab ⟨p,L,f⟩ M;simp only[Qm,List.append_nil,Wg]at p L;have j:=YJ a;refine xn ae M (Of _) ?_;refine wM ?_;refine zp (by rw[j];exact f.own) (wT j) (wN j) λK y C=>?_;refine xa ?_;refine z _ _ y y [_] nofun rfl (yT.refl _) ?_;have ad:g++Vp (.mk 6 n s l m)=a++[⟨1,[93]⟩]:=by rw[e,p];simp
   rw[ad];exact⟨K,by rw[<-Sw];rfl,by rw[YJ];exact f.trans (by simpa[j]using C)⟩
  ·rintro ac x O ⟨o2,a⟩ Y ab W M _ ⟨p,L,f⟩ ag;have ah:=Xa W;have Z:=P6 x;have X:x∈l:=xv W
   simp only[Qm,Wg]at p L;refine xx ae M ah ?_;refine zb λb G=>?_;refine xA ?_;refine zu (a5 x X (zcu a3 x X) a _ o2 xi (f.own.upd G)) λK y C=>?_;rw[YJ]at C;refine xq ?_;exact zJ (ag (K,a++Vp x) y ⟨by rw[<-p];simp,by simp only[ZX];omega,(f.upd G).trans C⟩) xb
 ·have e:Vp (.mk k n s l m)=⟨1,[123]⟩::(V6 m++[⟨1,[125]⟩]):=by simp[Vp,k0,ak,al,am,an,ao,aq,ap]
  have U:=Sw g ⟨1,[123]⟩;simp only at U;simp(disch:=omega) only[ir383,zC,k0,ak,al,am,an,ao,aq,ap,go_sem];refine za (Of _) ?_;refine wM ?_;refine zp A I J λo1 aa ai=>?_;have aj:zQ H o aa o1 (g++[(⟨1,[123]⟩:Tok)]).length 2:=by simpa[h]using ai
  refine xd U af ?_;refine zc m 100 (λx:Own×List Tok=>[(0,.sl x.1 2 (UL x.2))]) (λac O x H'=>x.2++V6 O=g++⟨1,[123]⟩::V6 m/\x.2.length+4*ZC O<=g.length+1+4*ZC m/\zQ H o H' x.1 x.2.length 2) (o1,g++[⟨1,[123]⟩]) xb ⟨by simp,by simp,aj⟩ ?_ ?_
  ·rintro⟨o2,a⟩ Y ab ⟨p,L,f⟩ M;simp only[V6,List.append_nil,ZC]at p L;have j:=YJ a;refine xn af M (Of _) ?_;refine wM ?_;refine zp (by rw[j];exact f.own) (wT j) (wN j) λK y C=>?_;refine xa ?_;refine z _ _ y y [_] nofun rfl (yT.refl _) ?_;have ad:g++Vp (.mk k n s l m)=a++[⟨1,[125]⟩]:=by rw[e,p];simp
   rw[ad];exact⟨K,by rw[<-Sw];rfl,by rw[YJ];exact f.trans (by simpa[j]using C)⟩
  ·rintro ac x O ⟨o2,a⟩ Y ab W M _ ⟨p,L,f⟩ ag;have ah:=yZ W;have X:x∈m:=xv W
   obtain⟨t,v⟩:=x;have Z:=P6 v;have j:=YJ a;have be:=RE v;simp only[V6,zhR,ZC,bM]at p L;have ar:=zby a ⟨2,t⟩ ⟨1,[58]⟩;simp only at ar;refine xx af M ah ?_;refine zb λb G=>?_;refine xS (zcf _) ?_;simp(disch:=omega) only[zr,zm,zi,zq,zl,zh,zy,cK,go_sem];refine za (Of _) ?_;simp(disch:=omega) only[zr,zm,zi,zq,zl,zh,zy,cK,go_sem];refine zp (by rw[j];exact f.own.upd G) (wT j) (wN j) λK y C=>?_;have au:zQ H o y K (a++[(⟨2,t⟩:Tok),⟨1,[58]⟩]).length 2:=(f.upd G).trans (by simpa[j]using C);have ax:y b=some (.cells (cM (.mk t v))):=C.kept b _ (by simp[zd.upd,zy]) λd e=>by have:=f.own;subst e;have Z:Y b=_:=this;rw[G]at Z;cases Z
   refine wc ar ax ?_;refine zu (a6 t v X (MT a4 t v X) _ _ K (by simp only[ze,ZX,yg,yy];omega) au.own) λa7 aw av=>?_;rw[YJ]at av;refine xq ?_;exact zJ (ag (a7,a++[⟨2,t⟩,⟨1,[58]⟩]++Vp v) aw ⟨by rw[<-p];simp,by refine wm ?_;omega,au.trans av⟩) xb
def SP(v:Val):List Tok:=if WU v then Vp v else []
def Ny(v:Val)(p:wfV v)(h:4*bV v<=ze):zf 358 [.agg (cV v)] (.tup [.o 2 (UL (SP v)),.bool (WU v)]):=by
 have j:bV v<=ze:=xg
 refine zo ir358 λKP Q g=>?_;refine xS (zlH v j) ?_;cases f:WU v with
 | false =>refine xc f ?_;exact g rfl (by simp[SP,f,UL])
 | true =>refine xI f (zu (zlw v p [] _ .nil (xy h) rfl) λo' H' y=>?_);refine xa ?_;exact g rfl (by simp[SP,f])
end Go.Proofs.YtcbfcliickppiaaGreatDoor
namespace Go.Proofs.YtcbfcliickppiaaGreatDoor
def zdx(P:Program)(f:FuncId)(fn:Func)(s:ChangeSpec)(c:OpenClaim):Bool:=c.wf (OpenSpec.ofChange s)&&laidOutB P&&mapsRowed P&&fn.params.all (P.readableRec ·)&&namedTie P c.named s.vars
def zdI(P:Program)(f:FuncId)(fn:Func)(s:ChangeSpec)(c:OpenClaim):Bool:=(c.stops==[])&&(P.stops==[])&&(c.knobs==[])&&(P.stopKnobs==[])&&(c.maps==(fn.params.toList++s.plain.varTypes P).any (P.mapsRec ·))&&(c.ifaces==(fn.params.toList++s.plain.varTypes P).any (P.ifacesRec ·))&&(c.mapsOut==P.mapsAmong fn.resultTypes.toList)&&(c.loops==(fn.params.toList++s.plain.varTypes P).any (P.loopsFrom ·))&&(c.wideKeys==(fn.params.toList++s.plain.varTypes P++fn.resultTypes.toList).any (P.wideKeysFrom ·))&&s.vars.all (P.varReadable ·)&&fn.resultTypes.all (λt=>P.readableRec t&&decide (t<P.types.size))&&(c.ifacesOut==fn.resultTypes.toList.any (P.ifacesRec ·))&&(c.loopsOut==fn.resultTypes.toList.any (P.loopsFrom ·))&&(c.veiled==(fn.params.toList++s.plain.varTypes P++fn.resultTypes.toList).any (P.veiledRec ·))&&c.veiledFits P fn.params.toList (fn.params.toList++s.plain.varTypes P++fn.resultTypes.toList)
def zdC(P:Program)(f:FuncId)(fn:Func)(s:ChangeSpec)(c:OpenClaim):Bool:=(c.inPlace==P.inPlace f)&&(c.unfollowed==P.unfollowed f)&&(c.recurses==P.recurses f)&&(c.named==P.varsNamed f)
def zer(P:Program)(f:FuncId)(fn:Func)(s:ChangeSpec)(c:OpenClaim):Bool:=(c.plainKeys==P.plainKeys)&&c.shortTexts.isNone
def zdT(P:Program)(f:FuncId)(fn:Func)(s:ChangeSpec)(c:OpenClaim):Bool:=P.stopsHeard
def zee(P:Program)(f:FuncId)(fn:Func)(s:ChangeSpec)(c:OpenClaim):Bool:=P.mayEnter
def zd1(P:Program)(f:FuncId)(fn:Func)(s:ChangeSpec)(c:OpenClaim):Bool:=(c.lifted==P.liftsFinal)&&(P.make==some c.make)&&(c.kinds==(if c.domain.isEmpty then []else fn.params.toList.map λt=>match P.underlying t with|some (.int k)=>some k|_=>none))&&(c.pinned==c.pinnedBy)
def zgn{P:Program}{f:FuncId}{fn:Func}{s:ChangeSpec}{c:OpenClaim}(g:zdx P f fn s c=true)(h:zdI P f fn s c=true)(j:zdC P f fn s c=true)(p:zer P f fn s c=true)(v:zdT P f fn s c=true)(y:zee P f fn s c=true)(z:zd1 P f fn s c=true):joinedFacts P f fn s c=true:=by simp only[zdx,yu]at g;obtain⟨⟨⟨⟨A,C⟩,Y⟩,aj⟩,am⟩:=g;simp only[zdI,yu]at h;obtain⟨⟨⟨⟨⟨⟨⟨⟨⟨⟨⟨⟨⟨⟨an,ao⟩,ap⟩,aq⟩,K⟩,L⟩,M⟩,O⟩,U⟩,W⟩,X⟩,Z⟩,aa⟩,ak⟩,al⟩:=h;simp only[zdC,yu]at j;obtain⟨⟨⟨ar,G⟩,I⟩,J⟩:=j;simp only[zer,yu]at p;obtain⟨ab,ac⟩:=p;simp only[zdT,yu]at v;have ad:=v;simp only[zee,yu]at y;have ae:=y;simp only[zd1,yu]at z;obtain⟨⟨⟨af,ag⟩,ah⟩,ai⟩:=z;simp only[joinedFacts,yu];exact⟨⟨⟨⟨⟨⟨⟨⟨⟨⟨⟨⟨⟨⟨⟨⟨⟨⟨⟨⟨⟨⟨⟨⟨⟨⟨⟨⟨⟨⟨⟨A,C⟩,Y⟩,aj⟩,am⟩,an⟩,ao⟩,ap⟩,aq⟩,ar⟩,G⟩,I⟩,J⟩,K⟩,L⟩,M⟩,O⟩,U⟩,W⟩,X⟩,Z⟩,aa⟩,ab⟩,ac⟩,ad⟩,ae⟩,af⟩,ag⟩,ah⟩,ai⟩,ak⟩,al⟩
def zg1{P:Program}(h:P.funcs.any Func.goes=false)(f:FuncId):P.goes f=false:=by
 have j:∀g:FuncId,(P.funcs[g]?).any Func.goes=false:=λg=>by
  cases e:P.funcs[g]? with
  | none=>rfl
  | some x =>rw[Array.any_eq_false]at h;obtain⟨hi,v⟩:=TQ.1 e;have:=h g hi;rw[v]at this;simpa using this
 have p:((P.closure f).any λg=>(P.funcs[g]?).any Func.goes)=false:=by simp[j]
 rw[Program.goes,p,h,Bool.and_false];rfl
def zcg{P:Program}{c:OpenClaim}(h:P.funcs.any Func.goes=false):false=c.goesBy P:=by have f:P.goes=λ_=>false:=funext (zg1 h);unfold OpenClaim.goesBy Program.goesAt Program.goesFrom;rw[f];generalize c.start=g;cases P.funcNamed c.func<;>cases g<;>simp
open Go.Ab Go.ChangeAt Go.ChangeShapes Go.Lib Go.RowKit Go.WideElems Go.WideShapes
def own:ownKnob Tryz.prog.godebug=none:=by kernel_rfl
def laidOut:laidOutB Tryz.prog=true:=by kernel_rfl
def zfE:∀l,Wg l=(l.map bV).sum
 | []=>rfl
 | v::r=>by simp[Wg,zfE r]
def zeG:∀l,ZC l=(l.map bM).sum
 | []=>rfl
 | v::r=>by simp[ZC,zeG r]
def zcZ:∀ {l:List Val},(∀f∈l,wfV f)->zg2 l
 | [],_=>trivial
 | f::r,h=>⟨h f (.head _),zcZ λx g=>h x (.tail _ g)⟩
def zcM:∀ {l:List yU},(∀f∈l,wfM f)->Lz l
 | [],_=>trivial
 | f::r,h=>⟨h f (.head _),zcM λx g=>h x (.tail _ g)⟩
def zeA{n:Int}(h:(Lit.int .i64 n).wf=true):inR n:=by simp[Lit.wf,IntKind.has,IntKind.min,IntKind.max,IntKind.signed,IntKind.bits]at h;unfold inR;omega
abbrev DV(m:Nat):Prop:=yi Tryz.prog m 74 5 cV wfV bV
abbrev DM(m:Nat):Prop:=yi Tryz.prog m 106 6 cM wfM bM
def zrr{m:Nat}(h:DV m):yi Tryz.prog (m+1) 72 1 (λl:List Val=>[.o 5 (PE l)]) (λl=>zg2 l) (λl=>Wg l+1):=by intro H enc f g d C j p;obtain⟨a,v,y,z,A⟩:=yi.slice (t:=72) Tryz.underlying72 (B:=80) (sz:=5) yw yw (by decide) h enc f g d C j p;exact⟨a,zcZ v.2.2,by simp only[zfE];exact y,z,by simp only[PH];exact A⟩
def znU{m:Nat}(h:DM m):yi Tryz.prog (m+1) 46 1 (λl:List yU=>[.o 6 (Ya l)]) (λl=>Lz l) (λl=>ZC l+1):=by intro H enc f g d C j p;obtain⟨a,v,y,z,A⟩:=yi.slice (t:=46) Tryz.underlying46 (B:=96) (sz:=6) yw yw (by decide) h enc f g d C j p;exact⟨a,zcM v.2.2,by simp only[zeG];exact y,z,by simp only[Tj];exact A⟩
def dec:∀m,DV m/\DM m:=by
 intro m;induction m using Nat.strongRecOn with
 | _ m g =>
  have p:∀ {k},k<=m->yi Tryz.prog k 72 1 (λl:List Val=>[.o 5 (PE l)]) (λl=>zg2 l) (λl=>Wg l+1):=fun {k} h=>by
   cases k with
   | zero=>exact yi.zero
   | succ k=>exact zrr (g k xg).1
  have j:∀ {k},k<=m->yi Tryz.prog k 46 1 (λl:List yU=>[.o 6 (Ya l)]) (λl=>Lz l) (λl=>ZC l+1):=fun {k} h=>by
   cases k with
   | zero=>exact yi.zero
   | succ k=>exact znU (g k xg).2
  refine⟨?_,?_⟩
  ·cases m with
   | zero=>exact yi.zero
   | succ k =>exact yi.struct (z7.cons yw (yi.int (k:=.i64) Tryz.underlying3) (z7.cons yw (yi.int (k:=.i64) Tryz.underlying2) (z7.cons yw (yi.str Tryz.underlying9) (z7.cons yw (p xg) (z7.cons yw (j xg) z7.nil))))) yw yw cV wfV bV (λx=>.mk x.1 x.2.1 x.2.2.1 x.2.2.2.1 x.2.2.2.2.1) (λa=>rfl) (λa f=>⟨zeA f.2.1,f.2.2.2.1,f.2.2.2.2.1⟩) (λa=>by simp only[bV];omega)
  ·cases m with
   | zero=>exact yi.zero
   | succ k =>exact yi.struct (z7.cons yw (yi.str Tryz.underlying9) (z7.cons yw (g k xg).1 z7.nil)) yw yw cM wfM bM (λx=>.mk x.1 x.2.1) (λa=>by simp[cM]) (λa f=>f.2.1) (λa=>by simp only[bM];omega)
def znA(m:Nat):DV m:=(dec m).1
def ziA:∀m,yi Tryz.prog m 46 1 (λl:List yU=>[.o 6 (Ya l)]) (λl=>Lz l) (λl=>ZC l+1)
 | 0=>yi.zero
 | m+1=>znU (dec m).2
def zjY{g:World}{r:Reach}{b:Nat}{t:TypeId}{j:Array Field}{v:Value}(p:Tryz.prog.underlying t=some (.struct j))(h:Value.okWide Tryz.prog g r b t v):∃f,v=.agg f:=by unfold Value.okWide at h;rw[p]at h;obtain⟨f,h,_⟩:=h;exact⟨f,h⟩
def zgT{H:Type}{s:ChangeSpec}{ds:List (DataW H)}(h:∀k,(Rows.OpenSpec.upto s).cond=some k->k H ds=true):Wz ds<=1048576:=by
 have f:Rows.uptoSmall H ds=true:=h _ rfl;have g:=of_decide_eq_true f
 rwa [UW]at g
end Go.Proofs.YtcbfcliickppiaaGreatDoor
namespace Go.Proofs.YtcbfcliickppiaaGreatDoor
open Go.Ab
structure yv where
 nm:B8
 args:List yU
inductive zj where
 | mk (k:Int) (al nm:B8) (args:List yU) (dirs:List yv) (on:B8) (sels:List zj)
structure X4 where
 nm:B8
 lists:Int
 musts:Int
structure z6 where
 nm:B8
 t:X4
 has:Bool
 d:Val
structure Y6 where
 k:Int
 nm:B8
 vars:List z6
 dirs:List yv
 sels:List zj
structure yE where
 nm:B8
 on:B8
 dirs:List yv
 sels:List zj
structure zv where
 ops:List Y6
 frags:List yE
def cD(x:yv):List AV:=[.str x.nm,.o 6 (Ya x.args)]
def ZE(l:List yv):List (List AV):=l.map cD
mutual
def cS:zj->List AV| .mk k al nm args dirs on sels=>[.i k,.str al,.str nm,.o 6 (Ya args),.o 2 (ZE dirs),.str on,.o 7 (Zp sels)]
def Zp:List zj->List (List AV)
 | []=>[]
 | x::r=>cS x::Zp r
end
def YQ(t:X4):List AV:=[.str t.nm,.i t.lists,.i t.musts]
def cW(x:z6):List AV:=YQ ⟨x.nm,0,0⟩ |>.take 1 |>.append (YQ x.t++(.bool x.has::cV x.d))
def Yg(l:List z6):List (List AV):=l.map cW
def cO(x:Y6):List AV:=[.i x.k,.str x.nm,.o 10 (Yg x.vars),.o 2 (ZE x.dirs),.o 7 (Zp x.sels)]
def PR(l:List Y6):List (List AV):=l.map cO
def cF(x:yE):List AV:=[.str x.nm,.str x.on,.o 2 (ZE x.dirs),.o 7 (Zp x.sels)]
def Pf(l:List yE):List (List AV):=l.map cF
def z8(d:zv):List AV:=[.o 5 (PR d.ops),.o 4 (Pf d.frags)]
def Yl(d:zv):z8 d=[.o 5 (PR d.ops),.o 4 (Pf d.frags)]:=rfl
def T7(f:B8)(t:X4)(h:Bool)(d:Val):cW ⟨f,t,h,d⟩=.str f::.str t.nm::.i t.lists::.i t.musts::.bool h::cV d:=rfl
def R7:∀l,Zp l=l.map cS
 | []=>rfl
 | v::r=>by rw[Zp,R7 r];rfl
def YB(l:List yv):(ZE l).length=l.length:=by simp[ZE]
def Z7(l:List zj):(Zp l).length=l.length:=by rw[R7];simp
def yJ(l:List z6):(Yg l).length=l.length:=by simp[Yg]
def ZI(l:List Y6):(PR l).length=l.length:=by simp[PR]
def Z5(l:List yE):(Pf l).length=l.length:=by simp[Pf]
def Y0{l a:List yv}{x:yv}{b:List yv}(h:l=a++x::b):(ZE l).getD a.length []=cD x:=Z2 h
def YY{l a:List zj}{x:zj}{b:List zj}(h:l=a++x::b):(Zp l).getD a.length []=cS x:=by rw[R7,Z2 h]
def y6{l a:List z6}{x:z6}{b:List z6}(h:l=a++x::b):(Yg l).getD a.length []=cW x:=Z2 h
def Z6{l a:List Y6}{x:Y6}{b:List Y6}(h:l=a++x::b):(PR l).getD a.length []=cO x:=Z2 h
def Ym{l a:List yE}{x:yE}{b:List yE}(h:l=a++x::b):(Pf l).getD a.length []=cF x:=Z2 h
def Zt(k:Int)(f h:B8)(args:List yU)(g:List yv)(j:B8)(p:List zj):cS (.mk k f h args g j p)=[.i k,.str f,.str h,.o 6 (Ya args),.o 2 (ZE g),.str j,.o 7 (Zp p)]:=rfl
def ziB(x:z6):(cW x).map AV.strip1=cW x:=by rcases x with ⟨a,b,c,⟨⟩⟩;rfl
def Kd(l:List z6):(Yg l).map (·.map AV.strip1)=Yg l:=by rw[Yg,List.map_map];exact List.map_congr_left λf _=>ziB f
def zoB(x:zj):(cS x).length=7:=by cases x;rfl
def bD(x:yv):Nat:=1+x.nm.length+ZC x.args
def We(l:List yv):Nat:=(l.map bD).sum
mutual
def bS:zj->Nat| .mk _ al nm args dirs on sels=>1+al.length+nm.length+on.length+ZC args+We dirs+yR sels
def yR:List zj->Nat
 | []=>0
 | x::r=>bS x+yR r
end
def bW(x:z6):Nat:=x.nm.length+x.t.nm.length+bV x.d
def Wx(l:List z6):Nat:=(l.map bW).sum
def bO(x:Y6):Nat:=1+x.nm.length+Wx x.vars+We x.dirs+yR x.sels
def Ub(l:List Y6):Nat:=(l.map bO).sum
def bF(x:yE):Nat:=1+x.nm.length+x.on.length+We x.dirs+yR x.sels
def XZ(l:List yE):Nat:=(l.map bF).sum
def zt(d:zv):Nat:=Ub d.ops+XZ d.frags
def VO{α:Type}{f:α->Nat}(hf:∀x,1<=f x):∀l:List α,l.length<=(l.map f).sum
 | []=>Nat.zero_le _
 | x::r=>by have:=VO hf r;have:=hf x;simp only[List.map_cons,List.sum_cons,yg];omega
def Sq{α:Type}(f:α->Nat)(a:List α)(x:α)(b:List α):((a++x::b).map f).sum=(a.map f).sum+f x+(b.map f).sum:=vl
def Y3(l:List yv):l.length<=We l:=VO (λx=>by simp only[bD];omega) l
def yr(l:List z6):l.length<=Wx l:=VO (λx=>by have:=RE x.d;simp only[bW];omega) l
def ZJ(l:List Y6):l.length<=Ub l:=VO (λx=>by simp only[bO];omega) l
def yP(l:List yE):l.length<=XZ l:=VO (λx=>by simp only[bF];omega) l
def zos(x:zj):1<=bS x:=by cases x;simp only[bS];omega
def YL:∀l:List zj,l.length<=yR l
 | []=>by simp
 | v::r=>by have:=YL r;have:=zos v;simp only[yR,yg];omega
def VJ(a:List yv)(x:yv)(b:List yv):We (a++x::b)=We a+bD x+We b:=Sq ..
def Vc(a:List z6)(x:z6)(b:List z6):Wx (a++x::b)=Wx a+bW x+Wx b:=Sq ..
def Wc(a:List Y6)(x:Y6)(b:List Y6):Ub (a++x::b)=Ub a+bO x+Ub b:=Sq ..
def RQ(a:List yE)(x:yE)(b:List yE):XZ (a++x::b)=XZ a+bF x+XZ b:=Sq ..
def WM(a:List zj)(x:zj)(b:List zj):yR (a++x::b)=yR a+bS x+yR b:=by
 induction a with
 | nil=>simp[yR]
 | cons g a f=>simp only[L7,yR,f];omega
mutual
def zj.ind{P:zj->Prop}(h:∀k g v j p y f,(∀z∈f,P z)->P (.mk k g v j p y f)):∀z,P z| .mk k g v j p y f=>h k g v j p y f (zj.indL h f)
def zj.indL{P:zj->Prop}(h:∀k j y p v z g,(∀f∈g,P f)->P (.mk k j y p v z g)):∀l:List zj,∀f∈l,P f
 | [],_,hv=>by cases hv
 | x::r,f,hv=>(List.mem_cons.1 hv).elim (λe=>e▸zj.ind h x) (zj.indL h r f)
end
def X9{t:B8}{v:Val}{m:List yU}(h:yU.mk t v∈m):bV v<=ZC m:=by obtain⟨a,b,f⟩:=List.append_of_mem h;have:=Wb a (.mk t v) b;rw[<-f]at this;simp only[bM]at this;omega
def zbo(a b:List yU)(h:ZC a<=ze):zf 157 [.o 6 (Ya a),.o 6 (Ya b)] (.bool (Th a b)) :=zcE a b (by have:=y5 a;omega) λs g f u=>zce g (by have:=X9 f;omega) u
def bk(c:UInt8):Bool:=decide (0<=Lib.indexByte [9,10,13,32] c)
def b0{α:Type}(_:α):Nat:=0
def sm{α:Type}(b:α->Nat)(l:List α):Nat:=(l.map b).sum+l.length
def wfD(x:yv):Prop:=Lz x.args
def zhn(l:List yv):Prop:=∀x∈l,wfD x
mutual
def wfS:zj->Prop| .mk _ _ _ args dirs _ sels=>Lz args/\zhn dirs/\Mm sels
def Mm:List zj->Prop
 | []=>True
 | x::r=>wfS x/\Mm r
end
def zbS:∀ {l:List zj},(∀f∈l,wfS f)->Mm l
 | [],_=>trivial
 | f::r,h=>⟨h f (.head _),zbS λx g=>h x (.tail _ g)⟩
def wfW(x:z6):Prop:=inR x.t.lists/\inR x.t.musts/\wfV x.d
def wfO(x:Y6):Prop:=(∀f∈x.vars,wfW f)/\zhn x.dirs/\Mm x.sels
def wfF(x:yE):Prop:=zhn x.dirs/\Mm x.sels
def O6(d:zv):Prop:=(∀x∈d.ops,wfO x)/\∀x∈d.frags,wfF x
def pk(s:B8):Tok:=⟨1,s⟩
def wk(s:B8):Tok:=⟨2,s⟩
def ZP(dp:Int)(fixed:Bool)(v:Val):Bool:=WU v&&(decide (dp+Yx v<=16)&&(!fixed||decide ((yN v []).length=0)))
def K6(dp:Int)(fixed:Bool):yU->Bool| .mk s v=>zI s&&ZP dp fixed v
def YV(dp:Int)(fixed:Bool)(l:List yU):Bool:=l.all (K6 dp fixed)
def Nz(dp:Int)(fixed:Bool)(d:yv):Bool:=zI d.nm&&YV dp fixed d.args
def Zg(dp:Int)(fixed:Bool)(l:List yv):Bool:=l.all (Nz dp fixed)
mutual
def Zd(dp:Int):zj->Bool
 | .mk k al nm args dirs on sels=>Zg dp false dirs &&
  (if k=0 then zI nm&&((decide (al=[])||zI al)&&(decide (on=[])&&(YV dp false args&&(decide (sels.length=0)||(decide (dp+1<=16)&&Z8 (dp+1) sels)))))
   else if k=1 then zI nm&&(decide (nm≠[111,110])&&(decide (al=[])&&(decide (on=[])&&(decide (args.length=0)&&decide (sels.length=0)))))
   else if k=2 then decide (nm=[])&&(decide (al=[])&&(decide (args.length=0)&&((decide (on=[])||zI on)&&(decide (sels.length≠0)&&(decide (dp+1<=16)&&Z8 (dp+1) sels)))))
   else false)
def Z8(dp:Int):List zj->Bool
 | []=>true
 | x::r=>Zd dp x&&Z8 dp r
end
def yF(dp:Int)(l:List zj):Bool:=decide (l.length≠0)&&(decide (dp<=16)&&Z8 dp l)
def zD(t:X4):Bool:=zI t.nm&&(decide (0<=t.lists)&&(decide (t.lists<=4)&&(decide (0<=t.musts)&&decide (t.musts<2 ^ (t.lists.toNat+1)))))
noncomputable def Vb(has:Bool)(v:Val):Bool:=if has then ZP 0 true v else Th v zV
noncomputable def yx(x:z6):Bool:=zI x.nm&&(zD x.t&&Vb x.has x.d)
noncomputable def Yb(o:Y6):Bool:=(decide (o.k=0)||decide (o.k=1))&&((decide (o.nm=[])||zI o.nm)&&(o.vars.all yx&&(Zg 0 true o.dirs&&yF 1 o.sels)))
def X7(f:yE):Bool:=decide (f.nm≠[111,110])&&(zI f.nm&&(zI f.on&&(Zg 0 true f.dirs&&yF 1 f.sels)))
noncomputable def ZF(d:zv):Bool:=decide (0<d.ops.length+d.frags.length)&&(d.ops.all Yb&&d.frags.all X7)
def zc5(l:List yU):List Tok:=if l.length=0 then []else pk [40]::(V6 l++[pk [41]])
def tD(d:yv):List Tok:=pk [64]::wk d.nm::zc5 d.args
def tDs(l:List yv):List Tok:=l.flatMap tD
mutual
def tS:zj->List Tok| .mk k al nm args dirs on sels=>(if k=0 then (if al=[]then []else [wk al,pk [58]])++(wk nm::zc5 args)else if k=1 then [pk [46,46,46],wk nm]else pk [46,46,46]::(if on=[]then []else [wk [111,110],wk on])) ++ (tDs dirs++(if sels.length=0 then []else pk [123]::(tSl sels++[pk [125]])))
def tSl:List zj->List Tok
 | []=>[]
 | x::r=>tS x++tSl r
end
def tBl(l:List zj):List Tok:=pk [123]::(tSl l++[pk [125]])
def za1(m:Int)(i:Nat):Bool:=decide (m / 2 ^ i % 2=1)
def zkP(n:Nat)(m:Int)(i:Nat):List Tok:=(if i<n then [pk [93]]else [])++(if za1 m i then [pk [33]]else [])
def zhX(n:Nat)(m:Int):Nat->List Tok
 | 0=>zkP n m 0
 | i+1=>zkP n m (i+1)++zhX n m i
def tTy(t:X4):List Tok:=List.replicate t.lists.toNat (pk [91])++(wk t.nm::zhX t.lists.toNat t.musts t.lists.toNat)
def tDf(has:Bool)(v:Val):List Tok:=if has then pk [61]::Vp v else []
def tW(x:z6):List Tok:=pk [36]::wk x.nm::pk [58]::(tTy x.t++tDf x.has x.d)
def tWs(l:List z6):List Tok:=if l.length=0 then []else pk [40]::(l.flatMap tW++[pk [41]])
def tO(o:Y6):List Tok:=wk (if o.k=0 then [113,117,101,114,121]else [109,117,116,97,116,105,111,110])::((if o.nm=[]then []else [wk o.nm])++(tWs o.vars++(tDs o.dirs++tBl o.sels)))
def tF(f:yE):List Tok:=wk [102,114,97,103,109,101,110,116]::wk f.nm::wk [111,110]::wk f.on::(tDs f.dirs++tBl f.sels)
def zry(d:zv):List Tok:=d.ops.flatMap tO++d.frags.flatMap tF
def zfb:∀a b,tSl (a++b)=tSl a++tSl b
 | [],b=>rfl
 | x::a,b=>by simp[tSl,zfb a b]
def Rv(dp:Int):∀a b,Z8 dp (a++b)=(Z8 dp a&&Z8 dp b)
 | [],b=>by simp[Z8]
 | x::a,b=>by simp[Z8,Rv dp a b,WX]
def Kw:∀a b,V6 (a++b)=V6 a++V6 b
 | [],b=>rfl
 | x::a,b=>by simp[V6,Kw a b]
end Go.Proofs.YtcbfcliickppiaaGreatDoor
namespace Go.Proofs.YtcbfcliickppiaaGreatDoor
open Go.Lib
end Go.Proofs.YtcbfcliickppiaaGreatDoor
namespace Go.Proofs.YtcbfcliickppiaaGreatDoor
open Go.Ab
abbrev pl(v:Val):Prop:=ZA zI v=true
inductive Shape:Val->Prop
 | null:Shape (.mk 0 0 [] [] [])
 | bool (n:Int) (h:n=0∨n=1):Shape (.mk 1 n [] [] [])
 | int (n:Int):Shape (.mk 2 n [] [] [])
 | num (s:B8) (h:zbK s=true):Shape (.mk 3 0 s [] [])
 | text (s:B8):Shape (.mk 4 0 s [] [])
 | word (s:B8) (h:LH s=false):Shape (.mk 5 0 s [] [])
 | var (s:B8):Shape (.mk 8 0 s [] [])
 | list (l:List Val) (h:Td zI l=true):Shape (.mk 6 0 [] l [])
 | obj (m:List yU) (h:UX zI m=true):Shape (.mk 7 0 [] [] m)
def UG{n:Int}{s:B8}{l:List Val}{m:List yU}:yK n s l m=true↔n=0/\s=[]/\l=[]/\m=[]:=by simp[yK]
def shape:∀h,pl h->Shape h
 | .mk k n s l m,f=>by
  simp only[pl,ZA]at f;split at f
  ·rename_i j;subst j;simp only[yu,UG]at f;obtain⟨g,rfl,rfl,_,rfl⟩:=f;exact .list l g
  ·split at f
   ·rename_i p;subst p;simp only[yu,UG]at f;obtain⟨g,rfl,rfl,rfl,_⟩:=f;exact .obj m g
   ·simp only[zK,yu,UG]at f;obtain⟨⟨_,_,rfl,rfl⟩,f⟩:=f;split at f
    ·rename_i k0;subst k0;simp only[yu,Zh]at f;obtain⟨rfl,rfl⟩:=f;exact .null
    split at f
    ·rename_i k0;subst k0;simp only[yu,Uz,Zh]at f;obtain⟨f,rfl⟩:=f;exact .bool n f
    split at f
    ·rename_i k0;subst k0;simp only[Zh]at f;subst f;exact .int n
    split at f
    ·rename_i k0;subst k0;simp only[yu,Zh]at f;obtain⟨rfl,f⟩:=f;exact .num s f
    split at f
    ·rename_i k0;subst k0;simp only[yu,Zh]at f;obtain⟨rfl,f⟩:=f;exact .text s
    split at f
    ·rename_i k0;subst k0;simp only[yu,Zh,Bool.not_eq_true']at f;obtain⟨rfl,_,f⟩:=f;exact .word s f
    split at f
    ·rename_i k0;subst k0;simp only[yu,Zh]at f;obtain⟨rfl,_⟩:=f;exact .var s
    ·cases f
open Go.Lib
end Go.Proofs.YtcbfcliickppiaaGreatDoor
namespace Go.Proofs.YtcbfcliickppiaaGreatDoor
open Go.Ab
def Ng{c:UInt8}{n:Nat}(g:n<256)(h:c≠UInt8.ofNat n):¬ ((c.toNat:Int)=n):=λe=>by have f:=Mf c n g;rw[e]at f;simp at f;exact h f
def zib(s:B8)(ak:s.length<=ze):zf 366 [.str s] (.tup [.i (Tx s).1,.i (Tx s).2]):=by
 refine zo ir366 λKP Q ah=>?_;have J:=ak;simp only[ze]at ak;refine xa ?_;refine Sm (λi:Nat=>[(4,.i i)]) (λi H=>(i=if s.head?=some 45 then 1 else 0)/\H=zd.emp) (λY g=>?_) ?_
 ·cases s with
  | nil =>refine xa ?_;exact zJ (g 0 _ ⟨rfl,rfl⟩) xb
  | cons c t =>
   have p:(0:Int)<((t.length+1:Nat):Int):=xg
   by_cases f:c=45
   ·have h':(c.toNat:Int)=45:=wa f
    refine xd p h' ?_;exact zJ (g 1 _ ⟨by rw[f];rfl,rfl⟩) xf
   ·have h':¬ (c.toNat:Int)=45:=Ng (n:=45) xg f;refine xd p h' ?_;exact zJ (g 0 _ ⟨by simp[f],rfl⟩) xb
 rintro i H ⟨hi,rfl⟩;have a9:i<=s.length:=by
  rw[hi];split
  ·rename_i f;cases s<;>simp_all
  ·omega
 have al:Zq s=if Zw (s.drop i)=0 then 0 else i+VX (s.drop i):=by
  unfold Zq;rw[hi];split
  ·cases s<;>simp_all
  ·simp only[List.drop_zero,Nat.zero_add];split
   ·rename_i f;simp[VX,f]
   ·rfl
 have ay:=Ws (s.drop i);rw[T1]at ay;refine xh (zkz s i xg xg J) ?_;rw[Int.toNat_natCast];by_cases y:Zw (s.drop i)=0
 ·have a4:Zq s=0:=by rw[al,if_pos y]
  refine xc y ?_;exact ah rfl (by simp[Tx,a4])
 have am:¬ ((Zw (s.drop i):Int)=0):=xg
 rw[if_neg y]at al;refine xc am ?_;have h:(i:Int)<s.length:=xg
 refine Sm (λk:Nat=>[(5,.i k)]) (λk H=>k=VX (s.drop i)/\H=zd.emp) (λY g=>?_) ?_
 ·rcases WQ s i with ⟨v,j⟩|⟨v,j⟩
  ·rw[v]at y;exact absurd rfl y
  have ai:(s.drop i).getD 0 0=s.getD i 0:=wa j
  by_cases f:s.getD i 0=48
  ·have h':((s.getD i 0).toNat:Int)=48:=wa f
   refine xd h h' ?_;exact zJ (g 1 _ ⟨by unfold VX;rw[if_neg y,ai,if_pos f],rfl⟩) xb
  ·have h':¬ ((s.getD i 0).toNat:Int)=48:=Ng (n:=48) xg f;refine xd h h' ?_;exact zJ (g (Zw (s.drop i)) _ ⟨by unfold VX;rw[if_neg y,ai,if_neg f],rfl⟩) xb
 rintro k H ⟨ab,rfl⟩;subst ab;have aj:Zq s≠0:=by have:=ziX y;omega
 have a5:=Ko s;have aa:(i:Int)+(VX (s.drop i):Int)=Zq s:=xg
 have ad:Tx s=(Zq s+XD (s.drop (Zq s))+Uv (s.drop (Zq s+XD (s.drop (Zq s)))),if XD (s.drop (Zq s))=0/\Uv (s.drop (Zq s+XD (s.drop (Zq s))))=0 then 3 else 4):=by unfold Tx;rw[if_neg aj]
 generalize Zq s=n at aj a5 aa ad;refine xB aa ?_;refine Sm (λx:Nat×Int=>[(4,.i x.1),(6,.i x.2)]) (λx H=>x=(n+XD (s.drop n),if XD (s.drop n)=0 then 3 else 4)/\H=zd.emp) (λY g=>?_) ?_
 ·refine xB aa ?_;rcases WQ s n with ⟨v,j⟩|⟨v,j⟩
  ·have h:¬ (n:Int)<s.length:=xg
   have hf:XD (s.drop n)=0:=by simp[XD,v]
   refine xc h ?_;exact zJ (g (n,3) _ ⟨by simp[hf],rfl⟩) xb
  ·have h:(n:Int)<s.length:=xg
   by_cases f:s.getD n 0=46
   ·have C:((n:Int)+1).toNat=n+1:=xg
    have K:((s.getD n 0).toNat:Int)=46:=wa f
    simp(disch:=omega) only[h,K,wrap64,go_sem];refine za (zkz s (n+1) xg xg J) ?_;rw[C];have az:=Ws (s.drop (n+1));rw[T1]at az;by_cases I:0<Zw (s.drop (n+1))
    ·have hf:XD (s.drop n)=1+Zw (s.drop (n+1)):=by rw[j,f];simp only[XD,List.head?_cons,List.tail_cons,true_and];rw[if_pos I]
     have A:(0:Int)<Zw (s.drop (n+1)):=xg
     refine xB A ?_;refine za (zkz s (n+1) xg xg J) ?_;rw[C];refine xq ?_;exact zJ (g (n+1+Zw (s.drop (n+1)),4) _ ⟨by rw[hf];simp;omega,rfl⟩) wy
    ·have hf:XD (s.drop n)=0:=by rw[j,f];simp only[XD,List.head?_cons,List.tail_cons,true_and];rw[if_neg I]
     have A:¬ (0:Int)<Zw (s.drop (n+1)):=xg
     refine xc A ?_;exact zJ (g (n,3) _ ⟨by simp[hf],rfl⟩) xb
   ·have h':¬ ((s.getD n 0).toNat:Int)=46:=Ng (n:=46) xg f;have hf:XD (s.drop n)=0:=by rw[j];simp only[XD,List.head?_cons,Y1];rw[if_neg (λe=>f e.1)]
    refine xd h h' ?_;exact zJ (g (n,3) _ ⟨by simp[hf],rfl⟩) xb
 rintro⟨m,k⟩ H ⟨L,rfl⟩;simp only[Al8]at L;obtain⟨aw,ab⟩:=L;have ba:m<=s.length:=by have:=zjC (s.drop n);rw[T1]at this;omega
 rw[<-aw]at ad;refine xa ?_;refine Sm (λx:Nat×Int=>[(4,.i x.1),(6,.i x.2)]) (λx H=>x=(m+Uv (s.drop m),if Uv (s.drop m)=0 then k else 4)/\H=zd.emp) (λY g=>?_) ?_
 ·rcases WQ s m with ⟨v,j⟩|⟨v,j⟩
  ·have h:¬ (m:Int)<s.length:=xg
   have p:Uv (s.drop m)=0:=wa v
   refine xc h ?_;exact zJ (g (m,k) _ ⟨by simp[p],rfl⟩) xb
  ·have h:(m:Int)<s.length:=xg
   obtain⟨c,W⟩:∃c,s.getD m 0=c:=⟨_,rfl⟩;rw[W]at j;by_cases f:isE c=true
   ·have ar:c=101∨c=69:=by simpa[isE]using f
    have p:Uv (s.drop m)=if Zw (s.drop (m+1+sgN (s.drop (m+1))))=0 then 0 else 1+sgN (s.drop (m+1))+Zw (s.drop (m+1+sgN (s.drop (m+1)))):=by rw[j];simp only[Uv,f,if_true,List.drop_drop]
    have C:((m:Int)+1).toNat=m+1:=xg
    have ac:(0:Int)<=(m:Int)+1:=xg
    have a1:=zel (s.drop (m+1));rw[T1]at a1;rcases ar with Z|Z
    case' inl =>
     have K:(c.toNat:Int)=101:=wa Z
     simp(disch:=omega) only[h,W,K,wrap64,go_sem]
    case' inr =>
     have K:(c.toNat:Int)=69:=wa Z
     have a2:¬ (69:Int)=101:=xg
     simp(disch:=omega) only[h,W,K,a2,wrap64,go_sem]
    all_goals
     refine Sm (λq:Nat=>[(7,.i q)]) (λq H=>q=m+1+sgN (s.drop (m+1))/\H=zd.emp) (λa8 U=>?_) ?_
     ·rcases WQ s (m+1)with ⟨ag,G⟩|⟨ag,G⟩
      ·have z:¬ ((m:Int)+1<s.length):=xg
       refine xB z ?_;exact zJ (U (m+1) _ ⟨by rw[ag];rfl,rfl⟩) wy
      ·have z:(m:Int)+1<s.length:=xg
       obtain⟨d,X⟩:∃d,s.getD (m+1) 0=d:=⟨_,rfl⟩;rw[X]at G;by_cases M:d=43
       ·have ae:(d.toNat:Int)=43:=wa M
        simp(disch:=omega) only[wrap64,z,C,ac,X,ae,go_sem];exact zJ (U (m+1+1) _ ⟨by rw[G,M];rfl,rfl⟩) wy
       ·have ae:¬ (d.toNat:Int)=43:=Ng (n:=43) xg M;by_cases O:d=45
        ·have af:(d.toNat:Int)=45:=wa O
         have a3:¬ (45:Int)=43:=xg
         simp(disch:=omega) only[wrap64,z,C,ac,X,af,a3,go_sem];exact zJ (U (m+1+1) _ ⟨by rw[G,O];rfl,rfl⟩) wy
        ·have af:¬ (d.toNat:Int)=45:=Ng (n:=45) xg O;simp(disch:=omega) only[wrap64,z,C,ac,X,ae,af,go_sem];exact zJ (U (m+1) _ ⟨by rw[G];simp[sgN,M,O],rfl⟩) wy
     rintro q H ⟨z,rfl⟩;rw[<-z]at p;have bc:q<=s.length:=xg
     refine xh (zkz s q xg xg J) ?_;rw[Int.toNat_natCast];have a0:=Ws (s.drop q);rw[T1]at a0;by_cases I:Zw (s.drop q)=0
     ·have A:¬ (0:Int)<Zw (s.drop q):=xg
      rw[if_pos I]at p;refine xc A ?_;exact zJ (g (m,k) _ ⟨by simp[p],rfl⟩) xb
     ·have A:(0:Int)<Zw (s.drop q):=xg
      rw[if_neg I]at p;refine xt A (zkz s q xg xg J) ?_;rw[Int.toNat_natCast];refine xq ?_;exact zJ (g (q+Zw (s.drop q),4) _ ⟨by rw[p];simp;omega,rfl⟩) (by simp(disch:=omega) only[Int.natCast_add,go_sem])
   ·have an:c≠101:=λe=>f (by simp[isE,e]);have ap:c≠69:=λe=>f (by simp[isE,e]);have p:Uv (s.drop m)=0:=by rw[j];simp[Uv,f]
    have ao:¬ (c.toNat:Int)=101:=Ng (n:=101) xg an;have aq:¬ (c.toNat:Int)=69:=Ng (n:=69) xg ap;refine xk h W ao aq ?_;exact zJ (g (m,k) _ ⟨by simp[p],rfl⟩) xb
 rintro⟨a7,a6⟩ H ⟨L,rfl⟩;simp only[Al8]at L;obtain⟨ax,av⟩:=L;have au:Tx s=(a7,a6):=by rw[ad,ax,av,ab];by_cases a:XD (s.drop n)=0<;>by_cases b:Uv (s.drop m)=0<;>simp[a,b]
 exact vn ah au
def zmy(s:B8)(h:s.length<=ze):zf 331 [.str s] (.i (V8 s)):=by
 refine zo ir331 λKP Q g=>?_;refine xh (zib s h) ?_;by_cases f:(Tx s).1=s.length
 ·have h':((Tx s).1:Int)=s.length:=xg
  refine xc h' ?_;exact g rfl (by simp[V8,f])
 ·have h':¬ ((Tx s).1:Int)=s.length:=xg
  refine xc h' ?_;exact g rfl (by simp[V8,f])
def dg(c:UInt8):Int:=IntKind.u8.wrap ((c.toNat:Int)-48)
def zrB(c:UInt8):0<=dg c/\dg c<=255:=by unfold dg IntKind.wrap;simp[IntKind.signed,IntKind.bits];omega
def zhJ{c:UInt8}(h:NG c=true):dg c=(c.toNat:Int)-48:=by simp only[NG,yu,Zh]at h;unfold dg IntKind.wrap;simp[IntKind.signed,IntKind.bits];omega
def QP:B8->Int->Option Int
 | [],a=>some a
 | c::r,a=>if a<Int.tdiv (-9223372036854775808+dg c) 10 then none else QP r (10*a-dg c)
def step_ok{a d:Int}(f:0<=d)(g:d<=255)(j:-9223372036854775808<=a)(p:a<=0)(h:¬ a<Int.tdiv (-9223372036854775808+d) 10):-9223372036854775808<=10*a-d/\10*a-d<=0:=by
 have e:Int.tdiv (-9223372036854775808+d) 10=-((9223372036854775808-d) / 10):=by rw[show (-9223372036854775808+d)=-(9223372036854775808-d) by omega,Int.neg_tdiv,Int.tdiv_eq_ediv_of_nonneg xg]
 rw[e]at h;omega
def LG(s:B8):Int×Bool :=
 if s.head?=some 45 then (match QP s.tail 0 with|some a=>(a,true)|none=>(0,false))
 else (match QP s 0 with|some a=>if a=-9223372036854775808 then (0,false)else (-a,true)|none=>(0,false))
def zo5(s:B8)(Z:s.length<=ze):zf 332 [.str s] (.tup [.i (LG s).1,.bool (LG s).2]):=by
 refine zo ir332 λKP Q y=>?_;simp only[ze]at Z;refine xa ?_;refine Sm (λx:Nat×Bool=>[(4,.i x.1),(5,.bool x.2)]) (λx H=>x=(if s.head?=some 45 then (1,true)else (0,false))/\H=zd.emp) (λW v=>?_) ?_
 ·cases s with
  | nil =>refine xa ?_;exact zJ (v (0,false) _ ⟨rfl,rfl⟩) xb
  | cons c t =>
   have U:(0:Int)<((t.length+1:Nat):Int):=xg
   by_cases f:c=45
   ·have h':(c.toNat:Int)=45:=wa f
    refine xd U h' ?_;exact zJ (v (1,true) _ ⟨by rw[f];rfl,rfl⟩) xb
   ·have h':¬ (c.toNat:Int)=45:=Ng (n:=45) xg f;refine xd U h' ?_;exact zJ (v (0,false) _ ⟨by simp[f],rfl⟩) xb
 rintro⟨A,neg⟩ H ⟨p,rfl⟩;have Y:A<=s.length:=by
  split at p
  ·rename_i f;cases s with
   | nil=>simp at f
   | cons c t=>cases p;simp
  ·cases p;omega
 have h:LG s=if neg then (match QP (s.drop A) 0 with|some a=>(a,true)|none=>(0,false))else (match QP (s.drop A) 0 with|some a=>if a=-9223372036854775808 then (0,false)else (-a,true)|none=>(0,false)):=by
  unfold LG;split at p
  ·rename_i f;cases p;rw[if_pos f];simp
  ·rename_i f;cases p;rw[if_neg f];simp
 refine xa ?_;refine ZZ (λx:Nat×Int=>[(4,.i x.1),(6,.i x.2)]) (λx H=>QP (s.drop x.1) x.2=QP (s.drop A) 0/\x.1<=s.length/\(-9223372036854775808<=x.2/\x.2<=0)) (λx=>s.length-x.1) (A,0) xb ⟨rfl,Y,by omega,by omega⟩ ?_;rintro⟨n,a⟩ H W ⟨g,X,K,L⟩ v;simp only at g X K L;rcases WQ s n with ⟨J,G⟩|⟨J,G⟩
 ·have j:¬ (n:Int)<s.length:=xg
  rw[J]at g;simp only[QP]at g;rw[<-g]at h;cases neg with
  | true =>exact vo j y h
  | false =>
   by_cases C:a=-9223372036854775808
   ·exact vp j C y h C
   ·simp(disch:=omega) only[j,C,wrap64,go_sem];exact xz y h C
 ·have j:(n:Int)<s.length:=xg
  obtain⟨c,I⟩:∃c,s.getD n 0=c:=⟨_,rfl⟩;rw[I]at G;rw[G]at g;simp only[QP]at g;have M:=zrB c;have O:IntKind.u8.wrap ((c.toNat:Int)-48)=dg c:=rfl;have ab:Int.tdiv (-9223372036854775808+dg c) 10=-((9223372036854775808-dg c) / 10):=by rw[show (-9223372036854775808+dg c)=-(9223372036854775808-dg c) by omega,Int.neg_tdiv,Int.tdiv_eq_ediv_of_nonneg xg]
  by_cases z:a<Int.tdiv (-9223372036854775808+dg c) 10
  ·rw[if_pos z]at g;rw[<-g]at h;refine ww j I O z ?_;cases neg with
   | true=>exact xj y h
   | false=>exact xj y h
  ·have aa:=step_ok M.1 M.2 K L z;rw[if_neg z]at g;refine ww j I O z ?_;exact zJ (v (n+1,10*a-dg c) _ wP ⟨g,by simp only;omega,aa⟩) wy
def Nv(f:Nat)(l:B8):Nat:=l.foldl (λa c=>a*10+(c.toNat-48)) f
def MW(f:Nat):Nv f []=f:=by unfold Nv;rw[List.foldl_nil]
def Og(f:Nat)(c:UInt8)(r:B8):Nv f (c::r)=Nv (f*10+(c.toNat-48)) r:=by unfold Nv;rw[List.foldl_cons]
def zhp(c:UInt8)(r:B8)(a:Int):QP (c::r) a=if a<Int.tdiv (-9223372036854775808+dg c) 10 then none else QP r (10*a-dg c):=by rw[QP]
def zaQ:∀(r:B8) (f:Nat),f<=Nv f r
 | [],f=>by rw[MW];exact ZG _
 | c::r,f=>by have:=zaQ r (f*10+(c.toNat-48));rw[Og];omega
def Re:∀(r:B8) (f:Nat),(∀c∈r,NG c=true)->f<=9223372036854775808->QP r (-(f:Int))=if Nv f r<=9223372036854775808 then some (-(Nv f r:Int))else none
 | [],f,_,h=>by rw[MW,if_pos h];rfl
 | c::r,f,hd,h=>by
  have j:=hd c xw;have z:=zhJ j;simp only[NG,yu,Zh]at j;have v:Int.tdiv (-9223372036854775808+dg c) 10=-((9223372036854775808-dg c) / 10):=by rw[show (-9223372036854775808+dg c)=-(9223372036854775808-dg c) by omega,Int.neg_tdiv,Int.tdiv_eq_ediv_of_nonneg xg]
  have y:=zaQ r (f*10+(c.toNat-48));rw[zhp,Og];by_cases g:-(f:Int)<Int.tdiv (-9223372036854775808+dg c) 10
  ·rw[if_pos g,if_neg xg]
  ·rw[if_neg g];have e:10*-(f:Int)-dg c=-((f*10+(c.toNat-48):Nat):Int):=xg
   rw[e];exact Re r _ (λx p=>hd x (xr p)) xg
def St:∀(r:B8) (f:Nat),(∀c∈r,NG c=true)->f<18446744073709551616->Lib.parseUint10 f r=if Nv f r<18446744073709551616 then .ok (Nv f r)else .range
 | [],f,_,h=>by rw[MW,if_pos h];rfl
 | c::r,f,hd,h=>by
  have p:=hd c xw;simp only[NG,yu,Zh]at p;have y:=zaQ r (f*10+(c.toNat-48));rw[Og];simp only[Lib.parseUint10];rw[if_pos p];by_cases g:1844674407370955162<=f
  ·rw[if_pos g,if_neg xg]
  ·rw[if_neg g];by_cases j:18446744073709551616<=f*10+(c.toNat-48)
   ·rw[if_pos j,if_neg xg]
   ·rw[if_neg j];exact St r _ (λx v=>hd x (xr v)) xg
def Ok:∀l:B8,Zw l=l.length->∀c∈l,NG c=true
 | [],_,c,hc=>by cases hc
 | x::r,h,c,hc=>by
  simp only[Zw,yg]at h;split at h
  ·rename_i f;rcases List.mem_cons.1 hc with e|e
   ·subst e;exact f
   ·exact Ok r xg c e
  ·omega
def KG{l:B8}(h:VX l=l.length)(f:Zw l≠0):∀c∈l,NG c=true:=by
 unfold VX at h;rw[if_neg f]at h;split at h
 ·apply Ok;have:=Ws l;omega
 ·exact Ok l h
def zdA(t:B8):Zq (45::t)=if Zw t=0 then 0 else 1+VX t:=by unfold Zq;exact if_pos rfl
def zdu{s:B8}(h:¬ s.head?=some 45):Zq s=VX s:=by unfold Zq;exact if_neg h
def zsR{s:B8}(h:V8 s=3):(∃t,s=45::t/\t≠[]/\∀c∈t,NG c=true)∨(∃c t,s=c::t/\∀x∈s,NG x=true):=by
 unfold V8 at h;split at h
 ·rename_i f;unfold Tx at h f;split at h
  ·simp at h
  ·rename_i j;rw[if_neg j]at f;simp only at h f;split at h
   ·rename_i v;rw[v.2,v.1]at f;simp only[Nat.add_zero]at f;by_cases p:s.head?=some 45
    ·cases s with
     | nil=>simp at p
     | cons c t =>
      have y:c=45:=xy p
      subst y;rw[zdA]at f j;by_cases g:Zw t=0
      ·rw[if_pos g]at j;omega
      ·rw[if_neg g]at f;refine .inl ⟨t,rfl,?_,KG (by simp only[yg]at f;omega) g⟩;intro e;subst e;exact g rfl
    ·rw[zdu p]at f j;have g:Zw s≠0:=λe=>j (by simp[VX,e]);cases s with
     | nil=>exact absurd rfl g
     | cons c t=>exact .inr ⟨c,t,rfl,KG f g⟩
   ·omega
 ·omega
def zjW(t:B8):LG (45::t)=match QP t 0 with|some a=>(a,true)|none=>(0,false):=by unfold LG;exact if_pos rfl
def zid{c:UInt8}(t:B8)(h:c≠45):LG (c::t)=match QP (c::t) 0 with|some a=>if a=-9223372036854775808 then (0,false)else (-a,true)|none=>(0,false):=by unfold LG;exact if_neg (λe=>h (xy e))
def zp5{s:B8}(h:V8 s=3):(LG s).2=okI (Lib.parseIntB 64 s):=by
 rw[Lib.parseIntB_64];rcases zsR h with ⟨t,rfl,y,f⟩|⟨c,t,rfl,f⟩
 ·have g:=Re t 0 f xg;have j:=St t 0 f xg;simp only[Int.natCast_zero,Int.neg_zero]at g;rw[Lib.atoiAll_minus,zjW,g];unfold Lib.parseMag;rw[if_neg y,j];generalize Nv 0 t=V;by_cases a:V<=9223372036854775808
  ·rw[if_pos a,if_pos xg];simp only[Lib.signed];rw[if_neg xg];rfl
  ·rw[if_neg a];by_cases b:V<18446744073709551616
   ·rw[if_pos b];simp only[Lib.signed];rw[if_pos xg];rfl
   ·rw[if_neg b];rfl
 ·have g:=Re (c::t) 0 f xg;have j:=St (c::t) 0 f xg;have p:=f c xw;simp only[NG,yu,Zh]at p;have v:c≠45:=λe=>by subst e;simp at p
  simp only[Int.natCast_zero,Int.neg_zero]at g;rw[Lib.atoiAll_plain c t xg xg,zid t v,g];unfold Lib.parseMag;rw[if_neg (List.cons_ne_nil c t),j];generalize Nv 0 (c::t)=V;by_cases a:V<=9223372036854775808
  ·rw[if_pos a,if_pos xg];simp only[Lib.signless];by_cases b:V=9223372036854775808
   ·rw[if_pos xg,if_pos xg];rfl
   ·rw[if_neg xg,if_neg xg];rfl
  ·rw[if_neg a];by_cases b:V<18446744073709551616
   ·rw[if_pos b];simp only[Lib.signless];rw[if_pos xg];rfl
   ·rw[if_neg b];rfl
def zea(s:B8):(decide (s≠[])&&(decide (V8 s≠0)&&(decide (V8 s=4)||!(LG s).2)))=zbK s:=by
 unfold zbK Ol;by_cases g:V8 s=4
 ·have h:s≠[]:=λe=>by subst e;revert g;decide
  simp[g,h]
 ·by_cases f:V8 s=3
  ·have h:s≠[]:=λe=>by subst e;revert f;decide
   simp[f,h,zp5 f]
  ·have j:V8 s=0:=by
    unfold V8 at *
    unfold Tx at *
    by_cases a:Zq s=0
    ·simp[a]
    ·simp only[a,if_false]at *
     split
     ·rename_i e;rw[if_pos e]at f g;split at f<;>simp_all
     ·rfl
   simp[f,g,j]
open Go.Lib
end Go.Proofs.YtcbfcliickppiaaGreatDoor
namespace Go.Proofs.YtcbfcliickppiaaGreatDoor
open Go.Ab
def zdb:∀ {l:List zj},Mm l->∀f∈l,wfS f| _::_,h,f,hv=>(List.mem_cons.1 hv).elim (λe=>e▸h.1) (zdb h.2 f)
structure Yv where
 nm:B8
 ps:List z6
 t:X4
 dirs:List yv
structure yX where
 k:Int
 nm:B8
 faces:B9
 flds:List Yv
 parts:B9
 ps:List z6
structure zg where
 defs:List yX
 q:B8
 m:B8
def cL(x:Yv):List AV:=[.str x.nm,.o 10 (Yg x.ps),.str x.t.nm,.i x.t.lists,.i x.t.musts,.o 2 (ZE x.dirs)]
def TK(l:List Yv):List (List AV):=l.map cL
def cE(x:yX):List AV:=[.i x.k,.str x.nm,.o 1 (cT x.faces),.o 6 (TK x.flds),.o 1 (cT x.parts),.o 10 (Yg x.ps)]
def Vd(l:List yX):List (List AV):=l.map cE
def zk(s:zg):List AV:=[.o 6 (Vd s.defs),.str s.q,.str s.m]
def UN(s:zg):zk s=[.o 6 (Vd s.defs),.str s.q,.str s.m]:=rfl
def YM(l:List Yv):(TK l).length=l.length:=by simp[TK]
def YX(l:List yX):(Vd l).length=l.length:=by simp[Vd]
def XS{l a:List Yv}{x:Yv}{b:List Yv}(h:l=a++x::b):(TK l).getD a.length []=cL x:=Z2 h
def Xc{l a:List yX}{x:yX}{b:List yX}(h:l=a++x::b):(Vd l).getD a.length []=cE x:=Z2 h
def YG(g:B8)(h:List z6)(p:B8)(tl j:Int)(f:List yv):cL ⟨g,h,⟨p,tl,j⟩,f⟩=[.str g,.o 10 (Yg h),.str p,.i tl,.i j,.o 2 (ZE f)]:=rfl
def zS(k:Int)(g:B8)(f:B9)(flds:List Yv)(h:B9)(j:List z6):cE ⟨k,g,f,flds,h,j⟩=[.i k,.str g,.o 1 (cT f),.o 6 (TK flds),.o 1 (cT h),.o 10 (Yg j)]:=rfl
def bT(l:B9):Nat:=(l.map λs=>1+s.length).sum
def bL(x:Yv):Nat:=1+x.nm.length+Wx x.ps+x.t.nm.length+We x.dirs
def NC(l:List Yv):Nat:=(l.map bL).sum
def bE(x:yX):Nat:=1+x.nm.length+bT x.faces+NC x.flds+bT x.parts+Wx x.ps
def bEs(l:List yX):Nat:=(l.map bE).sum
def zA(s:zg):Nat:=bEs s.defs+s.q.length+s.m.length
def ZN(l:B9):l.length<=bT l:=VO (λx=>by omega) l
def YH(l:List Yv):l.length<=NC l:=VO (λx=>by simp only[bL];omega) l
def VP(l:List yX):l.length<=bEs l:=VO (λx=>by simp only[bE];omega) l
def K7(a:B9)(x:B8)(b:B9):bT (a++x::b)=bT a+(1+x.length)+bT b:=Sq ..
def PM(a:List Yv)(x:Yv)(b:List Yv):NC (a++x::b)=NC a+bL x+NC b:=Sq ..
def P1(a:List yX)(x:yX)(b:List yX):bEs (a++x::b)=bEs a+bE x+bEs b:=Sq ..
def wfL(x:Yv):Prop:=(∀f∈x.ps,wfW f)/\inR x.t.lists/\inR x.t.musts/\zhn x.dirs
def wfE(x:yX):Prop:=(∀f∈x.flds,wfL f)/\∀f∈x.ps,wfW f
def SM(s:zg):Prop:=∀x∈s.defs,wfE x
def tPa(x:z6):List Tok:=wk x.nm::pk [58]::(tTy x.t++tDf x.has x.d)
def tPb(l:List z6):List Tok:=if l.length=0 then []else pk [40]::(l.flatMap tPa++[pk [41]])
def tL(x:Yv):List Tok:=wk x.nm::(tPb x.ps++pk [58]::(tTy x.t++tDs x.dirs))
def tNs(m:B8):B9->List Tok
 | []=>[]
 | s::r=>wk s::r.flatMap λs=>[pk m,wk s]
def tE(x:yX):List Tok :=
 if x.k=1∨x.k=2 then wk (if x.k=1 then [116,121,112,101]else [105,110,116,101,114,102,97,99,101])::wk x.nm::((if x.faces.length=0 then []else wk [105,109,112,108,101,109,101,110,116,115]::tNs [38] x.faces)++(pk [123]::(x.flds.flatMap tL++[pk [125]])))
 else if x.k=3 then wk [117,110,105,111,110]::wk x.nm::pk [61]::tNs [124] x.parts
 else if x.k=4 then wk [101,110,117,109]::wk x.nm::pk [123]::(x.parts.map wk++[pk [125]])
 else wk [105,110,112,117,116]::wk x.nm::pk [123]::(x.ps.flatMap tPa++[pk [125]])
def tRt(q m:B8):List Tok:=wk [115,99,104,101,109,97]::pk [123]::wk [113,117,101,114,121]::pk [58]::wk q::((if m=[]then []else [wk [109,117,116,97,116,105,111,110],pk [58],wk m])++[pk [125]])
noncomputable def X6(x:Yv):Bool:=zI x.nm&&(x.ps.all yx&&(zD x.t&&Zg 0 true x.dirs))
def SJ(s:B8):Bool:=decide (s≠[116,114,117,101])&&(decide (s≠[102,97,108,115,101])&&decide (s≠[110,117,108,108]))
noncomputable def Yd(x:yX):Bool :=
 zI x.nm&&(if x.k=1∨x.k=2 then x.faces.all zI&&(x.flds.all X6&&(decide (x.flds.length≠0)&&(decide (x.parts.length=0)&&decide (x.ps.length=0))))
 else if x.k=3 then x.parts.all zI&&(decide (x.parts.length≠0)&&(decide (x.faces.length=0)&&(decide (x.flds.length=0)&&decide (x.ps.length=0))))
 else if x.k=4 then (x.parts.all zI&&x.parts.all SJ)&&(decide (x.parts.length≠0)&&(decide (x.faces.length=0)&&(decide (x.flds.length=0)&&decide (x.ps.length=0))))
 else if x.k=5 then x.ps.all yx&&(decide (x.ps.length≠0)&&(decide (x.faces.length=0)&&(decide (x.flds.length=0)&&decide (x.parts.length=0))))
 else false)
noncomputable def Xr(s:zg):Bool:=s.defs.all Yd&&(zI s.q&&(decide (s.m=[])||zI s.m))
def Tg{α:Type}(p:α->Bool):List α->Int->Int
 | [],_=>-1
 | x::r,i=>if p x=true then i else Tg p r (i+1)
abbrev At(r:AV)(H:zd):Tf->zd->Prop:=λe H'=>∃v,e=.ret v/\v=r/\H'=H
def zdc{α:Type}(p:α->Bool):∀(l:List α) (i:Int),0<=i->decide (0<=Tg p l i)=l.any p
 | [],i,_=>by simp[Tg]
 | x::r,i,hi=>by
  by_cases f:p x=true
  ·simp[Tg,f];omega
  ·simp only[Tg,f,if_false,List.any_cons,Bool.false_or];exact zdc p r (i+1) xg
def VB{α:Type}(p:α->Bool):∀(l:List α) (i:Int),(∃a x r,l=a++x::r/\p x=true/\l.find? p=some x/\Tg p l i=i+a.length)∨(l.find? p=none/\Tg p l i=-1)
 | [],i=>.inr ⟨rfl,rfl⟩
 | x::l,i=>by
  by_cases f:p x=true
  ·exact .inl ⟨[],x,l,rfl,f,by simp[f],by simp[Tg,f]⟩
  ·rcases VB p l (i+1)with ⟨a,y,r,g,h,j,v⟩|⟨g,h⟩
   ·exact .inl ⟨x::a,y,r,by simp[g],h,by simp[f,j],by simp[Tg,f,v];omega⟩
   ·exact .inr ⟨by simp[f,g],by simp[Tg,f,h]⟩
def ixF(sz:Nat)(f:Bool):AFn:=⟨19,2,[.t 4],.seq (.reg [] [⟨some 4,none,.mv (.k (.i 0)),[]⟩])
 (.seq (.seq (.reg [] [⟨some 6,none,.mv (.t 0),[]⟩,⟨some 7,none,.len (.t 6),[]⟩,⟨some 8,none,.mv (.k (.i 0)),[]⟩])
 (.block 0 (.loop [0,1,7,8] (.seq (.reg [] [⟨some 9,none,.bi .lss .i64 (.t 8) (.t 7),[]⟩])
  (.seq (.cond (.t 9) (.skip) (.exit 0))
  (.seq (.block 1 (.seq (.reg [] [⟨some 10,none,.mv (.t 8),[]⟩,⟨some 5,none,.mv (.t 10),[]⟩])
   (.seq (.reg [] [⟨some 11,none,.mv (.t 1),[]⟩,⟨some 12,none,.mv (.t 0),[]⟩,⟨some 13,none,.mv (.t 5),[]⟩,⟨some 14,none,.ia sz (.t 12) (.t 13),[]⟩,⟨some 15,none,.ld sz f (.t 14),[]⟩,⟨some 16,none,.callv (.t 11) [(.t 15)],[]⟩])
   (.cond (.t 16) (.seq (.reg [] [⟨some 17,none,.mv (.t 5),[]⟩,⟨some 4,none,.mv (.t 17),[]⟩]) (.ret)) (.skip)))))
  (.reg [] [⟨some 18,none,.bi .add .i64 (.t 8) (.k (.i 1)),[]⟩,⟨some 8,none,.mv (.t 18),[]⟩])))))))
 (.seq (.reg [] [⟨some 4,none,.mv (.k (.i (-1))),[]⟩])
 (.ret)))⟩
def ctF(g:FuncId):AFn:=⟨9,2,[.t 4],.seq (.reg [] [⟨some 4,none,.mv (.k (.bool false)),[]⟩])
 (.seq (.reg [] [⟨some 5,none,.mv (.t 0),[]⟩,⟨some 6,none,.mv (.t 1),[]⟩,⟨some 7,none,.call g [(.t 5),(.t 6)],[]⟩,⟨some 8,none,.bi .geq .i64 (.t 7) (.k (.i 0)),[]⟩,⟨some 4,none,.mv (.t 8),[]⟩])
 (.ret))⟩
def Vh{P:Program}{f:FuncId}{args:List AV}{r:AV}(h:zY P f args zd.emp (At r zd.emp)):Zk P f args r:=h.mono λe H' ⟨v,g,j,p⟩=>by subst j;exact⟨g,p⟩
def Wi{P:Program}{f:FuncId}{args:List AV}{r:AV}(h:Zk P f args r)(H:zd):zY P f args H (At r H) :=
 (h.use (K:=λg H'=>g=r/\H'=H) (KP:=λ_ _=>False) ⟨rfl,rfl⟩).mono λe H' j=>by
  cases e with
  | ret g=>exact⟨g,rfl,j.1,j.2⟩
  | pan g=>exact j.elim
abbrev ByH{α:Type}(l:List α)(v:α->AV)(f:FuncId)(caps:List AV)(p:α->Bool)(H:zd):Prop:=∀x∈l,zZ f (v x::caps) H (At (.bool (p x)) H)
abbrev ByP{α:Type}(l:List α)(v:α->AV)(f:FuncId)(caps:List AV)(p:α->Bool):Prop:=∀x∈l,zf f (v x::caps) (.bool (p x))
def WZ{α:Type}{sz:Nat}{y:Bool}{g:FuncId}(X:Rp Tryz.prog g (ixF sz y)=true)(c:α->List AV)(v:α->AV)(K:∀x,(c x).length=sz)(ab:∀x,mk y (c x)=v x)(l:List α)(f:FuncId)(G:List AV)(p:α->Bool)(H:zd)(Z:l.length<=ze)(hf:Program.callable Tryz.prog f=true)(W:ByH l v f G p H):
  zZ g [.o sz (l.map c),.clo f [] G] H (At (.i (Tg p l 0)) H):=by
 refine zY.go (ixF sz y) X (ZG _) λKP Q I=>?_;have A:(l.map c).length=l.length:=List.length_map ..;simp only[ze]at Z;simp(disch:=omega) only[ixF,A,go_sem];refine zc l 8 (λ_:Unit=>[]) (λz L n M=>Tg p L z.length=Tg p l 0/\M=H) () xb ⟨by simp,rfl⟩ ?_ ?_
 ·rintro n _ O ⟨h,rfl⟩ C;simp only[Tg]at h;refine xd A C ?_;exact I _ _ _ _ _ nofun rfl (yT.refl _) ⟨by simp[<-h],rfl⟩
 ·rintro z x L n _ O J C _ ⟨h,rfl⟩ U;have Y:(l.map c).getD z.length []=c x:=Z2 J;have aa:List.take sz (c x)=c x:=List.take_of_length_le (by rw[K x];exact ZG _);have ac:=ab x;simp(disch:=omega) only[A,C,Y,K x,aa,ZG,ac,yf,steps,st2,Yy,rev,X8,Z9,Yi,YO,YP,bound,Zc,WJ,yf,AV.cells,AV.boxable,AV.one,AV.strip1,AV.strip2,Zb,y7,Nat.reduceEqDiff,reduceCtorEq,↓reduceIte,Nat.reduceAdd,Int.reduceNeg,Nat.reduceLeDiff,Int.reduceToNat,Int.reduceEq,Int.reduceLT,Int.reduceLE,Int.reduceAdd];refine⟨hf,yM (W x (xv J)) ?_⟩;rintro _ _ ⟨_,rfl,rfl,rfl⟩;by_cases j:p x=true
  ·refine wO j ?_;rw[Tg,if_pos j]at h;exact I _ _ _ _ _ nofun rfl (yT.refl _) ⟨by simp[<-h],rfl⟩
  ·rw[Tg,if_neg j]at h;have h':p x=false:=xy j
   refine wO h' ?_;exact zJ (U () _ ⟨by rw[<-h];simp,rfl⟩) xf
def U3{α:Type}{g f:FuncId}(j:Rp Tryz.prog f (ctF g)=true){xs v:AV}{l:List α}{p:α->Bool}{H:zd}(hi:zZ g [xs,v] H (At (.i (Tg p l 0)) H)):zZ f [xs,v] H (At (.bool (l.any p)) H):=by refine zY.go (ctF g) j (ZG _) λKP Q h=>?_;simp(disch:=omega) only[ctF,go_sem];refine yM hi ?_;rintro _ _ ⟨_,rfl,rfl,rfl⟩;refine xV ?_;have:=zdc p l 0 xg;exact h _ _ _ _ _ nofun rfl (yT.refl _) ⟨by simp[this],rfl⟩
def zlR{α:Type}(c:α->List AV)(v:∀x,(c x).length=6)(l:List α)(f:FuncId)(g:List AV)(p:α->Bool)(H:zd)(j:l.length<=ze)(hf:Program.callable Tryz.prog f=true)(h:ByH l (λx=>.agg (c x)) f g p H):zZ 309 [.o 6 (l.map c),.clo f [] g] H (At (.bool (l.any p)) H):=U3 ir309.2 (WZ ir352.2 c (λx=>.agg (c x)) v (λ_=>rfl) l f g p H j hf h)
def zmS{α:Type}(c:α->List AV)(v:∀x,(c x).length=6)(l:List α)(f:FuncId)(g:List AV)(p:α->Bool)(H:zd)(j:l.length<=ze)(hf:Program.callable Tryz.prog f=true)(h:ByH l (λx=>.agg (c x)) f g p H):zZ 286 [.o 6 (l.map c),.clo f [] g] H (At (.i (Tg p l 0)) H):=WZ ir286.2 c (λx=>.agg (c x)) v (λ_=>rfl) l f g p H j hf h
def K5{α:Type}(c:α->List AV)(v:∀x,(c x).length=6)(l:List α)(f:FuncId)(g:List AV)(p:α->Bool)(H:zd)(j:l.length<=ze)(hf:Program.callable Tryz.prog f=true)(h:ByH l (λx=>.agg (c x)) f g p H):zZ 218 [.o 6 (l.map c),.clo f [] g] H (At (.bool (l.any p)) H):=U3 ir218.2 (WZ ir286.2 c (λx=>.agg (c x)) v (λ_=>rfl) l f g p H j hf h)
def zpp{α:Type}(c:α->List AV)(y:∀x,(c x).length=6)(l:List α)(f:FuncId)(g:List AV)(p:α->Bool)(j:l.length<=ze)(hf:Program.callable Tryz.prog f=true)(h:ByP l (λx=>.agg (c x)) f g p):zf 286 [.o 6 (l.map c),.clo f [] g] (.i (Tg p l 0)):=Vh (WZ ir286.2 c (λx=>.agg (c x)) y (λ_=>rfl) l f g p _ j hf λx v=>Wi (h x v) _)
def anyOp{α:Type}(c:α->List AV)(y:∀x,(c x).length=5)(l:List α)(f:FuncId)(g:List AV)(p:α->Bool)(j:l.length<=ze)(hf:Program.callable Tryz.prog f=true)(h:ByP l (λx=>.agg (c x)) f g p):zf 77 [.o 5 (l.map c),.clo f [] g] (.bool (l.any p)):=Vh (U3 ir77.2 (WZ ir159.2 c (λx=>.agg (c x)) y (λ_=>rfl) l f g p _ j hf λx v=>Wi (h x v) _))
def zin{α:Type}(c:α->List AV)(v:∀x,(c x).length=4)(l:List α)(f:FuncId)(g:List AV)(p:α->Bool)(H:zd)(j:l.length<=ze)(hf:Program.callable Tryz.prog f=true)(h:ByH l (λx=>.agg (c x)) f g p H):zZ 160 [.o 4 (l.map c),.clo f [] g] H (At (.bool (l.any p)) H):=U3 ir160.2 (WZ ir280.2 c (λx=>.agg (c x)) v (λ_=>rfl) l f g p H j hf h)
def zlb{α:Type}(c:α->List AV)(y:∀x,(c x).length=4)(l:List α)(f:FuncId)(g:List AV)(p:α->Bool)(j:l.length<=ze)(hf:Program.callable Tryz.prog f=true)(h:ByP l (λx=>.agg (c x)) f g p):zf 280 [.o 4 (l.map c),.clo f [] g] (.i (Tg p l 0)):=Vh (WZ ir280.2 c (λx=>.agg (c x)) y (λ_=>rfl) l f g p _ j hf λx v=>Wi (h x v) _)
def zeQ{α:Type}(c:α->List AV)(y:∀x,(c x).length=4)(l:List α)(f:FuncId)(g:List AV)(p:α->Bool)(j:l.length<=ze)(hf:Program.callable Tryz.prog f=true)(h:ByP l (λx=>.agg (c x)) f g p):zf 160 [.o 4 (l.map c),.clo f [] g] (.bool (l.any p)):=Vh (U3 ir160.2 (WZ ir280.2 c (λx=>.agg (c x)) y (λ_=>rfl) l f g p _ j hf λx v=>Wi (h x v) _))
def zmm{α:Type}(c:α->List AV)(v:∀x,(c x).length=10)(l:List α)(f:FuncId)(g:List AV)(p:α->Bool)(H:zd)(j:l.length<=ze)(hf:Program.callable Tryz.prog f=true)(h:ByH l (λx=>.agg (c x)) f g p H):zZ 236 [.o 10 (l.map c),.clo f [] g] H (At (.bool (l.any p)) H):=U3 ir236.2 (WZ ir289.2 c (λx=>.agg (c x)) v (λ_=>rfl) l f g p H j hf h)
def zpn{α:Type}(c:α->List AV)(y:∀x,(c x).length=10)(l:List α)(f:FuncId)(g:List AV)(p:α->Bool)(j:l.length<=ze)(hf:Program.callable Tryz.prog f=true)(h:ByP l (λx=>.agg (c x)) f g p):zf 289 [.o 10 (l.map c),.clo f [] g] (.i (Tg p l 0)):=Vh (WZ ir289.2 c (λx=>.agg (c x)) y (λ_=>rfl) l f g p _ j hf λx v=>Wi (h x v) _)
def zj4{α:Type}(c:α->List AV)(y:∀x,(c x).length=10)(l:List α)(f:FuncId)(g:List AV)(p:α->Bool)(j:l.length<=ze)(hf:Program.callable Tryz.prog f=true)(h:ByP l (λx=>.agg (c x)) f g p):zf 236 [.o 10 (l.map c),.clo f [] g] (.bool (l.any p)):=Vh (U3 ir236.2 (WZ ir289.2 c (λx=>.agg (c x)) y (λ_=>rfl) l f g p _ j hf λx v=>Wi (h x v) _))
def N5{α:Type}(c:α->List AV)(v:∀x,(c x).length=10)(l:List α)(f:FuncId)(g:List AV)(p:α->Bool)(H:zd)(j:l.length<=ze)(hf:Program.callable Tryz.prog f=true)(h:ByH l (λx=>.agg (c x)) f g p H):zZ 190 [.o 10 (l.map c),.clo f [] g] H (At (.bool (l.any p)) H):=U3 ir190.2 (WZ ir293.2 c (λx=>.agg (c x)) v (λ_=>rfl) l f g p H j hf h)
def zhf{α:Type}(c:α->List AV)(y:∀x,(c x).length=10)(l:List α)(f:FuncId)(g:List AV)(p:α->Bool)(j:l.length<=ze)(hf:Program.callable Tryz.prog f=true)(h:ByP l (λx=>.agg (c x)) f g p):zf 293 [.o 10 (l.map c),.clo f [] g] (.i (Tg p l 0)):=Vh (WZ ir293.2 c (λx=>.agg (c x)) y (λ_=>rfl) l f g p _ j hf λx v=>Wi (h x v) _)
def zgC{α:Type}(c:α->List AV)(y:∀x,(c x).length=10)(l:List α)(f:FuncId)(g:List AV)(p:α->Bool)(j:l.length<=ze)(hf:Program.callable Tryz.prog f=true)(h:ByP l (λx=>.agg (c x)) f g p):zf 190 [.o 10 (l.map c),.clo f [] g] (.bool (l.any p)):=Vh (U3 ir190.2 (WZ ir293.2 c (λx=>.agg (c x)) y (λ_=>rfl) l f g p _ j hf λx v=>Wi (h x v) _))
def zqq{α:Type}(c:α->List AV)(y:∀x,(c x).length=7)(l:List α)(f:FuncId)(g:List AV)(p:α->Bool)(j:l.length<=ze)(hf:Program.callable Tryz.prog f=true)(h:ByP l (λx=>.agg (c x)) f g p):zf 282 [.o 7 (l.map c),.clo f [] g] (.bool (l.any p)):=Vh (U3 ir282.2 (WZ ir338.2 c (λx=>.agg (c x)) y (λ_=>rfl) l f g p _ j hf λx v=>Wi (h x v) _))
def zlo{α:Type}(c:α->List AV)(v:∀x,(c x).length=6)(l:List α)(f:FuncId)(g:List AV)(p:α->Bool)(H:zd)(j:l.length<=ze)(hf:Program.callable Tryz.prog f=true)(h:ByH l (λx=>.agg (c x)) f g p H):zZ 392 [.o 6 (l.map c),.clo f [] g] H (At (.bool (l.any p)) H):=U3 ir392.2 (WZ ir404.2 c (λx=>.agg (c x)) v (λ_=>rfl) l f g p H j hf h)
def PT{α:Type}(c:α->AV)(l:List α)(f:FuncId)(g:List AV)(p:α->Bool)(H:zd)(j:l.length<=ze)(hf:Program.callable Tryz.prog f=true)(h:ByH l c f g p H):zZ 168 [.o 1 (l.map (λx=>[c x])),.clo f [] g] H (At (.bool (l.any p)) H):=U3 ir168.2 (WZ ir284.2 (λx=>[c x]) c (λ_=>rfl) (λ_=>rfl) l f g p H j hf h)
def zdM{α:Type}(c:α->AV)(l:List α)(f:FuncId)(g:List AV)(p:α->Bool)(j:l.length<=ze)(hf:Program.callable Tryz.prog f=true)(h:ByP l c f g p):zf 168 [.o 1 (l.map (λx=>[c x])),.clo f [] g] (.bool (l.any p)):=Vh (U3 ir168.2 (WZ ir284.2 (λx=>[c x]) c (λ_=>rfl) (λ_=>rfl) l f g p _ j hf λx v=>Wi (h x v) _))
def zh2{α:Type}(c:α->AV)(l:List α)(f:FuncId)(g:List AV)(p:α->Bool)(H:zd)(j:l.length<=ze)(hf:Program.callable Tryz.prog f=true)(h:ByH l c f g p H):zZ 163 [.o 1 (l.map (λx=>[c x])),.clo f [] g] H (At (.bool (l.any p)) H):=U3 ir163.2 (WZ ir281.2 (λx=>[c x]) c (λ_=>rfl) (λ_=>rfl) l f g p H j hf h)
def zlK{α:Type}(c:α->AV)(l:List α)(f:FuncId)(g:List AV)(p:α->Bool)(j:l.length<=ze)(hf:Program.callable Tryz.prog f=true)(h:ByP l c f g p):zf 163 [.o 1 (l.map (λx=>[c x])),.clo f [] g] (.bool (l.any p)):=Vh (U3 ir163.2 (WZ ir281.2 (λx=>[c x]) c (λ_=>rfl) (λ_=>rfl) l f g p _ j hf λx v=>Wi (h x v) _))
def Zv(n:B8):Bool:=decide (n=[73,110,116])||decide (n=[83,116,114,105,110,103])||decide (n=[66,111,111,108,101,97,110])||decide (n=[73,68])
def zm6(n:B8):zf 312 [.str n] (.bool (Zv n)):=by
 refine zo ir312 λKP Q f=>?_;by_cases g:n=[73,110,116]
 ·have e:Zv n=true:=by simp[Zv,g]
  have p:=eq_true g;rw[e]at f;refine xc p ?_;exact xo f
 by_cases h:n=[83,116,114,105,110,103]
 ·have e:Zv n=true:=by simp[Zv,h]
  have v:=eq_true h;rw[e]at f;refine xd g v ?_;exact xo f
 by_cases j:n=[66,111,111,108,101,97,110]
 ·have e:Zv n=true:=by simp[Zv,j]
  have y:=eq_true j;rw[e]at f;refine xe g h y ?_;exact xo f
 have e:Zv n=decide (n=[73,68]):=by simp[Zv,g,h,j]
 rw[e]at f;refine xe g h j ?_;exact xo f
def zE:yX:=⟨0,[],[],[],[],[]⟩
def scE(n:B8):yX:=⟨0,n,[],[],[],[]⟩
def Mg(n:B8)(d:yX):Bool:=decide (d.nm=n)
def zL(s:zg)(n:B8):Option yX:=if Zv n=true then some (scE n)else s.defs.find? (Mg n)
def zR{s:zg}(h:zA s<=ze):s.defs.length<=ze:=by have:=VP s.defs;simp only[zA]at h;omega
def PS(s:zg)(n:B8)(Z:s.defs.length<=ze):zf 225 [.agg (zk s),.str n] (.tup [.agg (cE ((zL s n).getD zE)),.bool (zL s n).isSome]):=by
 refine zo ir225 λKP Q h=>?_;obtain⟨f,q,m⟩:=s;have z:=YX f;simp only[ze]at Z;refine x8 (zb λG ad=>?_);refine wb (zm6 n) ?_;cases K:Zv n
 case true =>
  have e:zL ⟨f,q,m⟩ n=some (scE n):=by simp[zL,K]
  rw[e]at h;refine x8 ?_;exact @h _ _ [.agg [.i 0,.str n,.sl .nil 1 [],.sl .nil 6 [],.sl .nil 1 [],.sl .nil 10 []],.bool true] xb rfl
 have e:zL ⟨f,q,m⟩ n=f.find? (Mg n):=by simp[zL,K]
 rw[e]at h;simp(disch:=omega) only[zk,z,go_sem];refine zc f 15 ZY (λX C ae H=>H G=some (.cells [.i 0,.str [],.sl .nil 1 [],.sl .nil 6 [],.sl .nil 1 [],.sl .nil 10 []])/\C.find? (Mg n)=f.find? (Mg n)) () xb ⟨upd_same ..,rfl⟩ ?_ ?_
 ·rintro _ H U ⟨j,v⟩ A;rw[<-v]at h;refine xe z A j ?_;exact @h _ _ [.agg [.i 0,.str [],.sl .nil 1 [],.sl .nil 6 [],.sl .nil 1 [],.sl .nil 10 []],.bool false] xb rfl
 ·rintro X x C _ H U ab A _ ⟨j,v⟩ Y;have ac:=Xc ab;refine xe z A ac (zb λW aa=>?_);have p:G≠W:=nen2 j aa;by_cases g:x.nm=n
  ·have y:f.find? (Mg n)=some x:=by rw[<-v];simp[Mg,g]
   rw[y]at h;obtain⟨k,L,J,I,O,M⟩:=x;simp only at g;simp(disch:=omega) only[zS,j,p,Ne.symm p,g,go_sem];exact @h _ _ [.agg (cE ⟨k,L,J,I,O,M⟩),.bool true] (by simp(disch:=omega) only[ir225,zx,yB,zS,g,go_sem]) rfl
  ·have y:C.find? (Mg n)=f.find? (Mg n):=by rw[<-v];simp[Mg,g]
   obtain⟨k,L,J,I,O,M⟩:=x;simp only at g;simp(disch:=omega) only[zS,j,p,Ne.symm p,g,go_sem];exact zJ (Y () _ ⟨wx j p (Ne.symm p),y⟩) xf
def cI(k:Int):List AV:=[.i k]
def zaW(x:Int):List Int->Int->Int
 | [],_=>-1
 | y::r,i=>if x=y then i else zaW x r (i+1)
def OO(l:List Int)(x:Int):Bool:=l.any λf=>decide (x=f)
def zbZ(x:Int):∀l (i:Int),0<=i->decide (0<=zaW x l i)=OO l x
 | [],i,_=>by simp[zaW,OO]
 | y::r,i,hi=>by
  have:=zbZ x r (i+1) xg;simp only[zaW,OO,List.any_cons]at this ⊢;by_cases f:x=y
  ·simp[f];omega
  ·simp only[f,if_false,decide_false,Bool.false_or];exact this
def zmp(l:List Int)(x:Int)(J:l.length<=ze):zf 351 [.o 1 (l.map cI),.i x] (.i (zaW x l 0)):=by
 refine zo ir351 λKP Q v=>?_;have g:(l.map cI).length=l.length:=List.length_map ..;simp only[ze]at J;refine xc g ?_;refine zc l 8 ZY (λj z n H=>zaW x z j.length=zaW x l 0) () xb rfl ?_ ?_
 ·rintro n H C f h;refine xd g h ?_;simp only[zaW]at f;exact v rfl (wD f)
 ·rintro j A z n H C I h _ f G;have y:(l.map cI).getD j.length []=[.i A]:=Z2 I;simp only[zaW]at f;by_cases p:x=A
  ·subst p;simp only[if_true]at f;refine xe g h y ?_;exact v rfl (wD f)
  ·simp only[p,if_false]at f;refine xk g h y p ?_;exact zJ (G () _ (xy f)) xf
def zdv(l:List Int)(x:Int)(g:l.length<=ze):zf 308 [.o 1 (l.map cI),.i x] (.bool (OO l x)):=by refine zo ir308 λKP Q f=>?_;refine xh (zmp l x g) ?_;refine xa ?_;have:=zbZ x l 0 xg;exact xj f this
def yA(s:zg)(n:B8)(f:List Int):Bool:=(zL s n).any λd=>OO f d.k
def SO(s:zg)(n:B8)(f:List Int)(v:s.defs.length<=ze)(z:f.length<=ze):zf 210 [.agg (zk s),.str n,.o 1 (f.map cI)] (.bool (yA s n f)):=by
 refine zo ir210 λKP Q g=>?_;have hf:=PS s n v;obtain⟨p,q,m⟩:=s;simp only[yA]at g;simp only[zk]at hf;refine wb hf ?_;cases h:zL ⟨p,q,m⟩ n with
 | none =>refine we (zb λj y=>?_);refine x0 ?_;exact xj g h
 | some d =>obtain⟨k,G,C,A,J,I⟩:=d;refine xD (zb λj y=>?_);refine x0 ?_;refine za (zdv f k z) ?_;exact vn g h
def Z0(s:zg)(n:B8):Bool:=yA s n [0,4]
def y9(s:zg)(n:B8):Bool:=yA s n [1,2,3]
def XW(s:zg)(n:B8):Bool:=yA s n [0,4,5]
def zcv(s:zg)(n:B8)(g:s.defs.length<=ze):zf 178 [.agg (zk s),.str n] (.bool (Z0 s n)):=by refine zo ir178 λKP Q f=>?_;have hf:=SO s n [0,4] g (by decide);obtain⟨h,q,m⟩:=s;simp only[zk,List.map,cI]at hf;refine wb (Zk.low hf) ?_;refine xa ?_;exact f rfl (by simp[Z0])
def MN(s:zg)(n:B8)(g:s.defs.length<=ze):zf 162 [.agg (zk s),.str n] (.bool (y9 s n)):=by refine zo ir162 λKP Q f=>?_;have hf:=SO s n [1,2,3] g (by decide);obtain⟨h,q,m⟩:=s;simp only[zk,List.map,cI]at hf;refine wb (Zk.low hf) ?_;refine xa ?_;exact f rfl (by simp[y9])
def zjH(s:zg)(n:B8)(g:s.defs.length<=ze):zf 192 [.agg (zk s),.str n] (.bool (XW s n)):=by refine zo ir192 λKP Q f=>?_;have hf:=SO s n [0,4,5] g (by decide);obtain⟨h,q,m⟩:=s;simp only[zk,List.map,cI]at hf;refine wb (Zk.low hf) ?_;refine xa ?_;exact f rfl (by simp[XW])
def tnB:B8:=[95,95,116,121,112,101,110,97,109,101]
def zF:Yv:=⟨[],[],⟨[],0,0⟩,[]⟩
def tnF:Yv:=⟨tnB,[],⟨[83,116,114,105,110,103],0,1⟩,[]⟩
def nmF(n:B8)(f:Yv):Bool:=decide (f.nm=n)
def zG(s:zg)(typ f:B8):Option Yv :=
 if f=tnB/\y9 s typ=true then some tnF else match zL s typ with
  | none=>none
  | some d=>if d.k=1∨d.k=2 then d.flds.find? (nmF f)else none
def NV{d:yX}:∀ {l:List yX},d∈l->bE d<=bEs l
 | x::l,f=>by
  rcases List.mem_cons.1 f with rfl|f
  ·simp only[bEs,List.map_cons,List.sum_cons];omega
  ·have:=NV f;simp only[bEs,List.map_cons,List.sum_cons]at this ⊢;omega
def Xh{s:zg}{n:B8}{d:yX}(h:zL s n=some d):NC d.flds<=zA s/\bT d.faces<=zA s/\bT d.parts<=zA s/\Wx d.ps<=zA s:=by
 unfold zL at h;split at h
 ·cases h;simp[scE,NC,bT,Wx]
 ·have:=NV (List.mem_of_find?_eq_some h);simp only[bE,zA]at this ⊢;omega
def zkZ(f:Yv)(n:B8):zf 287 [.agg (cL f),.view [.str n]] (.bool (nmF n f)):=by obtain⟨h,j,⟨a,b,c⟩,ds⟩:=f;refine zo ir287 λKP Q g=>?_;simp(disch:=omega) only[ir287,YG,go_sem];exact g rfl (by simp[nmF])
def OH(s:zg)(typ g:B8)(U:zA s<=ze):zf 176 [.agg (zk s),.str typ,.str g] (.tup [.agg (cL ((zG s typ g).getD zF)),.bool (zG s typ g).isSome]):=by
 refine zo ir176 λKP Q ag=>?_;have X:=zR U;have G:=MN s typ X;have hf:=PS s typ X;have am:=@Xh s typ;have au:zA s<=1099511627776:=U;obtain⟨Y,Z,sm⟩:=s;generalize ah:(⟨Y,Z,sm⟩:zg)=s at *
 have ai:zk s=[.o 6 (Vd Y),.str Z,.str sm]:=xM ah
 rw[ai]at G hf ⊢;have fin:∀o,zG s typ g=o->∀ρ H L,zx ρ H ir176.1.res=some L->(Yz L).strip=.tup [.agg (cL (o.getD zF)),.bool o.isSome]->Q .ret ρ H:=λo e ρ H L y v=>ag y (by rw[v,e]);have aa:¬ (g=tnB/\y9 s typ=true)->zG s typ g=match zL s typ with|none=>none|some d=>if d.k=1∨d.k=2 then d.flds.find? (nmF g)else none:=λj=>by simp only[zG,j,if_false]
 have three:(g=tnB/\y9 s typ=true)∨(g=tnB/\y9 s typ=false)∨g≠tnB:=by cases y9 s typ<;>by_cases j:g=tnB<;>simp[j]
 rcases three with ⟨z,J⟩|v
 ·have I:(g=[95,95,116,121,112,101,110,97,109,101])=True:=eq_true z;rw[J]at G;refine xa ?_;refine zb λM W=>?_;refine xt I G ?_;refine xa ?_;exact fin (some tnF) (by simp[zG,z,J]) _ _ [.agg [.str tnB,.sl .nil 10 [],.str [83,116,114,105,110,103],.i 0,.i 1,.sl .nil 2 []],.bool true] (by simp(disch:=omega) only[ir176,zx,yB,tnB,go_sem]) rfl
 have h:=aa (by rcases v with ⟨_,j⟩|j<;>simp[j]);rcases v with ⟨z,J⟩|z
 case' inl =>have I:(g=[95,95,116,121,112,101,110,97,109,101])=True:=eq_true z;rw[J]at G;refine xa ?_;refine zb λM W=>?_;refine xt I G ?_;simp(disch:=omega) only[go_sem]
 case' inr =>have I:¬ g=[95,95,116,121,112,101,110,97,109,101]:=z;refine xa ?_;refine zb λM W=>?_;simp(disch:=omega) only[I,go_sem]
 all_goals
  refine za hf ?_;cases K:zL s typ with
  | none =>rw[K]at h;refine we ?_;refine zb λO C=>?_;have f:=ZB C;refine wB f (Ne.symm f) ?_;exact fin none h _ _ [.agg [.str [],.sl .nil 10 [],.str [],.int .i64 0,.int .i64 0,.sl .nil 2 []],.bool false] (wi f (Ne.symm f)) rfl
  | some d =>
   rw[K]at h;have an:=(am K).1;obtain⟨k,ap,aq,A,aw,av⟩:=d;simp only at h an;have ar:=YH A;by_cases p:k=1∨k=2
   case neg =>rw[if_neg p]at h;have ak:¬ k=1:=λj=>p (.inl j);have al:¬ k=2:=λj=>p (.inr j);refine xD ?_;refine zb λO C=>?_;have f:=ZB C;simp(disch:=omega) only[zS,f,Ne.symm f,ak,al,go_sem];exact fin none h _ _ [.agg [.str [],.sl .nil 10 [],.str [],.i 0,.i 0,.sl .nil 2 []],.bool false] (wi f (Ne.symm f)) rfl
   rw[if_pos p]at h;have ao:=zpp cL (λ_=>rfl) A 287 [.view [.str g]] (nmF g) xi yw λx _=>zkZ x g;rcases p with p|p
   all_goals
    subst p;refine xD ?_;refine zb λO C=>?_;have f:=ZB C;refine wB f (Ne.symm f) ?_;refine za ao ?_;rcases VB (nmF g) A 0 with ⟨a,x,r,y,v,ab,ac⟩|⟨y,v⟩
    ·rw[ac,Int.zero_add];rw[ab]at h;have aj:=XS y;have ae:=YM A;have ad:(a.length:Int)<A.length:=by rw[y,ZX,yg];omega
     have af:¬ ((a.length:Int)<0):=xg
     simp(disch:=omega) only[f,Ne.symm f,aj,ae,ad,af,cL,go_sem];refine fin (some x) h _ _ [.agg (cL x),.bool true] ?_ rfl;simp(disch:=omega) only[ir176,zx,yB,f,Ne.symm f,cL,go_sem]
    ·rw[v];rw[y]at h;refine xd f (Ne.symm f) ?_;exact fin none h _ _ [.agg [.str [],.sl .nil 10 [],.str [],.i 0,.i 0,.sl .nil 2 []],.bool false] (wi f (Ne.symm f)) rfl
def Yp(l:B9)(n:B8):B9:=if zH n l=true then l else l++[n]
def KV(l:B9)(n:B8):(Yp l n).length<=l.length+1:=by unfold Yp;split<;>simp
def zrp(l:B9)(n:B8)(o:Own)(H:zd)(j:l.length+1<=ze)(ho:zM H o l.length 1):YR Tryz.prog 339 [.sl o 1 (cT l),.str n] H o 1 (cT (Yp l n)):=by
 have g:=zn l;have p:=j;simp only[ze]at p;refine Xt ir339 λKP Q h y=>?_;refine xh (Zk.low (Z4 l n xi)) ?_;cases f:zH n l with
 | true =>
  refine xc f ?_;refine h _ _ H H _ nofun rfl (yT.refl _) ⟨o,?_,?_⟩
  ·simp[Yz,Xf,Yp,f]
  ·simpa[Yp,f,g]using zQ.refl ho
 | false =>
  refine xc f (zp (wz g ho) ?_ ?_ λo' H' v=>?_)
  ·simp only[g,yg,yy];omega
  ·refine xR g ?_;omega
  refine xa ?_;refine h _ _ H' H' _ nofun rfl (yT.refl _) ⟨o',?_,?_⟩
  ·simp[Yz,Xf,Yp,f,cT,AV.strip1]
  ·simpa[Yp,f,g,zn]using v
def Wn(s:zg)(n:B8):B9:=match zL s n with
 | none=>[]
 | some d=>if d.k=1 then [n]else if d.k=2 then s.defs.foldl (λl x=>if x.k=1/\zH n x.faces=true then Yp l x.nm else l) []else if d.k=3 then d.parts.foldl (λl f=>if yA s f [1]=true then Yp l f else l) []else []
def Wv(n:B8)(l:B9)(x:yX):B9:=if x.k=1/\zH n x.faces=true then Yp l x.nm else l
def Vr(s:zg)(l:B9)(p:B8):B9:=if yA s p [1]=true then Yp l p else l
def MM(s:zg)(n:B8):Wn s n=match zL s n with
 | none=>[]
 | some d=>if d.k=1 then [n]else if d.k=2 then s.defs.foldl (Wv n) []else if d.k=3 then d.parts.foldl (Vr s) []else []:=rfl
def NO(n:B8)(l:B9)(x:yX):(Wv n l x).length<=l.length+1:=by have:=KV l x.nm;unfold Wv;split<;>omega
def Lm(s:zg)(l:B9)(x:B8):(Vr s l x).length<=l.length+1:=by have:=KV l x;unfold Vr;split<;>omega
def zkb(s:zg)(n:B8)(ao:zA s<=ze):zf 288 [.agg (zk s),.str n] (.o 1 (cT (Wn s n))):=by
 refine zo ir288 λKP Q aw=>?_;have aq:=zR ao;have hf:=PS s n aq;have az:=@Xh s n;have ba:zA s<=1099511627776:=ao;have ap:=λa3=>SO s a3 [1] aq (by decide);have g:=MM s n;have ax:=VP s.defs;have ar:=λ(d:yX) (av:d∈s.defs)=>NV av;obtain⟨p,au,sm⟩:=s;generalize ac:(⟨p,au,sm⟩:zg)=s at *
 have ay:zk s=[.o 6 (Vd p),.str au,.str sm]:=xM ac
 have a1:s.defs=p:=by rw[<-ac]
 have a8:bEs p<=zA s:=by rw[<-ac];simp only[zA];omega
 rw[a1]at g ax ar;simp only[ay,List.map,cI]at hf ap ⊢;have G:=YX p;have fin:∀l,Wn s n=l->∀ρ H am,zx ρ H ir288.1.res=some am->(Yz am).strip=.o 1 (cT l)->Q .ret ρ H:=λo e ρ H am G I=>aw G (by rw[I,e]);refine xh hf ?_;cases ae:zL s n with
 | none =>rw[ae]at g;refine we ?_;refine zb λM O=>?_;refine x0 ?_;exact fin [] g _ _ [.sl .nil 1 []] xb rfl
 | some d =>
  rw[ae]at g;obtain⟨_,_,a0,_⟩:=az ae;obtain⟨k,a5,a7,a6,L,bd⟩:=d;simp only at g a0;have bc:=ZN L;by_cases aj:k=1
  ·subst aj;refine xD ?_;refine zb λM O=>?_;refine x0 ?_;exact fin [n] (wa g) _ _ [.sl .full 1 [[.str n]]] xb rfl
  by_cases ak:k=2
  ·subst ak;simp only[Int.reduceEq,if_false,if_true]at g;refine xD ?_;refine zb λM O=>?_;refine wn G ?_;refine zc p 31 (λx:Own×B9=>[(7,.sl x.1 1 (cT x.2))]) (λab y x H'=>y.foldl (Wv n) x.2=p.foldl (Wv n) []/\x.2.length+y.length<=p.length/\zM H' x.1 x.2.length 1) (.nil,[]) xJ ⟨rfl,by simp,rfl⟩ ?_ ?_
   ·rintro⟨o1,a⟩ H' aa ⟨f,_,h⟩ v;simp only[List.foldl]at f;refine xd G v ?_;exact fin a (by rw[g,<-f]) _ _ [.sl o1 1 (cT a)] xb rfl
   ·rintro ab x y ⟨o1,a⟩ H' aa U v _ ⟨f,ah,h⟩ C;replace h:zM H' o1 a.length 1:=h;have af:=Xc U;have a2:=ar x (xv U);obtain⟨an,A,z,W,Y,X⟩:=x;have a9:=ZN z;simp only[bE]at a2;simp only[List.foldl,yg]at f ah;have ai:=NO n a ⟨an,A,z,W,Y,X⟩;simp(disch:=omega) only[G,v,af,zS,go_sem];refine zb λa4 ad=>?_;by_cases ag:an=1
    case neg =>
     have j:Wv n a ⟨an,A,z,W,Y,X⟩=a:=by simp[Wv,ag]
     rw[j]at f;refine wn ag ?_;exact zJ (C (o1,a) _ ⟨f,by simp only;omega,h.upd ad⟩) xf
    subst ag;refine x0 ?_;refine za (Z4 z n xi) ?_;cases J:zH n z with
    | false =>
     have j:Wv n a ⟨1,A,z,W,Y,X⟩=a:=by simp[Wv,J]
     rw[j]at f;refine x0 ?_;exact zJ (C (o1,a) _ ⟨f,by simp only;omega,h.upd ad⟩) xf
    | true =>
     have j:Wv n a ⟨1,A,z,W,Y,X⟩=Yp a A:=by simp[Wv,J]
     rw[j]at f ai;refine x0 ?_;refine zu (zrp a A o1 _ xi (h.upd ad)) λo2 Z K=>?_;rw[zn]at K;refine xq ?_;exact zJ (C (o2,Yp a A) Z ⟨f,by simp only;omega,K.own⟩) xb
  by_cases al:k=3
  ·subst al;simp only[Int.reduceEq,if_false,if_true]at g;have I:=zn L;refine xD ?_;refine zb λM O=>?_;refine wn I ?_;refine zc L 54 (λx:Own×B9=>[(7,.sl x.1 1 (cT x.2))]) (λab y x H'=>y.foldl (Vr s) x.2=L.foldl (Vr s) []/\x.2.length+y.length<=L.length/\zM H' x.1 x.2.length 1) (.nil,[]) xJ ⟨rfl,by simp,rfl⟩ ?_ ?_
   ·rintro⟨o1,a⟩ H' aa ⟨f,_,h⟩ v;simp only[List.foldl]at f;refine xd I v ?_;exact fin a (by rw[g,<-f]) _ _ [.sl o1 1 (cT a)] xb rfl
   ·rintro ab x y ⟨o1,a⟩ H' aa U v _ ⟨f,ah,h⟩ C;replace h:zM H' o1 a.length 1:=h;have af:=ZM U;simp only[List.foldl,yg]at f ah;have ai:=Lm s a x;refine xm I v af (Zk.low (ap x)) ?_;cases J:yA s x [1]with
    | false =>
     have j:Vr s a x=a:=by simp[Vr,J]
     rw[j]at f;refine xa ?_;exact zJ (C (o1,a) _ ⟨f,by simp only;omega,h⟩) xf
    | true =>
     have j:Vr s a x=Yp a x:=by simp[Vr,J]
     rw[j]at f ai;refine xa ?_;refine zu (zrp a x o1 _ xi h) λo2 Z K=>?_;rw[zn]at K;refine xq ?_;exact zJ (C (o2,Yp a x) Z ⟨f,by simp only;omega,K.own⟩) xb
  ·simp only[aj,ak,al,if_false]at g;refine xD ?_;refine zb λM O=>?_;simp(disch:=omega) only[zS,aj,ak,al,go_sem];exact fin [] g _ _ [.sl .nil 1 []] xb rfl
def zM.ofKept{H H':zd}{o o2:Own}{n sz:Nat}(h:zM H o n sz)(g:Kept H o2 H')(j:∀b d f,o=.tip b d->o2≠.tip b f):zM H' o n sz:=by
 cases o with
 | tip b d=>exact g b _ h λf e=>j b d f rfl e
 | no=>exact h
 | nil=>exact h
 | full=>exact h
open Go.Lib Go.RowKit Go.Sort
end Go.Proofs.YtcbfcliickppiaaGreatDoor
namespace Go.Proofs.YtcbfcliickppiaaGreatDoor
open Go.Ab
def Ut(H:zd)(b:Nat)(x y:Yr):(H.upd b x).upd b y=H.upd b y:=by funext c;by_cases e:c=b<;>simp[zd.upd,e]
def own_ne{H:zd}{c b d n sz:Nat}{f:List AV}(h:zM H (.tip b d) n sz)(g:H c=some (.cells f)):b≠c:=λe=>by subst e;have:H b=some (.tip (d+n) sz):=h;rw[g]at this;cases this
def Pw{H H':zd}{o:Own}{n sz c:Nat}{f:List AV}(h:zM H o n sz)(g:H c=some (.cells f))(j:Kept H o H'):H' c=some (.cells f) :=j c _ g λd e=>by subst e;exact own_ne h g rfl
def Nx{H:zd}{o:Own}{n sz c:Nat}{f:List AV}{x:Yr}(h:zM H o n sz)(g:H c=some (.cells f)):zM (H.upd c x) o n sz:=by
 cases o with
 | tip b d=>have:=own_ne h g;show (H.upd c x) b=_;rw[upd_ne this];exact h
 | no=>exact h
 | nil=>exact h
 | full=>exact h
open Go.Lib
end Go.Proofs.YtcbfcliickppiaaGreatDoor
namespace Go.Proofs.YtcbfcliickppiaaGreatDoor
open Go.Ab
def VM{n:Nat}(h:n<18446744073709551616):(BitVec.ofInt 64 (n:Int)).toNat=n:=by rw[BitVec.toNat_ofInt];omega
def RG{n:Nat}(h:n<9223372036854775808):IntKind.wrap .i64 (n:Int)=n:=wrap64 xg xg
def zae{n:Nat}(j:Nat)(h:n<9223372036854775808)(f:2 ^ j-1<9223372036854775808):IntKind.wrap .i64 ((BitVec.ofInt IntKind.i64.bits (n:Int) &&& BitVec.ofInt IntKind.i64.bits ((2 ^ j-1:Nat):Int)).toNat:Int)=((n % 2 ^ j:Nat):Int):=by
 have e:(BitVec.ofInt IntKind.i64.bits (n:Int) &&& BitVec.ofInt IntKind.i64.bits ((2 ^ j-1:Nat):Int)).toNat=n % 2 ^ j:=by rw[BitVec.toNat_and];show (BitVec.ofInt 64 (n:Int)).toNat &&& (BitVec.ofInt 64 ((2 ^ j-1:Nat):Int)).toNat=_;rw[VM xg,VM xg,Nat.and_two_pow_sub_one_eq_mod]
 rw[e];exact RG (Nat.lt_of_le_of_lt (Nat.mod_le _ _) h)
def zrK{n:Nat}(h:n<9223372036854775808):IntKind.wrap .i64 ((BitVec.ofInt IntKind.i64.bits (n:Int) &&& BitVec.ofInt IntKind.i64.bits 31).toNat:Int)=((n % 32:Nat):Int):=zae 5 h (by decide)
def zr1{n:Nat}(h:n<9223372036854775808):IntKind.wrap .i64 ((BitVec.ofInt IntKind.i64.bits (n:Int) &&& BitVec.ofInt IntKind.i64.bits 15).toNat:Int)=((n % 16:Nat):Int):=zae 4 h (by decide)
def and7{n:Nat}(h:n<9223372036854775808):IntKind.wrap .i64 ((BitVec.ofInt IntKind.i64.bits (n:Int) &&& BitVec.ofInt IntKind.i64.bits 7).toNat:Int)=((n % 8:Nat):Int):=zae 3 h (by decide)
def zrV{n:Nat}(h:n<9223372036854775808):IntKind.wrap .i64 ((BitVec.ofInt IntKind.i64.bits (n:Int) &&& BitVec.ofInt IntKind.i64.bits 63).toNat:Int)=((n % 64:Nat):Int):=zae 6 h (by decide)
def zsI{a b:Nat}(f:a<16777216)(g:b<64):IntKind.wrap .i64 ((BitVec.ofInt IntKind.i64.bits ((a*64:Nat):Int) ||| BitVec.ofInt IntKind.i64.bits (b:Int)).toNat:Int)=((a*64+b:Nat):Int):=by
 have e:(BitVec.ofInt IntKind.i64.bits ((a*64:Nat):Int) ||| BitVec.ofInt IntKind.i64.bits (b:Int)).toNat=a*64+b:=by rw[BitVec.toNat_or];show (BitVec.ofInt 64 ((a*64:Nat):Int)).toNat ||| (BitVec.ofInt 64 (b:Int)).toNat=_;rw[VM xg,VM xg];have:=Nat.two_pow_add_eq_or_of_lt (i:=6) (b:=b) xg a;rw[show (2:Nat) ^ 6=64 by rfl]at this;rw[Nat.mul_comm a 64,this]
 rw[e];exact RG xg
def Vq(l:B8):Nat×Nat:=if l=[]then (0,0)else if Lib.decodeL l=(65533,1)then (0,0)else Lib.decodeL l
abbrev bt(s:B8)(i k:Nat):Nat:=(s.getD (i+k) 0).toNat
def znI(s:B8)(i k:Nat):bt s i k<256:=(s.getD (i+k) 0).toNat_lt
def zgm(s:B8)(i k:Nat):(s.drop i).getD k 0=s.getD (i+k) 0:=by simp[List.getElem?_drop]
def zif{s:B8}{i:Nat}(h:i<s.length):Vq (s.drop i)=if Lib.decodeN (s.length-i) (bt s i 0) (bt s i 1) (bt s i 2) (bt s i 3)=(65533,1)then (0,0)else Lib.decodeN (s.length-i) (bt s i 0) (bt s i 1) (bt s i 2) (bt s i 3):=by
 have f:s.drop i≠[]:=λe=>by have:=congrArg List.length e;simp at this;omega
 unfold Vq;rw[if_neg f,Lib.decodeL_N,T1];simp only[zgm]
def cv(v0:Nat)(b:Nat->Nat):Nat->Nat
 | 0=>v0
 | j+1=>cv v0 b j*64+b (j+1) % 64
def zlT(b0 w lo v:Nat):Prop:=(194<=b0/\b0<224/\w=2/\lo=128/\v=b0 % 32)∨(224<=b0/\b0<240/\w=3/\lo=2048/\v=b0 % 16)∨(240<=b0/\b0<245/\w=4/\lo=65536/\v=b0 % 8)
def zgx{n b0 j p y w lo v:Nat}(h:zlT b0 w lo v)(z:n<w):Lib.decodeN n b0 j p y=(65533,1):=by unfold Lib.decodeN;rcases h with ⟨f,g,rfl,_,_⟩|⟨f,g,rfl,_,_⟩|⟨f,g,rfl,_,_⟩<;>(repeat' split)<;>first|rfl|(exfalso;omega)
def zbt{n w lo v j:Nat}{b:Nat->Nat}(h:zlT (b 0) w lo v)(y:1<=j)(A:j<w)(z:b j<128∨191<b j):Lib.decodeN n (b 0) (b 1) (b 2) (b 3)=(65533,1):=by
 have p:j=1∨j=2∨j=3:=by rcases h with h|h|h<;>omega
 unfold Lib.decodeN;rcases h with ⟨f,g,rfl,_,_⟩|⟨f,g,rfl,_,_⟩|⟨f,g,rfl,_,_⟩<;>rcases p with rfl|rfl|rfl<;>(repeat' split)<;>first|rfl|(exfalso;omega)
def zh6{n w lo v:Nat}{b:Nat->Nat}(h:zlT (b 0) w lo v)(G:w<=n)(f:∀p,1<=p->p<w->128<=b p/\b p<=191):
  (if Lib.decodeN n (b 0) (b 1) (b 2) (b 3)=(65533,1)then (0,0)else Lib.decodeN n (b 0) (b 1) (b 2) (b 3))=if cv v b (w-1)<lo∨1114111<cv v b (w-1)∨(55296<=cv v b (w-1)/\cv v b (w-1)<57344)then (0,0)else (cv v b (w-1),w):=by
 rcases h with ⟨y,z,rfl,rfl,rfl⟩|⟨y,z,rfl,rfl,rfl⟩|⟨y,z,rfl,rfl,rfl⟩
 ·have c1:=f 1 xg xg;have e:Lib.decodeN n (b 0) (b 1) (b 2) (b 3)=(b 0 % 32*64+b 1 % 64,2):=by
   unfold Lib.decodeN;rw[if_neg xg,if_pos xg,if_pos xg]
  have g:cv (b 0 % 32) b (2-1)=b 0 % 32*64+b 1 % 64:=rfl;rw[e,g,if_neg xw,if_neg xg]
 ·have c1:=f 1 xg xg;have A:=f 2 xg xg;have g:cv (b 0 % 16) b (3-1)=b 0 % 16*4096+b 1 % 64*64+b 2 % 64:=by
   show (b 0 % 16*64+b 1 % 64)*64+b 2 % 64=_;omega
  rw[g];by_cases j:b 0 % 16*4096+b 1 % 64*64+b 2 % 64>=2048/\(b 0 % 16*4096+b 1 % 64*64+b 2 % 64<55296∨(57344<=b 0 % 16*4096+b 1 % 64*64+b 2 % 64/\b 0 % 16*4096+b 1 % 64*64+b 2 % 64<=1114111))
  ·have e:Lib.decodeN n (b 0) (b 1) (b 2) (b 3)=(b 0 % 16*4096+b 1 % 64*64+b 2 % 64,3):=by
    unfold Lib.decodeN;rw[if_neg xg,if_neg xg,if_pos xg,if_pos j]
   rw[e,if_neg xw,if_neg xg]
  ·have e:Lib.decodeN n (b 0) (b 1) (b 2) (b 3)=(65533,1):=by
    unfold Lib.decodeN;rw[if_neg xg,if_neg xg,if_pos xg,if_neg j]
   rw[e,if_pos rfl,if_pos xg]
 ·have c1:=f 1 xg xg;have A:=f 2 xg xg;have C:=f 3 xg xg;have g:cv (b 0 % 8) b (4-1)=b 0 % 8*262144+b 1 % 64*4096+b 2 % 64*64+b 3 % 64:=by
   show ((b 0 % 8*64+b 1 % 64)*64+b 2 % 64)*64+b 3 % 64=_;omega
  rw[g];by_cases j:b 0 % 8*262144+b 1 % 64*4096+b 2 % 64*64+b 3 % 64>=65536/\(b 0 % 8*262144+b 1 % 64*4096+b 2 % 64*64+b 3 % 64<55296∨(57344<=b 0 % 8*262144+b 1 % 64*4096+b 2 % 64*64+b 3 % 64/\b 0 % 8*262144+b 1 % 64*4096+b 2 % 64*64+b 3 % 64<=1114111))
  ·have e:Lib.decodeN n (b 0) (b 1) (b 2) (b 3)=(b 0 % 8*262144+b 1 % 64*4096+b 2 % 64*64+b 3 % 64,4):=by
    unfold Lib.decodeN;rw[if_neg xg,if_neg xg,if_neg xg,if_pos xg,if_pos j]
   rw[e,if_neg xw,if_neg xg]
  ·have e:Lib.decodeN n (b 0) (b 1) (b 2) (b 3)=(65533,1):=by
    unfold Lib.decodeN;rw[if_neg xg,if_neg xg,if_neg xg,if_pos xg,if_neg j]
   rw[e,if_pos rfl,if_pos xg]
def zrm(s:B8)(i:Nat)(hi:i<s.length)(az:s.length<=ze):zf 386 [.str s,.i i] (.tup [.i (Vq (s.drop i)).1,.i (Vq (s.drop i)).2]):=by
 refine zo ir386 λKP Q g=>?_;simp only[ze]at az;have ak:(i:Int)<s.length:=xg
 have aa:¬ (i:Int)<0:=xg
 have ai:¬ (s.length:Int)<=i:=xg
 rw[zif hi]at g;have au:=znI s i 0;obtain⟨c,L⟩:∃c,s.getD i 0=c:=⟨_,rfl⟩;have af:c.toNat=bt s i 0:=xM L
 have M:(c.toNat:Int)=(bt s i 0:Nat):=by rw[af]
 have O:IntKind.wrap .i64 ((bt s i 0:Nat):Int)=(bt s i 0:Nat):=RG xg;generalize ad:(λk=>bt s i k)=b at *
 have a2:bt s i 0=b 0:=by rw[<-ad]
 have bk:∀k,bt s i k=b k:=λk=>by rw[<-ad]
 have ae:∀k,b k<256:=λk=>by rw[<-bk];exact znI s i k
 simp only[bk]at g au af M O;by_cases a:(b 0:Int)<128
 ·simp(disch:=omega) only[ir386,aa,ak,ai,L,M,O,a,steps,st2,Yy,rev,X8,Z9,Yi,YO,YP,bound,Zc,WJ,mk,yf,AV.cells,AV.boxable,AV.one,AV.strip1,AV.strip2,Zb,y7,go_sem_proc,AV.i,AV.e,AV.n,IC.op,LJ,W.m,W.M,W.z,W.f,W.F,W.v,W.V,W.l,W.L,W.b,W.B,W.N,W.G,W.x,W.E,W.d,W.D,W.q,W.Q,W.S,W.T,W.p,W.w,W.i,W.a,W.o,W.s,W.c,W.C,W.k,W.O,W.j,W.h,W.jj,W.hh,W.jjc,W.hhc,W.oc,W.t,W.J,W.e,W.n,W.y,W.I,W.K,W.R,W.r,W.r0,W.rz,W.ru,W.g,W.Y,W.A,W.Z,W.u,W.W,W.H,W.P,W.U,W.X,List.map_cons,List.map_nil,Nat.reduceSub];have e:Lib.decodeN (s.length-i) (b 0) (b 1) (b 2) (b 3)=(b 0,1):=by unfold Lib.decodeN;rw[if_pos xg]
  rw[e,if_neg vl]at g;exact xo g
 simp(disch:=omega) only[ir386,aa,ak,ai,L,M,O,a,steps,st2,Yy,rev,X8,Z9,Yi,YO,YP,bound,Zc,WJ,mk,yf,AV.cells,AV.boxable,AV.one,AV.strip1,AV.strip2,Zb,y7,go_sem_proc,AV.i,AV.e,AV.n,IC.op,LJ,W.m,W.M,W.z,W.f,W.F,W.v,W.V,W.l,W.L,W.b,W.B,W.N,W.G,W.x,W.E,W.d,W.D,W.q,W.Q,W.S,W.T,W.p,W.w,W.i,W.a,W.o,W.s,W.c,W.C,W.k,W.O,W.j,W.h,W.jj,W.hh,W.jjc,W.hhc,W.oc,W.t,W.J,W.e,W.n,W.y,W.I,W.K,W.R,W.r,W.r0,W.rz,W.ru,W.g,W.Y,W.A,W.Z,W.u,W.W,W.H,W.P,W.U,W.X,List.map_cons,List.map_nil,Nat.reduceSub];refine Sm (λx:Nat×Nat×Nat=>[(6,.i x.2.2),(7,.i x.1),(8,.i x.2.1)]) (λx H=>zlT (b 0) x.1 x.2.1 x.2.2/\H=zd.emp) (λam A=>?_) ?_
 ·refine xZ ?_;by_cases j:(194:Int)<=b 0
  ·by_cases p:(b 0:Int)<224
   ·have e:=zrK (n:=b 0) xg;refine wt j p e ?_;exact zJ (A (2,128,b 0 % 32) _ ⟨.inl ⟨by omega,by omega,rfl,rfl,rfl⟩,rfl⟩) x5
   ·by_cases z:(b 0:Int)<240
    ·have G:(224:Int)<=b 0:=xg
     have e:=zr1 (n:=b 0) xg;simp(disch:=omega) only[j,p,z,G,e,steps,st2,Yy,rev,X8,Z9,Yi,YO,YP,bound,Zc,WJ,mk,yf,AV.cells,AV.boxable,AV.one,AV.strip1,AV.strip2,Zb,y7,go_sem_proc];exact zJ (A (3,2048,b 0 % 16) _ ⟨.inr (.inl ⟨by omega,by omega,rfl,rfl,rfl⟩),rfl⟩) x5
    ·have G:(224:Int)<=b 0:=xg
     have X:(240:Int)<=b 0:=xg
     by_cases Y:(b 0:Int)<245
     ·have e:=and7 (n:=b 0) xg;simp(disch:=omega) only[j,p,z,G,X,Y,e,steps,st2,Yy,rev,X8,Z9,Yi,YO,YP,bound,Zc,WJ,mk,yf,AV.cells,AV.boxable,AV.one,AV.strip1,AV.strip2,Zb,y7,go_sem_proc];exact zJ (A (4,65536,b 0 % 8) _ ⟨.inr (.inr ⟨by omega,by omega,rfl,rfl,rfl⟩),rfl⟩) x5
     ·rw[Lib.decodeN_bad _ _ _ _ _ (.inr ⟨by omega,ae 0⟩),if_pos rfl]at g;simp(disch:=omega) only[j,p,z,G,X,Y,steps,st2,Yy,rev,X8,Z9,Yi,YO,YP,bound,Zc,WJ,mk,yf,AV.cells,AV.boxable,AV.one,AV.strip1,AV.strip2,Zb,y7,go_sem_proc];exact xo g
  ·have p:¬ (224:Int)<=b 0:=xg
   have z:¬ (240:Int)<=b 0:=xg
   rw[Lib.decodeN_bad _ _ _ _ _ (.inl ⟨by omega,by omega⟩),if_pos rfl]at g;refine wt j p z ?_;exact xo g
 rintro⟨w,lo,h⟩ H ⟨y,rfl⟩;simp only at y;have a8:h<32/\2<=w/\w<=4/\lo<=65536:=by rcases y with Z|Z|Z<;>omega
 by_cases ar:w<=s.length-i
 case neg =>
  have K:(s.length:Int)-i<w:=xg
  rw[zgx y xg,if_pos rfl]at g;simp(disch:=omega) only[wrap64,K,steps,st2,Yy,rev,X8,Z9,Yi,YO,YP,bound,Zc,WJ,mk,yf,AV.cells,AV.boxable,AV.one,AV.strip1,AV.strip2,Zb,y7,go_sem_proc];exact xo g
 have K:¬ (s.length:Int)-i<w:=xg
 simp(disch:=omega) only[wrap64,K,steps,st2,Yy,rev,X8,Z9,Yi,YO,YP,bound,Zc,WJ,mk,yf,AV.cells,AV.boxable,AV.one,AV.strip1,AV.strip2,Zb,y7,go_sem_proc];refine ZZ (λf:Nat=>[(6,.i (cv h b f)),(9,.i (f+1:Nat))]) (λf H=>f+1<=w/\(∀k,1<=k->k<f+1->128<=b k/\b k<=191)/\cv h b f<32*64 ^ f) (λf=>w-f) 0 (by simp(disch:=omega) only[cv,steps,st2,Yy,rev,X8,Z9,Yi,YO,YP,bound,Zc,WJ,mk,yf,AV.cells,AV.boxable,AV.one,AV.strip1,AV.strip2,Zb,y7,go_sem_proc]) ⟨by omega,λk I ab=>by omega,by simp[cv];omega⟩ ?_;rintro f H am ⟨a7,ag,a4⟩ A;have a5:cv h b f<8388608:=by
  have:f=0∨f=1∨f=2∨f=3:=xg
  rcases this with rfl|rfl|rfl|rfl<;>omega
 by_cases aj:f+1<w
 ·have v:((f+1:Nat):Int)<w:=xg
  have a0:((i:Int)+((f+1:Nat):Int)).toNat=i+(f+1):=xg
  have aw:(0:Int)<=(i:Int)+((f+1:Nat):Int):=xg
  have ax:(i:Int)+((f+1:Nat):Int)<s.length:=xg
  obtain⟨d,ah⟩:∃d,s.getD (i+(f+1)) 0=d:=⟨_,rfl⟩;have av:(d.toNat:Int)=(b (f+1):Nat):=by rw[<-ah,<-bk]
  have a3:=ae (f+1);have a1:IntKind.wrap .i64 ((b (f+1):Nat):Int)=(b (f+1):Nat):=RG xg;simp(disch:=omega) only[v,wrap64,a0,aw,ax,ah,av,a1,steps,st2,Yy,rev,X8,Z9,Yi,YO,YP,bound,Zc,WJ,mk,yf,AV.cells,AV.boxable,AV.one,AV.strip1,AV.strip2,Zb,y7,go_sem_proc];by_cases j:((b (f+1):Nat):Int)<128
  ·rw[zbt y xg aj (.inl xg),if_pos rfl]at g;refine xY j ?_;exact xo g
  by_cases p:(191:Int)<((b (f+1):Nat):Int)
  ·rw[zbt y xg aj (.inr xg),if_pos rfl]at g;refine wg j p ?_;exact xo g
  have an:=zrV (n:=b (f+1)) xg;have ao:IntKind.wrap .i64 ((cv h b f:Int)*2 ^ (min 6 IntKind.i64.bits))=((cv h b f*64:Nat):Int):=by
   have ap:(2:Int) ^ (min 6 IntKind.i64.bits)=64:=by decide
   rw[ap,wrap64 xg xg];omega
  have aq:=zsI (a:=cv h b f) (b:=b (f+1) % 64) xg (Nat.mod_lt _ xg);simp(disch:=omega) only[j,p,an,ao,aq,steps,st2,Yy,rev,X8,Z9,Yi,YO,YP,bound,Zc,WJ,mk,yf,AV.cells,AV.boxable,AV.one,AV.strip1,AV.strip2,Zb,y7,go_sem_proc];exact zJ (A (f+1) _ xg ⟨by omega,λk I ab=>by
   rcases Nat.lt_or_ge k (f+1)with ac|ac
   ·exact ag k I ac
   ·have:k=f+1:=xg
    subst this;omega,by simp only[cv];omega⟩) (by simp(disch:=omega) only[wrap64,cv,Int.natCast_add,Int.natCast_one,steps,st2,Yy,rev,X8,Z9,Yi,YO,YP,bound,Zc,WJ,mk,yf,AV.cells,AV.boxable,AV.one,AV.strip1,AV.strip2,Zb,y7,go_sem_proc])
 ·have v:¬ ((f+1:Nat):Int)<w:=xg
  have ay:f=w-1:=xg
  subst ay;rw[zh6 y ar (λk I ab=>ag k I xg)]at g;have a6:(IntKind.wrap .i64 ((cv h b (w-1):Nat):Int))=(cv h b (w-1):Nat):=RG xg;by_cases C:((cv h b (w-1):Nat):Int)<lo
  ·rw[if_pos (.inl xg)]at g;refine wg v C ?_;exact xo g
  by_cases J:(1114111:Int)<((cv h b (w-1):Nat):Int)
  ·rw[if_pos (.inr (.inl xg))]at g;refine wt v C J ?_;exact xo g
  by_cases U:(55296:Int)<=((cv h b (w-1):Nat):Int)
  ·by_cases al:((cv h b (w-1):Nat):Int)<57344
   ·rw[if_pos (.inr (.inr ⟨by omega,by omega⟩))]at g;simp(disch:=omega) only[v,C,J,U,al,steps,st2,Yy,rev,X8,Z9,Yi,YO,YP,bound,Zc,WJ,mk,yf,AV.cells,AV.boxable,AV.one,AV.strip1,AV.strip2,Zb,y7,go_sem_proc];exact xo g
   ·rw[if_neg xg]at g;simp(disch:=omega) only[v,C,J,U,al,steps,st2,Yy,rev,X8,Z9,Yi,YO,YP,bound,Zc,WJ,mk,yf,AV.cells,AV.boxable,AV.one,AV.strip1,AV.strip2,Zb,y7,go_sem_proc];exact xo g
  ·rw[if_neg xg]at g;simp(disch:=omega) only[v,C,J,U,steps,st2,Yy,rev,X8,Z9,Yi,YO,YP,bound,Zc,WJ,mk,yf,AV.cells,AV.boxable,AV.one,AV.strip1,AV.strip2,Zb,y7,go_sem_proc];exact xo g
def cZ(l:List Int):List (List AV):=l.map λn=>[.i n]
def zo2(l:List Int):(cZ l).length=l.length:=by simp[cZ]
def QW:Nat->B8->List Int
 | 0,_=>[]
 | k+1,l=>if l=[]then []else ((Vq l).1:Int)::QW k (l.drop (Vq l).2)
def zdo(k:Nat):QW k []=[]:=by cases k<;>simp[QW]
def zek(s:B8):List Int:=if Lib.validD s then QW s.length s else []
def zg7{l:B8}(f:l≠[])(h:(Vq l).2=0):Lib.validD l=false:=by
 have g:=Lib.decodeL_width l;unfold Vq at h;rw[if_neg f]at h;split at h
 ·rename_i e;rw[Lib.validD_step l f,e];simp
 ·omega
def zdK{l:B8}(f:l≠[])(h:(Vq l).2≠0):Lib.validD l=Lib.validD (l.drop (Vq l).2)/\(Vq l).2<=l.length:=by
 unfold Vq at h ⊢;rw[if_neg f]at h ⊢;split at h
 ·simp at h
 ·rename_i e;rw[if_neg e];refine⟨?_,Lib.decodeL_le l f⟩;rw[Lib.validD_step l f,if_neg];rintro⟨a,b⟩;exact e (Prod.ext a b)
def zof(s:B8)(I:s.length<=ze):zf 367 [.str s] (.tup [.o 1 (cZ (zek s)),.bool (Lib.validD s)]):=by
 refine zo ir367 λKP Q G=>?_;have W:=I;simp only[ze]at I;refine xa ?_;refine ZZ (λx:Own×List Int×Nat=>[(4,.sl x.1 1 (cZ x.2.1)),(5,.i x.2.2)]) (λx H=>x.2.2<=s.length/\x.2.1.length<=x.2.2/\QW s.length s=x.2.1++QW (s.length-x.2.1.length) (s.drop x.2.2)/\Lib.validD s=Lib.validD (s.drop x.2.2)/\zQ zd.emp .nil H x.1 x.2.1.length 1) (λx=>s.length-x.2.2) (.nil,[],0) (by simp(disch:=omega) only[cZ,go_sem]) ⟨by simp,by simp,by simp,by simp,zQ.refl rfl⟩ ?_;rintro⟨o,g,i⟩ H Y ⟨hi,L,h,f,z⟩ K;simp only at hi L h f z;by_cases U:i<s.length
 case neg =>
  have v:¬ (i:Int)<s.length:=xg
  rw[List.drop_of_length_le xg]at h f;rw[zdo,List.append_nil]at h;rw[Lib.validD_nil]at f;refine xc v ?_;exact G rfl (by simp[zek,f,h])
 have v:(i:Int)<s.length:=xg
 have y:s.drop i≠[]:=λe=>by have:=congrArg List.length e;simp at this;omega
 have j:=zo2 g;refine xt v (Zk.low (zrm s i U W)) ?_;by_cases C:(Vq (s.drop i)).2=0
 ·rw[zg7 y C]at f;have p:((Vq (s.drop i)).2:Int)=0:=xg
  refine xc p ?_;exact G rfl (by simp[zek,f,cZ])
 ·obtain⟨A,J⟩:=zdK y C;rw[T1]at J;rw[List.drop_drop]at A;have p:¬ ((Vq (s.drop i)).2:Int)=0:=xg
  refine xc p (zp (by rw[j];exact z.own) ?_ ?_ λo' H' X=>?_)
  ·simp only[j,yg,yy];omega
  ·refine xR j ?_;omega
  refine xq ?_;refine zJ (K (o',g++[((Vq (s.drop i)).1:Int)],i+(Vq (s.drop i)).2) H' wP ⟨by simp only;omega,by refine wm ?_;omega,?_,by rw[f,A],z.trans (by simpa[j]using X)⟩) (by simp(disch:=omega) only[cZ,List.map_append,Int.natCast_add,go_sem]);rw[h];obtain⟨k,M⟩:∃k,s.length-g.length=k+1:=⟨s.length-g.length-1,by omega⟩;have O:s.length-(g++[((Vq (s.drop i)).1:Int)]).length=k:=by refine wm ?_;omega
  simp only[M,O,QW];rw[if_neg y,List.drop_drop];simp
def znx(s:B8)(g:s.length<=ze):zf 333 [.str s] (.bool (Lib.validD s)):=by refine zo ir333 λKP Q f=>?_;refine xh (zof s g) ?_;exact vm f
open Go.Lib
end Go.Proofs.YtcbfcliickppiaaGreatDoor
namespace Go.Proofs.YtcbfcliickppiaaGreatDoor
open Go.Ab
open Go.Lib
end Go.Proofs.YtcbfcliickppiaaGreatDoor
namespace Go.Proofs.YtcbfcliickppiaaGreatDoor
open Go.Ab
structure Mk (H:zd) (w:Nat) (o:Own) (l:List Tok) (ok:Bool) (dp:Int):Prop where
 cell:H w=some (.cells [.sl o 2 (UL l),.bool ok,.i dp])
 own:zM H o l.length 2
structure XA (H:zd) (o:Own) (w:Nat) (H':zd) (o':Own):Prop where
 keep:∀c x,c≠w->(∀d,o≠.tip c d)->H c=some x->H' c=some x
 new:∀b d,o'=.tip b d->H b=none∨∃d0,o=.tip b d0
def XA.refl(H:zd)(o:Own)(w:Nat):XA H o w H o:=⟨λ_ _ _ _ f=>f,λb d e=>.inr ⟨d,e⟩⟩
def XA.trans{H j v:zd}{o o1 o2:Own}{w:Nat}{x:Yr}(h:XA H o w j o1)(K:j w=some x)(h':XA j o1 w v o2):XA H o w v o2:=by
 refine⟨λc g z A C=>h'.keep c g z (λd e=>?_) (h.keep c g z A C),λb d e=>?_⟩
 ·rcases h.new c d e with f|⟨p,f⟩
  ·rw[C]at f;cases f
  ·exact A p f
 ·rcases h'.new b d e with f|⟨p,f⟩
  ·cases I:H b with
   | none=>exact .inl rfl
   | some g =>
    by_cases y:∃d,o=.tip b d
    ·exact .inr y
    ·have J:b≠w:=nen2 K f;have:=h.keep b g J (λd G=>y ⟨d,G⟩) I;rw[f]at this;cases this
  ·exact h.new b p f
def XA.box{H H':zd}{o o':Own}{w b n:Nat}{f:List AV}(h:XA H o w H' o')(ho:zM H o n 2)(g:H b=some (.cells f))(j:b≠w):H' b=some (.cells f) :=h.keep b _ j (λd e=>by subst e;exact own_ne ho g rfl) g
def XA.upd{H H':zd}{o o':Own}{w:Nat}{x:Yr}(h:XA H o w H' o'):XA H o w (H'.upd w x) o' :=⟨λc p f g j=>by rw[upd_ne f];exact h.keep c p f g j,h.new⟩
def XA.alloc{H H':zd}{o o':Own}{w b:Nat}{x:Yr}(h:XA H o w H' o')(f:H' b=none):XA H o w (H'.upd b x) o' :=⟨λc v g j p=>by have:=h.keep c v g j p;rw[upd_ne (nen2 f this)];exact this,h.new⟩
def Mk.alloc{H:zd}{w b:Nat}{o:Own}{l:List Tok}{ok:Bool}{dp:Int}{x:Yr}(h:Mk H w o l ok dp)(f:H b=none):Mk (H.upd b x) w o l ok dp :=⟨by rw[upd_ne (λe=>by subst e;rw[h.cell]at f;cases f)];exact h.cell,h.own.upd f⟩
def Mk.put{H:zd}{w:Nat}{o:Own}{l:List Tok}{ok ok':Bool}{dp dp':Int}(h:Mk H w o l ok dp):Mk (H.upd w (.cells [.sl o 2 (UL l),.bool ok',.i dp'])) w o l ok' dp' :=⟨upd_same ..,Nx h.own h.cell⟩
def Mk.app{H f:zd}{w:Nat}{o o1:Own}{l ts:List Tok}{ok:Bool}{dp:Int}{n:Nat}(h:Mk H w o l ok dp)(g:zQ H o f o1 n 2)(j:n=(l++ts).length):
  f w=some (.cells [.sl o 2 (UL l),.bool ok,.i dp])/\Mk (f.upd w (.cells [.sl o1 2 (UL (l++ts)),.bool ok,.i dp])) w o1 (l++ts) ok dp/\XA H o w (f.upd w (.cells [.sl o1 2 (UL (l++ts)),.bool ok,.i dp])) o1:=by
 subst j;have p:=Pw h.own h.cell g.kept;exact⟨p,⟨upd_same ..,Nx g.own p⟩,λc z v j y=>by rw[upd_ne v];exact g.kept c z y j,g.new⟩
abbrev zlj(R:AV->zd->Prop):Tf->zd->Prop:=λe H'=>∃v,e=.ret v/\R v H'
def WC(f:FuncId)(args:List AV)(B:Nat)(lo hi:Int)(r:Int->Bool)(tk:List Tok):Prop :=∀(H:zd) (w:Nat) (o:Own) (l:List Tok) (ok:Bool) (dp:Int),Mk H w o l ok dp->lo<=dp->dp<=hi->l.length+B<=ze -> zZ f (.ptr w 0::args) H (zlj λh H'=>h=.tup []/\∃o' g,Mk H' w o' g (ok&&r dp) dp/\XA H o w H' o'/\g.length<=l.length+B/\((ok&&r dp)=true->g=l++tk))
structure WR (H0:zd) (o0:Own) (w:Nat) (l0:List Tok) (ok0:Bool) (dp:Int) (B:Nat) (r:Bool) (tk:List Tok) (H:zd) (o:Own) (l:List Tok):Prop where
 here:Mk H w o l (ok0&&r) dp
 st:XA H0 o0 w H o
 len:l.length<=l0.length+B
 eq:(ok0&&r)=true->l=l0++tk
def WR.refl{H:zd}{o:Own}{w:Nat}{l:List Tok}{ok:Bool}{dp:Int}(h:Mk H w o l ok dp):WR H o w l ok dp 0 true [] H o l :=⟨by rw[Bool.and_true];exact h,.refl _ _ _,ZG _,λ_=>by simp⟩
def WR.alloc{H0 H:zd}{o0 o:Own}{w b B:Nat}{l0 l tk:List Tok}{ok0 r:Bool}{dp:Int}{x:Yr}(h:WR H0 o0 w l0 ok0 dp B r tk H o l)(f:H b=none):WR H0 o0 w l0 ok0 dp B r tk (H.upd b x) o l :=⟨h.here.alloc f,h.st.alloc f,h.len,h.eq⟩
def WR.fin{H0 H:zd}{o0 o:Own}{w B B':Nat}{l0 l tk tk':List Tok}{ok0 r r':Bool}{dp:Int}(h:WR H0 o0 w l0 ok0 dp B r tk H o l)(g:r=r')(j:r'=true->tk=tk')(p:B<=B'):
  ∃o' f,Mk H w o' f (ok0&&r') dp/\XA H0 o0 w H o'/\f.length<=l0.length+B'/\((ok0&&r')=true->f=l0++tk'):=by
 subst g;refine⟨o,l,h.here,h.st,by have:=h.len;omega,λe=>?_⟩;rw[h.eq e,j (by simp only[yu]at e;exact e.2)]
section
variable {KP:AV->zd->Prop} {Q:ZV->Env->zd->Prop} {st:List Fr} {ρ:Env} {H:zd} {all items:List yo} {d:Option Nat} {R:List VQ}
def Tc{f:FuncId}{args:List AV}{B:Nat}{lo hi:Int}{r:Int->Bool}{tk:List Tok}(G:WC f args B lo hi r tk){w:Nat}{o:Own}{l:List Tok}{ok:Bool}{dp:Int}(h:Mk H w o l ok dp)(j:lo<=dp)(p:dp<=hi)(C:l.length+B<=ze)(k:∀o' g H',Mk H' w o' g (ok&&r dp) dp->XA H o w H' o'->g.length<=l.length+B->((ok&&r dp)=true->g=l++tk)->Qe Tryz.prog KP Q all items st R (ρ.set d (.tup [])) H'):
  goK Tryz.prog KP Q all items st d R ρ f (.ptr w 0::args) H:=by
 refine Pv (G H w o l ok dp h j p C) λJ H' ⟨I,o',g,v,y,z,A⟩=>?_;subst I;exact k o' g H' v y z A
def zT{f:FuncId}{args:List AV}{B':Nat}{lo hi:Int}{r':Int->Bool}{tk':List Tok}(A:WC f args B' lo hi r' tk'){H0:zd}{o0 o:Own}{w B:Nat}{l0 l tk:List Tok}{ok0 r:Bool}{dp:Int}(h:WR H0 o0 w l0 ok0 dp B r tk H o l)(p:lo<=dp)(v:dp<=hi)(G:l0.length+(B+B')<=ze)(k:∀o' g H',WR H0 o0 w l0 ok0 dp (B+B') (r&&r' dp) (tk++tk') H' o' g->XA H o w H' o'->Qe Tryz.prog KP Q all items st R (ρ.set d (.tup [])) H'):
  goK Tryz.prog KP Q all items st d R ρ f (.ptr w 0::args) H:=by
 have hlen:=h.len;refine Tc A h.here p v xg λo' g H' y j C z=>k o' g H' ⟨by rw[<-WX];exact y,h.st.trans h.here.cell j,by omega,λe=>?_⟩ j;rw[<-WX]at e;rw[z e,h.eq (by simp only[yu]at e ⊢;exact e.1),Uh]
end
def zqS:zZ 115 [] zd.emp (zlj λg H'=>∃w,g=.ptr w 0/\Mk H' w .nil [] true 0):=by refine Xe ir115 λKP Q f=>?_;refine xa (zb λb h=>?_);refine xa ?_;exact f _ _ _ _ [_] nofun rfl (yT.refl _) ⟨b,rfl,upd_same ..,rfl⟩
def Ww(b:Bool):WC 116 [.bool b] 0 (-1000) 1000 (λ_=>b) []:=by
 intro H w o l ok dp f j p v;refine Xe ir116 λKP Q g=>?_;have h:=f.cell;cases ok
 ·refine xc h ?_;exact g _ _ _ _ [] nofun rfl (yT.refl _) ⟨rfl,o,l,f.put,(XA.refl ..).upd,by simp,λ_=>by simp⟩
 ·refine xc h ?_;exact g _ _ _ _ [] nofun rfl (yT.refl _) ⟨rfl,o,l,by rw[Bool.true_and];exact f.put,(XA.refl ..).upd,by simp,λ_=>by simp⟩
def ZR(s:B8)(M:s.length<=ze):WC 239 [.str s] 1 (-1000) 1000 (λ_=>zI s) [wk s]:=by intro H w o l ok dp z A C K;refine Xe ir239 λKP Q J=>?_;have Y:=YJ l;simp only[ze]at K;refine xh (zcN s M) ?_;refine xa ?_;refine Tc (Ww _) z A C xi λo1 f U g G X I=>?_;have h:=YJ f;have L:=g.cell;refine xc L ?_;refine zp (by rw[h];exact g.own) (wT h) (wN h) λo2 W O=>?_;obtain⟨p,v,y⟩:=g.app (ts:=[wk s]) O (xr h);have j:UL f++[[AV.i 2,AV.str s]]=UL (f++[wk s]):=Sw f (wk s);refine xd p j ?_;exact J _ _ _ _ [] nofun rfl (yT.refl _) ⟨rfl,o2,f++[wk s],v,G.trans g.cell y,by simp;omega,λe=>by rw[I e];simp⟩
def YD(m:B8)(ab:Own):WC 240 [.sl ab 1 [[.str m]]] 1 (-1000) 1000 (λ_=>true) [pk m]:=by
 intro H w o l ok dp L ae af U;refine Xe ir240 λKP Q O=>?_;simp only[ze]at U;refine xa ?_;refine zc [m] 8 (λx:Own×List Tok=>[]) (λj ac x H'=>Mk H' w x.1 x.2 ok dp/\XA H o w H' x.1/\x.2=l++j.map pk) (o,l) xb ⟨L,.refl _ _ _,by simp⟩ ?_ ?_
 ·rintro⟨o1,g⟩ y C ⟨f,p,h⟩ A;simp only at f p h;refine xa ?_;refine O _ _ y y [] nofun rfl (yT.refl _) ⟨rfl,o1,g,by simpa using f,p,by rw[h];simp,λ_=>by rw[h];simp⟩
 ·rintro j x ac ⟨o1,g⟩ y C z A Z ⟨f,p,h⟩ M;simp only at f p h;have ah:g.length<=l.length+1:=by rw[h];simp only[ZX,List.length_map];have:=congrArg List.length z;simp at this;omega
  have X:([[AV.str m]]:List (List AV)).getD j.length []=[.str x]:=by have:([m].map λk=>[AV.str k]).getD j.length []=[.str x]:=Z2 z;exact this
  have v:=YJ g;have W:=f.cell;have Y:((j.length:Int)<1)=True:=eq_true (xy A);have ag:j.length<1:=xy Z
  refine xe Y X W ?_;refine zp (by rw[v];exact f.own) (wT v) (wN v) λo2 ad aa=>?_;obtain⟨I,J,K⟩:=f.app (ts:=[pk x]) aa (xr v);have G:UL g++[[AV.i 1,AV.str x]]=UL (g++[pk x]):=Sw g (pk x);simp(disch:=omega) only[I,G,wrap64,go_sem];exact zJ (M (o2,g++[pk x]) _ ⟨J,p.trans f.cell K,by rw[h];simp⟩) xb
def LO(v:Val):SP v=if WU v then Vp v else []:=by unfold SP;rfl
def zfa(v:Val)(ab:wfV v)(Y:4*bV v<=ze)(fixed:Bool):WC 321 [.agg (cV v),.bool fixed] (4*bV v) 0 32 (λdp=>ZP dp fixed v) (Vp v):=by
 intro H w o l ok dp W am an ak;have aa:bV v<=ze:=by simp only[ze]at Y ⊢;omega
 have ap:(SP v).length<=4*bV v:=by
  have:=P6 v;rw[LO];split
  ·omega
  ·simp
 have K:=YJ (SP v);have ao:=RN v;have ah:=zn (yN v []);simp only[ze]at ak Y;refine Xe ir321 λKP Q Z=>?_;have X:=W.cell;have fin:∀(b:Bool),b=ZP dp fixed v->∀(y:zd) (o2:Own) (f:List Tok),Mk y w o2 f (ok&&b) dp->XA H o w y o2->f.length<=l.length+0->((ok&&b)=true->f=l++[]) ->
   ∀(j:zd) (p:Own),zQ y o2 j p ((UL f).length+(UL (SP v)).length) 2 ->
   j w=some (.cells [.sl o2 2 (UL f),.bool (ok&&b),.i dp])/\∃o' ae,Mk (j.upd w (.cells [.sl p 2 (UL f++UL (SP v)),.bool (ok&&b),.i dp])) w o' ae (ok&&ZP dp fixed v) dp /\ XA H o w (j.upd w (.cells [.sl p 2 (UL f++UL (SP v)),.bool (ok&&b),.i dp])) o'/\ae.length<=l.length+4*bV v/\((ok&&ZP dp fixed v)=true->ae=l++Vp v):=by
  intro b z y o2 f g G J I j p al;obtain⟨C,A,ag⟩:=g.app (ts:=SP v) al (by simp[YJ]);rw[zdB]at A ag;refine⟨C,p,f++SP v,by rw[<-z];exact A,G.trans g.cell ag,by simp only[ZX];omega,λe=>?_⟩;rw[<-z]at e;have af:ZP dp fixed v=true:=by rw[<-z];simp only[yu]at e;exact e.2
  have aj:WU v=true:=by simp only[ZP,yu]at af;exact af.1
  rw[I e,LO,aj];simp
 have ac:IntKind.wrap .i64 (dp+Yx v)=dp+Yx v:=wrap64 xg xg;cases O:WU v with
 | false =>
  have z:false=ZP dp fixed v:=by simp[ZP,O]
  refine xS (Ny v ab Y) ?_;refine xc O ?_;refine Tc (Ww _) W xg xg xi λo2 f y g G J I=>?_;have h:=YJ f;have L:=g.cell;refine xc L ?_;refine zp (by rw[h];exact g.own) (by rw[h,K];omega) (w7 h K) λp j M=>?_;obtain⟨C,A⟩:=fin _ z y o2 f g G J I j p M;simp(disch:=omega) only[C,TY,go_sem];exact Z _ _ _ _ [] nofun rfl (yT.refl _) ⟨rfl,A⟩
 | true =>
  by_cases U:dp+Yx v<=16
  case neg =>
   have z:false=ZP dp fixed v:=by simp[ZP,U]
   refine xS (Ny v ab Y) ?_;refine wI O X (zav v aa) ?_;refine xx ac U X ?_;refine Tc (Ww _) W xg xg xi λo2 f y g G J I=>?_;have h:=YJ f;have L:=g.cell;refine xc L ?_;refine zp (by rw[h];exact g.own) (by rw[h,K];omega) (w7 h K) λp j M=>?_;obtain⟨C,A⟩:=fin _ z y o2 f g G J I j p M;simp(disch:=omega) only[C,TY,go_sem];exact Z _ _ _ _ [] nofun rfl (yT.refl _) ⟨rfl,A⟩
  cases fixed with
  | false =>
   have z:true=ZP dp false v:=by simp[ZP,U,O]
   refine xS (Ny v ab Y) ?_;refine wI O X (zav v aa) ?_;refine xx ac U X ?_;refine Tc (Ww _) W xg xg xi λo2 f y g G J I=>?_;have h:=YJ f;have L:=g.cell;refine xc L ?_;refine zp (by rw[h];exact g.own) (by rw[h,K];omega) (w7 h K) λp j M=>?_;obtain⟨C,A⟩:=fin _ z y o2 f g G J I j p M;simp(disch:=omega) only[C,TY,go_sem];exact Z _ _ _ _ [] nofun rfl (yT.refl _) ⟨rfl,A⟩
  | true =>
   refine xS (Ny v ab Y) ?_;refine wI O X (zav v aa) ?_;refine xx ac U X ?_;refine za (ziI v aa) ?_;by_cases ai:(yN v []).length=0
   ·have z:true=ZP dp true v:=by simp[ZP,U,O,ai]
    have ad:¬ ((0:Int)<(yN v []).length):=xg
    refine wc ah ad ?_;refine Tc (Ww _) W xg xg xi λo2 f y g G J I=>?_;have h:=YJ f;have L:=g.cell;refine xc L ?_;refine zp (by rw[h];exact g.own) (by rw[h,K];omega) (w7 h K) λp j M=>?_;obtain⟨C,A⟩:=fin _ z y o2 f g G J I j p M;simp(disch:=omega) only[C,TY,go_sem];exact Z _ _ _ _ [] nofun rfl (yT.refl _) ⟨rfl,A⟩
   ·have z:false=ZP dp true v:=by simp[ZP,U,O,ai]
    have ad:((0:Int)<(yN v []).length)=True:=eq_true xg;refine wc ah ad ?_;refine Tc (Ww _) W xg xg xi λo2 f y g G J I=>?_;have h:=YJ f;have L:=g.cell;refine xc L ?_;refine zp (by rw[h];exact g.own) (by rw[h,K];omega) (w7 h K) λp j M=>?_;obtain⟨C,A⟩:=fin _ z y o2 f g G J I j p M;simp(disch:=omega) only[C,TY,go_sem];exact Z _ _ _ _ [] nofun rfl (yT.refl _) ⟨rfl,A⟩
def zb0(m:Int)(k:Nat)(g:k<=64):m.fdiv (2 ^ min k IntKind.i64.bits)=m / 2 ^ k:=by
 have e:min k IntKind.i64.bits=k:=by show min k 64=k;omega
 have f:(0:Int)<=2 ^ k:=by exact_mod_cast Nat.zero_le _
 rw[e,Int.fdiv_eq_ediv_of_nonneg _ f]
def V5(t:X4)(y:t.nm.length<=ze):zf 319 [.agg (YQ t)] (.bool (zD t)):=by
 refine zo ir319 λKP Q p=>?_;obtain⟨z,ls,ms⟩:=t;simp only at y;simp(disch:=omega) only[ir319,YQ,steps,st2,Yy,rev,X8,Z9,Yi,YO,YP,bound,Zc,WJ,mk,yf,AV.cells,AV.boxable,AV.one,AV.strip1,AV.strip2,Zb,y7,go_sem_proc,AV.i,AV.e,AV.n,IC.op,LJ,W.m,W.M,W.z,W.f,W.F,W.v,W.V,W.l,W.L,W.b,W.B,W.N,W.G,W.x,W.E,W.d,W.D,W.q,W.Q,W.S,W.T,W.p,W.w,W.i,W.a,W.o,W.s,W.c,W.C,W.k,W.O,W.j,W.h,W.jj,W.hh,W.jjc,W.hhc,W.oc,W.t,W.J,W.e,W.n,W.y,W.I,W.K,W.R,W.r,W.r0,W.rz,W.ru,W.g,W.Y,W.A,W.Z,W.u,W.W,W.H,W.P,W.U,W.X,List.map_cons,List.map_nil,Nat.reduceSub];refine za (zcN z y) ?_;cases h:zI z with
 | false =>refine xZ ?_;exact p rfl (by simp[zD,h])
 | true =>
  by_cases f:0<=ls
  case neg =>refine xY f ?_;exact p rfl (by simp[zD,h,f])
  by_cases g:ls<=4
  case neg =>refine wg f g ?_;exact p rfl (by simp[zD,h,f,g])
  by_cases j:0<=ms
  case neg =>refine wt f g j ?_;exact p rfl (by simp[zD,h,f,g,j])
  have K:IntKind.wrap .i64 (ls+1)=ls+1:=wrap64 xg xg;have L:¬ (ls+1<0):=xg
  have A:(ls+1).toNat=ls.toNat+1:=xg
  have C:=zb0 ms (ls.toNat+1) xg;have J:(0:Int)<2 ^ (ls.toNat+1):=by exact_mod_cast Nat.pos_of_ne_zero xw
  have G:(ms / 2 ^ (ls.toNat+1)=0)=(ms<2 ^ (ls.toNat+1)):=propext ⟨λv=>by
   by_cases I:ms<2 ^ (ls.toNat+1)
   ·exact I
   ·have:=(Int.le_ediv_iff_mul_le J).2 (show 1*2 ^ (ls.toNat+1)<=ms by omega);omega,λv=>Int.ediv_eq_zero_of_lt j v⟩
  simp(disch:=omega) only[f,g,j,K,L,A,C,G,steps,st2,Yy,rev,X8,Z9,Yi,YO,YP,bound,Zc,WJ,mk,yf,AV.cells,AV.boxable,AV.one,AV.strip1,AV.strip2,Zb,y7,go_sem_proc];exact p rfl (by simp[zD,h,f,g,j])
def WR.cast{H0 H:zd}{o0 o:Own}{w B B':Nat}{l0 l tk tk':List Tok}{ok0 r r':Bool}{dp:Int}(h:WR H0 o0 w l0 ok0 dp B r tk H o l)(j:B<=B')(f:r=r')(g:tk=tk'):WR H0 o0 w l0 ok0 dp B' r' tk' H o l:=by subst f;subst g;exact⟨h.here,h.st,by have:=h.len;omega,h.eq⟩
def WR.after{H0 f H:zd}{o0 o1 o:Own}{w B:Nat}{l0 l tk:List Tok}{ok0 r:Bool}{dp:Int}(h:WR f o1 w l0 ok0 dp B r tk H o l)(g:XA H0 o0 w f o1){x:Yr}(j:f w=some x):WR H0 o0 w l0 ok0 dp B r tk H o l :=⟨h.here,g.trans j h.st,h.len,h.eq⟩
def OK(n:Nat)(m:Int):Nat->List Tok
 | 0=>[]
 | j+1=>zkP n m j++OK n m j
def LT(n:Nat)(m:Int):∀f,zhX n m f=OK n m (f+1)
 | 0=>by simp[zhX,OK]
 | f+1=>by rw[zhX,LT n m f];rfl
def and1{x:Int}(g:0<=x)(h:x<64):IntKind.wrap .i64 ((BitVec.ofInt IntKind.i64.bits x &&& BitVec.ofInt IntKind.i64.bits 1).toNat:Int)=x % 2:=by
 have:∀f:Fin 64,IntKind.wrap .i64 ((BitVec.ofInt IntKind.i64.bits (f.val:Int) &&& BitVec.ofInt IntKind.i64.bits 1).toNat:Int)=(f.val:Int) % 2:=by decide +kernel
 have:=this ⟨x.toNat,by omega⟩;simp only[Int.toNat_of_nonneg g]at this;exact this
def zaR(t:X4)(ac:t.nm.length<=ze):WC 241 [.agg (YQ t)] 20 (-1000) 1000 (λ_=>zD t) (tTy t):=by
 intro H w o l ok dp a0 bj bl ao;have bp:=ao;simp only[ze]at ao;refine Xe ir241 λKP Q an=>?_;obtain⟨h,ls,ms⟩:=t;simp only at ac;have aw:YQ ⟨h,ls,ms⟩=[.str h,.i ls,.i ms]:=rfl;simp(disch:=omega) only[ir241,aw,steps,st2,Yy,rev,X8,Z9,Yi,YO,YP,bound,Zc,WJ,mk,yf,AV.cells,AV.boxable,AV.one,AV.strip1,AV.strip2,Zb,y7,go_sem_proc,AV.i,AV.e,AV.n,IC.op,LJ,W.m,W.M,W.z,W.f,W.F,W.v,W.V,W.l,W.L,W.b,W.B,W.N,W.G,W.x,W.E,W.d,W.D,W.q,W.Q,W.S,W.T,W.p,W.w,W.i,W.a,W.o,W.s,W.c,W.C,W.k,W.O,W.j,W.h,W.jj,W.hh,W.jjc,W.hhc,W.oc,W.t,W.J,W.e,W.n,W.y,W.I,W.K,W.R,W.r,W.r0,W.rz,W.ru,W.g,W.Y,W.A,W.Z,W.u,W.W,W.H,W.P,W.U,W.X,List.map_cons,List.map_nil,Nat.reduceSub];refine za (show zf 319 [.agg [.str h,.i ls,.i ms]] (.bool (zD ⟨h,ls,ms⟩)) from V5 ⟨h,ls,ms⟩ ac) ?_;refine xZ (Tc (Ww _) a0 xg xg xi λo2 A G y al bn am=>?_);have L:=y.cell;cases v:ok&&zD ⟨h,ls,ms⟩with
 | false =>rw[v]at y L;refine xY L ?_;exact an _ _ G G [] nofun rfl (yT.refl _) ⟨rfl,o2,A,by rw[v];exact y,al,by omega,λe=>by rw[v]at e;cases e⟩
 | true =>
  rw[v]at y L am;have av:A=l:=by have:=am rfl;simpa using this
  subst av;have aq:zD ⟨h,ls,ms⟩=true:=by simp only[yu]at v;exact v.2
  simp only[zD,yu,Zh]at aq;obtain⟨a4,bx,bz,ar,bd⟩:=aq;obtain⟨n,rfl⟩:∃n:Nat,ls=(n:Int):=⟨ls.toNat,by omega⟩;have ak:(n:Int).toNat=n:=xg
  rw[ak]at bd;have bu:n<=4:=xg
  have br:ms<64:=by
   have:(2:Int) ^ (n+1)<=2 ^ 5:=by exact_mod_cast Nat.pow_le_pow_right (by decide) (by omega:n+1<=5)
   omega
  have w0:=WR.refl y;refine xY L ?_;refine ZZ (λx:Nat×Own×List Tok=>[(16,.i x.1)]) (λx H'=>x.1<=n/\WR G o2 w A true dp x.1 true (List.replicate x.1 (pk [91])) H' x.2.1 x.2.2) (λx=>n-x.1) (0,o2,A) x5 ⟨by simp,w0⟩ ?_;rintro⟨i,bw,bv⟩ be bf ⟨hi,ah⟩ a2;simp only at hi ah;by_cases bq:i<n
  ·have ab:((i:Int)<n)=True:=eq_true xg;refine xY ab (zT (YD [91] _) ah xg xg xi λaf ad aj U _=>?_);refine wr ?_;exact zJ (a2 (i+1,af,ad) aj wP ⟨by simp only;omega,U.cast (ZG _) rfl (by rw[List.replicate_succ'])⟩) (by simp(disch:=omega) only[Int.natCast_add,steps,st2,Yy,rev,X8,Z9,Yi,YO,YP,bound,Zc,WJ,mk,yf,AV.cells,AV.boxable,AV.one,AV.strip1,AV.strip2,Zb,y7,go_sem_proc])
  ·have ab:¬ ((i:Int)<n):=xg
   obtain rfl:i=n:=xg
   refine xY ab (zT (ZR h ac) ah xg xg xi λaf ad aj U _=>?_);rw[a4]at U;refine xZ ?_;refine ZZ (λx:Nat×Own×List Tok×Nat×List Tok=>[(4,.i ((x.1:Int)-1))]) (λx H'=>x.1<=i+1/\x.2.2.2.1+2*x.1<=19/\x.2.2.2.2++OK i ms x.1=tTy ⟨h,i,ms⟩/\WR G o2 w A true dp x.2.2.2.1 true x.2.2.2.2 H' x.2.1 x.2.2.1) (λx=>x.1) (i+1,af,ad,i+1,List.replicate i (pk [91])++[wk h]) (by simp(disch:=omega) only[Int.natCast_add,Int.add_sub_cancel,steps,st2,Yy,rev,X8,Z9,Yi,YO,YP,bound,Zc,WJ,mk,yf,AV.cells,AV.boxable,AV.one,AV.strip1,AV.strip2,Zb,y7,go_sem_proc]) ⟨by simp,by simp only;omega,by simp only[tTy,ak,LT];simp,U.cast (ZG _) rfl rfl⟩ ?_;rintro⟨k,ba,a8,B,tk⟩ Y bg ⟨a3,a1,g,C⟩ I;simp only at a3 a1 g C;cases k with
   | zero =>
    have z:¬ ((0:Int)<=-1):=xg
    have X:=C.after al y.cell;simp only[OK,List.append_nil]at g;simp(disch:=omega) only[z,Int.reduceSub,steps,st2,Yy,rev,X8,Z9,Yi,YO,YP,bound,Zc,WJ,mk,yf,AV.cells,AV.boxable,AV.one,AV.strip1,AV.strip2,Zb,y7,go_sem_proc];refine an _ _ Y Y [] nofun rfl (yT.refl _) ⟨rfl,?_⟩;obtain⟨o',a7,ax,ay,bh,az⟩:=X.fin (B':=20) rfl (λ_=>g) xg;rw[v];exact⟨o',a7,by simpa using ax,ay,by omega,λ_=>by simpa using az rfl⟩
   | succ f =>
    have aa:((f+1:Nat):Int)-1=(f:Int):=xg
    have z:((0:Int)<=f)=True:=eq_true xg;have K:=zb0 ms f xg;have a5:0<=ms / 2 ^ f:=Int.ediv_nonneg ar (by exact_mod_cast Nat.zero_le _);have a6:ms / 2 ^ f<64:=by have:ms / 2 ^ f<=ms:=Int.ediv_le_self _ ar;omega
    have J:=and1 a5 a6;have M:¬ ((f:Int)<0):=xg
    simp only[OK,zkP]at g;by_cases ap:f<i
    ·have O:((f:Int)<i)=True:=eq_true xg;rw[if_pos ap]at g;refine wt aa z O (zT (YD [93] _) C xg xg xi λbc a9 au X _=>?_);by_cases j:ms / 2 ^ f % 2=1
     ·have p:za1 ms f=true:=by simp[za1,j]
      rw[p]at g;simp(disch:=omega) only[K,M,J,j,steps,st2,Yy,rev,X8,Z9,Yi,YO,YP,bound,Zc,WJ,mk,yf,AV.cells,AV.boxable,AV.one,AV.strip1,AV.strip2,Zb,y7,go_sem_proc];refine zT (YD [33] _) X xg xg xi λag ae Z ai _=>?_;refine wr ?_;exact zJ (I (f,ag,ae,B+1+1,tk++[pk [93]]++[pk [33]]) Z (Nat.lt_succ_self f) ⟨by simp only;omega,by simp only;omega,by rw[<-g];simp,ai.cast (ZG _) rfl rfl⟩) x5
     ·have p:za1 ms f=false:=by simp[za1,j]
      rw[p]at g;simp(disch:=omega) only[K,M,J,j,wrap64,steps,st2,Yy,rev,X8,Z9,Yi,YO,YP,bound,Zc,WJ,mk,yf,AV.cells,AV.boxable,AV.one,AV.strip1,AV.strip2,Zb,y7,go_sem_proc];exact zJ (I (f,bc,a9,B+1,tk++[pk [93]]) au (Nat.lt_succ_self f) ⟨by simp only;omega,by simp only;omega,by rw[<-g];simp,X.cast (ZG _) rfl rfl⟩) x5
    ·have O:¬ ((f:Int)<i):=xg
     rw[if_neg ap]at g;by_cases j:ms / 2 ^ f % 2=1
     ·have p:za1 ms f=true:=by simp[za1,j]
      rw[p]at g;simp(disch:=omega) only[aa,z,O,K,M,J,j,steps,st2,Yy,rev,X8,Z9,Yi,YO,YP,bound,Zc,WJ,mk,yf,AV.cells,AV.boxable,AV.one,AV.strip1,AV.strip2,Zb,y7,go_sem_proc];refine zT (YD [33] _) C xg xg xi λag ae Z ai _=>?_;refine wr ?_;exact zJ (I (f,ag,ae,B+1,tk++[pk [33]]) Z (Nat.lt_succ_self f) ⟨by simp only;omega,by simp only;omega,by rw[<-g];simp,ai.cast (ZG _) rfl rfl⟩) x5
     ·have p:za1 ms f=false:=by simp[za1,j]
      rw[p]at g;simp(disch:=omega) only[aa,z,O,K,M,J,j,wrap64,steps,st2,Yy,rev,X8,Z9,Yi,YO,YP,bound,Zc,WJ,mk,yf,AV.cells,AV.boxable,AV.one,AV.strip1,AV.strip2,Zb,y7,go_sem_proc];exact zJ (I (f,ba,a8,B,tk) Y (Nat.lt_succ_self f) ⟨by simp only;omega,by simp only;omega,by rw[<-g];simp,C⟩) x5
def Kq(has:Bool)(v:Val)(A:wfV v)(p:4*bV v<=ze):WC 242 [.bool has,.agg (cV v)] (1+4*bV v) 0 32 (λdp=>if has then ZP dp true v else Th v zV) (tDf has v):=by
 intro H w o l ok dp y I J K;have z:bV v<=ze:=by simp only[ze]at p ⊢;omega
 refine Xe ir242 λKP Q j=>?_;have w0:=WR.refl y;cases has with
 | false =>refine xA ?_;refine za (Zk.low (r:=.bool (Th v zV)) (by have:=znH v z zV;simpa[AV.strip,TP,zeS,AV.strip1]using this)) ?_;refine xa ?_;refine zT (Ww _) w0 xg xg xg λo2 C f g _=>?_;refine xa ?_;exact j _ _ f f [] nofun rfl (yT.refl _) ⟨rfl,g.fin xw (λ_=>by simp[tDf]) xg⟩
 | true =>refine xA ?_;refine zT (YD [61] _) w0 xg xg xg λo2 C f g _=>?_;refine xA ?_;refine zT (zfa v A p true) g xg xg xg λM L h G _=>?_;refine xa ?_;exact j _ _ h h [] nofun rfl (yT.refl _) ⟨rfl,G.fin xw (λ_=>by simp[tDf]) xg⟩
def zi1(fixed:Bool)(m:List yU)(ah:Lz m)(ae:8*ZC m<=ze):WC 322 [.bool fixed,.o 6 (Ya m)] (2+6*ZC m) 0 32 (λdp=>YV dp fixed m) (zc5 m):=by
 intro H w o l ok dp Z ay az p;have a1:=y5 m;have j:=yI m;refine Xe ir322 λKP Q J=>?_;have w0:=WR.refl Z;by_cases M:m.length=0
 ·have C:((m.length:Int)=0)=True:=eq_true xg;refine xd j C ?_;have Y:=Pa.1 M;subst Y;exact J _ _ H H [] nofun rfl (yT.refl _) ⟨rfl,w0.fin rfl (λ_=>rfl) xg⟩
 ·have C:¬ ((m.length:Int)=0):=xg
  refine xd j C (zT (YD [40] _) w0 xg xg xg λo2 aj av aq _=>?_);refine xc j ?_;refine zc m 16 (λx:Own×List Tok=>[]) (λg O x H'=>WR H o w l ok dp (1+6*ZC g) (YV dp fixed g) (pk [40]::V6 g) H' x.1 x.2) (o2,aj) xb (aq.cast xg rfl rfl) ?_ ?_
  ·rintro⟨am,ak⟩ G X h A;simp only at h;refine xd j A (zT (YD [41] _) h xg xg xg λa6 a3 I v _=>?_);refine xa ?_;exact J _ _ I I [] nofun rfl (yT.refl _) ⟨rfl,v.fin xw (λ_=>by unfold zc5;rw[if_neg M];rfl) xg⟩
  ·rintro g x O ⟨am,ak⟩ G X z A a0 h aa;simp only at h;have ad:=yZ z;have L:=Wb g x O;rw[<-z]at L;have ag:x∈m:=xv z
   obtain⟨s,f⟩:=x;have ai:=MT ah s f ag;have a2:=RE f;simp only[bM]at L;have af:=ae;simp only[ze]at af;have y:b0 w=b0 w:=rfl;refine xx j A ad (zb λb p=>?_);have y:b≠w:=λe=>by subst e;rw[h.here.cell]at p;cases p
   have v:=h.alloc (x:=.cells (.str s::cV f)) p;have ac:(G.upd b (.cells (.str s::cV f))) b=some (.cells (.str s::cV f)):=upd_same ..;refine xA (zT (ZR s xi) v xg xg xg λa7 a4 aw U ao=>?_);have K:=ao.box v.here.own ac y;refine xI K (zT (YD [58] _) U xg xg xg λa8 a5 ax ar ap=>?_);have ab:=ap.box U.here.own K y;refine xI ab (zT (zfa f ai xi fixed) ar xg xg xg λan al W au a9=>?_);refine xq ?_;exact zJ (aa (an,al) W (au.cast (by rw[Wb g (.mk s f) []];simp only[bM,ZC];omega) (by simp[YV,K6,WX]) (by rw[Kw];simp[V6,zhR,wk,pk]))) xb
def Wk{t:X4}(h:zD t=true):0<=t.lists/\t.lists<=4/\0<=t.musts/\t.musts<32:=by
 simp only[zD,yu,Zh]at h;obtain⟨p,f,g,j,v⟩:=h;have:(2:Int) ^ (t.lists.toNat+1)<=2 ^ 5:=by exact_mod_cast Nat.pow_le_pow_right (by decide) xg
 refine⟨f,g,j,?_⟩;omega
def MV(m:Int):Bool:=decide (m % 2=1)
def zr5(z:B8)(ls ms:Int)(v:0<=ms)(y:ms<64):zf 340 [.agg [.str z,.i ls,.i ms],.i 0] (.bool (MV ms)):=by
 refine zo ir340 λKP Q f=>?_;have j:=zb0 ms 0 xg;simp only[Int.pow_zero,Int.ediv_one]at j;have p:=and1 v y;by_cases g:ms % 2=1
 ·have h:MV ms=true:=by simp[MV,g]
  rw[h]at f;refine xQ j p g ?_;exact xo f
 ·have h:MV ms=false:=by simp[MV,g]
  rw[h]at f;refine xQ j p g ?_;exact xo f
def SK(t:X4):Bool:=zD t&&MV t.musts
def isC(t:X4)(A:t.nm.length<=ze):zf 291 [.agg (YQ t)] (.bool (SK t)):=by
 refine zo ir291 λKP Q h=>?_;have j:=V5 t A;have hf:=@Wk t;obtain⟨p,ls,ms⟩:=t;simp only[YQ]at j;simp(disch:=omega) only[ir291,YQ,go_sem];refine za j ?_;cases f:zD ⟨p,ls,ms⟩with
 | false =>refine xa ?_;exact h rfl (by simp[SK,f])
 | true =>obtain⟨v,y,g,z⟩:=hf f;simp only at v y g z;refine xh (zr5 p ls ms g xg) ?_;refine xa ?_;exact h rfl (by simp[SK,f])
def zTy:X4:=⟨[],0,0⟩
def ZH(t:X4):Option X4:=if zD t=true/\t.lists≠0 then some ⟨t.nm,t.lists-1,t.musts / 2⟩else none
def znZ(t:X4)(J:t.nm.length<=ze):zf 344 [.agg (YQ t)] (.tup [.agg (YQ ((ZH t).getD zTy)),.bool (ZH t).isSome]):=by
 refine zo ir344 λKP Q I=>?_;have y:=V5 t J;have hf:=@Wk t;obtain⟨g,ls,ms⟩:=t;simp only[YQ]at y;have fin:∀o,ZH ⟨g,ls,ms⟩=o->∀ρ H v,zx ρ H ir344.1.res=some v->(Yz v).strip=.tup [.agg (YQ (o.getD zTy)),.bool o.isSome]->Q .ret ρ H:=λo e ρ H v j p=>I j (by rw[p,e]);simp(disch:=omega) only[ir344,YQ,steps,st2,Yy,rev,X8,Z9,Yi,YO,YP,bound,Zc,WJ,mk,yf,AV.cells,AV.boxable,AV.one,AV.strip1,AV.strip2,Zb,y7,go_sem_proc,AV.i,AV.e,AV.n,IC.op,LJ,W.m,W.M,W.z,W.f,W.F,W.v,W.V,W.l,W.L,W.b,W.B,W.N,W.G,W.x,W.E,W.d,W.D,W.q,W.Q,W.S,W.T,W.p,W.w,W.i,W.a,W.o,W.s,W.c,W.C,W.k,W.O,W.j,W.h,W.jj,W.hh,W.jjc,W.hhc,W.oc,W.t,W.J,W.e,W.n,W.y,W.I,W.K,W.R,W.r,W.r0,W.rz,W.ru,W.g,W.Y,W.A,W.Z,W.u,W.W,W.H,W.P,W.U,W.X,List.map_cons,List.map_nil,Nat.reduceSub];refine zb λK L=>?_;refine xZ ?_;refine za y ?_;cases h:zD ⟨g,ls,ms⟩with
 | false =>refine xZ ?_;exact fin none (by simp[ZH,h]) _ _ [.agg [.str [],.int .i64 0,.int .i64 0],.bool false] xF rfl
 | true =>
  obtain⟨j,p,C,G⟩:=hf h;simp only at j p C G;by_cases f:ls=0
  ·refine xY f ?_;exact fin none (by simp[ZH,f]) _ _ [.agg [.str [],.i 0,.i 0],.bool false] xF rfl
  ·have z:IntKind.wrap .i64 (ls-1)=ls-1:=wrap64 xg xg;have A:ms.fdiv (2 ^ min 1 IntKind.i64.bits)=ms / 2:=by have:=zb0 ms 1 xg;simpa using this
   refine wt f z A ?_;exact fin (some ⟨g,ls-1,ms / 2⟩) (by simp[ZH,f,h]) _ _ [.agg [.str g,.i (ls-1),.i (ms / 2)],.bool true] xF rfl
def Mt(b a:Int):Bool:=decide (IntKind.i64.wrap ((BitVec.ofInt IntKind.i64.bits b &&& ~~~BitVec.ofInt IntKind.i64.bits a).toNat:Int)=0)
def Xl(a b:X4):Bool:=zD a&&(zD b&&(decide (a.nm=b.nm)&&(decide (a.lists=b.lists)&&Mt b.musts a.musts)))
def zed(a b:X4)(J:a.nm.length<=ze)(K:b.nm.length<=ze):zf 300 [.agg (YQ a),.agg (YQ b)] (.bool (Xl a b)):=by
 have G:=V5 a J;have I:=V5 b K;obtain⟨v,j,p⟩:=a;obtain⟨C,A,bm⟩:=b;simp only[YQ]at G I ⊢;refine zo ir300 λKP Q f=>?_;refine xh G ?_;cases g:zD ⟨v,j,p⟩with
 | false =>refine xa ?_;exact f rfl (by simp[Xl,g])
 | true =>
  refine xh I ?_;cases y:zD ⟨C,A,bm⟩with
  | false =>refine xa ?_;exact f rfl (by simp[Xl,g,y])
  | true =>
   by_cases h:v=C
   case neg =>refine xc h ?_;exact f rfl (by simp[Xl,g,y,h])
   by_cases z:j=A
   case neg =>refine xd h z ?_;exact f rfl (by simp[Xl,g,y,h,z])
   subst h;subst z;have e:Xl ⟨v,j,p⟩ ⟨v,j,bm⟩=Mt bm p:=by simp[Xl,g,y]
   rw[e]at f;refine xa ?_;exact @f _ _ [.bool (Mt bm p)] rfl rfl
def Xp(t:X4):X4:=if zD t=true then ⟨t.nm,t.lists,IntKind.i64.wrap ((BitVec.ofInt IntKind.i64.bits t.musts &&& ~~~BitVec.ofInt IntKind.i64.bits 1).toNat:Int)⟩else t
def zng(t:X4)(y:t.nm.length<=ze):zf 301 [.agg (YQ t)] (.agg (YQ (Xp t))):=by
 have p:=V5 t y;obtain⟨g,ls,ms⟩:=t;simp only[YQ]at p ⊢;refine zo ir301 λKP Q j=>?_;simp(disch:=omega) only[ir301,steps,st2,Yy,rev,X8,Z9,Yi,YO,YP,bound,Zc,WJ,mk,yf,AV.cells,AV.boxable,AV.one,AV.strip1,AV.strip2,Zb,y7,go_sem_proc,AV.i,AV.e,AV.n,IC.op,LJ,W.m,W.M,W.z,W.f,W.F,W.v,W.V,W.l,W.L,W.b,W.B,W.N,W.G,W.x,W.E,W.d,W.D,W.q,W.Q,W.S,W.T,W.p,W.w,W.i,W.a,W.o,W.s,W.c,W.C,W.k,W.O,W.j,W.h,W.jj,W.hh,W.jjc,W.hhc,W.oc,W.t,W.J,W.e,W.n,W.y,W.I,W.K,W.R,W.r,W.r0,W.rz,W.ru,W.g,W.Y,W.A,W.Z,W.u,W.W,W.H,W.P,W.U,W.X,List.map_cons,List.map_nil,Nat.reduceSub];refine zb λz C=>?_;refine xZ ?_;refine zb λA v=>?_;have f:=ZB v;refine wg f (Ne.symm f) ?_;refine za p ?_;cases h:zD ⟨g,ls,ms⟩with
 | false =>refine wg f (Ne.symm f) ?_;exact @j _ _ [.agg [.str g,.int .i64 ls,.int .i64 ms]] (xO f (Ne.symm f)) (by simp[Xp,h]<;>rfl)
 | true =>refine wg f (Ne.symm f) ?_;exact @j _ _ [.agg [.str g,.int .i64 ls,.int .i64 (IntKind.i64.wrap ((BitVec.ofInt IntKind.i64.bits ms &&& ~~~BitVec.ofInt IntKind.i64.bits 1).toNat:Int))]] (xO f (Ne.symm f)) (by simp[Xp,h]<;>rfl)
end Go.Proofs.YtcbfcliickppiaaGreatDoor
