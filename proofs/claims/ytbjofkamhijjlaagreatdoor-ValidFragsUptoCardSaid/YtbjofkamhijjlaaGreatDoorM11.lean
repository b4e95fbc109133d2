import Derived.Test.YtbjofkamhijjlaaGreatDoorM1
import Derived.Test.YtbjofkamhijjlaaGreatDoorM2
import Derived.Test.YtbjofkamhijjlaaGreatDoorM3
import Derived.Test.YtbjofkamhijjlaaGreatDoorM4
import Derived.Test.YtbjofkamhijjlaaGreatDoorM5
import Derived.Test.YtbjofkamhijjlaaGreatDoorM6
import Derived.Test.YtbjofkamhijjlaaGreatDoorM7
import Derived.Test.YtbjofkamhijjlaaGreatDoorM8
import Derived.Test.YtbjofkamhijjlaaGreatDoorM9
import Derived.Test.YtbjofkamhijjlaaGreatDoorM10
set_option maxRecDepth 100000
set_option linter.all false
namespace Go.Proofs.YtbjofkamhijjlaaGreatDoor
open Go.Ab
section
variable {s:SchD} {d:DocD} (F:FitD s d)
include F
theorem zkJ {p:List UInt8→SelD→Bool} (hp:∀ typ al nm args dirs on sels f,zw d nm=some f→p typ (.mk 1 al nm args dirs on sels)=true→p typ (.mk 2 [] [] [] dirs f.on f.sels)=true)
  (hf:∀ f∈d.frags,ZK s p f.on f.sels=true) (typ:List UInt8):∀ l:List SelD,ZK s p typ l=true→ZK s p typ (Yc d l)=true
 | [],_=>rfl
 | x::r,h=>by
  simp only[ZK,Al0] at h
  rw[za8,ZK,zkJ hp hf typ r h.2,Bool.and_true]
  rcases ZF d x with ⟨e,_⟩|⟨f,al,nm,args,dirs,on,sels,rfl,hff,hm,e⟩
  ·rw[e];exact h.1
  ·have h1:=h.1
   simp only[zgP,Al0] at h1
   have hw:zy s typ (.mk 2 [] [] [] dirs f.on [])=f.on:=by
    simp only[zy,show ¬ ((2:Int)=0) by decide,if_false,if_true]
    rw[if_neg (zjx F hm)]
   rw[e,zgP,hp typ _ _ _ _ _ _ f hff h1.1,Bool.true_and,hw]
   exact hf f hm
theorem ze8 {p:List UInt8→SelD→Bool} (hp:∀ typ al nm args dirs on sels f,zw d nm=some f→p typ (.mk 1 al nm args dirs on sels)=true→p typ (.mk 2 [] [] [] dirs f.on f.sels)=true)
  (h:yZ s d p=true):yZ s (yt d) p=true:=by
 simp only[yZ,Al0,YV] at h ⊢
 refine⟨fun o ho=>?_,h.2⟩
 obtain⟨o,hod,rfl⟩:=List.mem_map.1 ho
 exact zkJ F hp h.2 _ _ (h.1 o hod)
omit F in
theorem zoW {n:List UInt8} {l:List SelD} (h:Zn n (Yc d l)):Zn n l∨∃ f∈d.frags,Zn n f.sels:=by
 obtain⟨y,hy,h⟩:=zeF h
 obtain⟨x,hx,rfl⟩:=List.mem_map.1 hy
 rcases ZF d x with ⟨e,_⟩|⟨f,al,nm,args,dirs,on,sels,rfl,hf,hm,e⟩
 ·rw[e] at h;exact .inl (Yh hx h)
 ·rw[e] at h
  simp only[zcS] at h
  rcases h with ⟨h,_⟩|h
  ·cases h
  ·exact .inr ⟨f,hm,h⟩
theorem zvn:onM s (yt d)=true:=by
 have h5:=Y1 F 5 (by omega) (by omega)
 have h:onM s d=true:=by simpa[yX,ZT] using h5
 simp only[onM,Al0,Bool.not_eq_true',List.any_eq_false,Bool.not_eq_false] at h ⊢
 have hfr:∀ f∈d.frags,za1 s f.sels=true:=fun f hf=>by
  have:=h.2 f.sels (by simp only[zJ,List.mem_append,List.mem_map];exact .inr ⟨f,hf,rfl⟩)
  simpa using this
 have hfc:∀ f∈d.frags,ZC s f.on=true:=fun f hf=>by simpa using h.1 f hf
 have key:∀ l:List SelD,za1 s l=true→za1 s (Yc d l)=true:=by
  intro l
  induction l with
  | nil=>intro _;rfl
  | cons x r ih =>
   intro hl
   simp only[za1,Al0] at hl
   rw[za8,za1,ih hl.2,Bool.and_true]
   rcases ZF d x with ⟨e,_⟩|⟨f,al,nm,args,dirs,on,sels,rfl,hff,hm,e⟩
   ·rw[e];exact hl.1
   ·rw[e];simp only[zkr];rw[hfr f hm,hfc f hm];simp
 refine⟨h.1,fun l hl=>?_⟩
 simp only[zJ,List.mem_append,List.mem_map] at hl
 rcases hl with ⟨o,ho,rfl⟩|⟨f,hf,rfl⟩
 ·obtain⟨o,hod,rfl⟩:=List.mem_map.1 ho
  have:=h.2 o.sels (by simp only[zJ,List.mem_append,List.mem_map];exact .inl ⟨o,hod,rfl⟩)
  have:=key o.sels (by simpa using this)
  simp only[zbt];simp[this]
 ·simp[hfr f hf]
theorem zox:zc1 (yt d)=true:=by
 have h6:=Y1 F 6 (by omega) (by omega)
 have h:zc1 d=true:=by simpa[yX,ZT] using h6
 simp only[zc1,Bool.not_eq_true',List.any_eq_false] at h ⊢
 have hk:∀ l∈zJ d,∀ n,Zn n l→(zw d n).isSome=true:=fun l hl n hn=>by
  have h1:=h l hl
  simp only[zf3,List.any_eq_true,not_exists,not_and] at h1
  have:=h1 n ((Zs n l []).2 (.inr hn))
  cases hs:(zw d n).isSome with
  | true=>rfl
  | false=>rw[hs] at this;simp at this
 intro l hl
 simp only[zf3,List.any_eq_true,not_exists,not_and]
 intro n hn
 have hn:Zn n l:=by
  rcases(Zs n l []).1 hn with h1|h1
  ·cases h1
  ·exact h1
 have hs:(zw d n).isSome=true:=by
  simp only[zJ,List.mem_append,List.mem_map] at hl
  rcases hl with ⟨o,ho,rfl⟩|⟨f,hf,rfl⟩
  ·obtain⟨o,hod,rfl⟩:=List.mem_map.1 ho
   rcases zoW (d:=d) hn with h1|⟨f,hf,h1⟩
   ·exact hk _ (by simp only[zJ,List.mem_append,List.mem_map];exact .inl ⟨o,hod,rfl⟩) n h1
   ·exact hk _ (by simp only[zJ,List.mem_append,List.mem_map];exact .inr ⟨f,hf,rfl⟩) n h1
  ·exact hk _ (by simp only[zJ,List.mem_append,List.mem_map];exact .inr ⟨f,hf,rfl⟩) n hn
 have e:zw (yt d) n=zw d n:=rfl
 rw[e,hs];simp
theorem ziG:zav (yt d)=false:=by
 have h7:=Y1 F 7 (by omega) (by omega)
 have h:zav d=false:=by simpa[yX,ZT] using h7
 simp only[zav,List.any_eq_false,zgk] at h ⊢
 intro f hf
 rw[zeX];exact h f hf
theorem zww (n:Int) (h0:1≤n) (h9:n<9) (h8:n≠8):ZT s (yt d) n=true:=by
 have h:=Y1 F n h0 (by omega)
 have h:ZT s d n=true:=by rw[yX,if_pos h9] at h;exact h
 have hm:(yt d).ops.map (·.nm)=d.ops.map (·.nm):=by simp only[yt,List.map_map];rfl
 have hl:(yt d).ops.length=d.ops.length:=by simp[yt]
 unfold ZT at h ⊢
 rw[hm,hl]
 by_cases h1:n=1
 ·rw[if_pos h1] at h ⊢;exact h
 rw[if_neg h1] at h ⊢
 by_cases h2:n=2
 ·rw[if_pos h2] at h ⊢;exact h
 rw[if_neg h2] at h ⊢
 by_cases h3:n=3
 ·rw[if_pos h3] at h ⊢
  have e:((yt d).ops.any fun o=>decide (o.k=1))=d.ops.any fun o=>decide (o.k=1):=by simp only[yt,List.any_map];rfl
  rw[e];exact h
 rw[if_neg h3] at h ⊢
 by_cases h4:n=4
 ·rw[if_pos h4] at h ⊢;exact h
 rw[if_neg h4] at h ⊢
 by_cases h5:n=5
 ·rw[if_pos h5];exact zvn F
 rw[if_neg h5]
 by_cases h6:n=6
 ·rw[if_pos h6];exact zox F
 rw[if_neg h6]
 by_cases h7:n=7
 ·rw[if_pos h7,ziG F];rfl
 ·omega
theorem zta (n:Int) (h:ZY s d n=true):ZY s (yt d) n=true:=by
 simp only[ZY,Al0] at h ⊢
 refine⟨?_,h.2⟩
 have e:zd4 s (yt d) n=zd4 s d n:=rfl
 rw[e]
 refine ze8 F (fun typ al nm args dirs on sels f hf hp=>?_) h.1
 simp only[zd4] at hp ⊢
 split
 ·simp[zbN]
 rename_i h1
 rw[if_neg h1] at hp
 split
 ·simp[zkm]
 rename_i h2
 rw[if_neg h2] at hp
 split
 ·rename_i h3
  rw[if_pos h3] at hp
  simp only[zbm,show ¬ ((1:Int)=2) by decide,if_false,if_true,hf,Option.getD_some] at hp ⊢
  rw[hp];simp
 ·rename_i h3
  rw[if_neg h3] at hp;exact hp
theorem zr5:zbd (yt d)=zbd d:=by simp only[zbd,yt,List.map_map];rfl
theorem ztr (n:Int) (h:Yg s d n=true):Yg s (yt d) n=true:=by
 unfold Yg at h ⊢
 rw[zr5 F]
 by_cases h1:n=12
 ·rw[if_pos h1] at h ⊢
  simp only[Al0] at h ⊢
  exact⟨h.1,ze8 F (fun _ _ _ _ _ _ _ _ _ h=>h) h.2⟩
 rw[if_neg h1] at h ⊢
 by_cases h2:n=13
 ·rw[if_pos h2] at h ⊢;exact h
 rw[if_neg h2] at h ⊢
 by_cases h3:n=14
 ·rw[if_pos h3] at h ⊢
  simp only[Al0] at h ⊢
  exact⟨h.1,ze8 F (fun _ _ _ _ _ _ _ _ _ h=>h) h.2⟩
 rw[if_neg h3] at h;cases h
theorem ze9 (p:List VarD→List Mem→Bool) (h:yZ s d (zbO s p)=true):yZ s (yt d) (zbO s p)=true :=
 ze8 F (fun typ al nm args dirs on sels f hf hp=>by
  simp only[zbO,Al0] at hp ⊢
  exact⟨by simp,hp.2⟩) h
theorem zr7 (n:Int) (h:Z0 s d n=true):Z0 s (yt d) n=true:=by
 unfold Z0 at h ⊢
 by_cases h1:n=15
 ·rw[if_pos h1] at h ⊢;exact ze9 F _ h
 rw[if_neg h1] at h ⊢
 by_cases h2:n=16
 ·rw[if_pos h2] at h ⊢;exact ze9 F _ h
 rw[if_neg h2] at h ⊢
 by_cases h3:n=17
 ·rw[if_pos h3] at h ⊢;exact ze9 F _ h
 rw[if_neg h3] at h;cases h
omit F in
theorem zcp (x:List UInt8):∀ l:List SelD,x∈YB l []↔∃ y∈l,x∈wrS y []
 | []=>by simp[YB]
 | y::r=>by
  rw[YB,zbX r,zcp x r]
  simp
omit F in
theorem zhh (x:List UInt8) (k:Int) (al nm:List UInt8) (args:List Mem) (dirs:List DirD) (on:List UInt8) (sels:List SelD):x∈wrS (.mk k al nm args dirs on sels) []↔x∈YB sels []∨x∈dirs.foldl ofD (args.foldl ofM []):=by
 rw[wrS,zbX sels];exact Or.comm
theorem zrm {o:OpD} (ho:o∈d.ops) (x:List UInt8):x∈ZD (yt d) (Yc d o.sels)↔x∈ZD d o.sels:=by
 have hb:=zpO F ho
 have hk6:=Y1 F 6 (by omega) (by omega)
 rw[zdJ,zdJ]
 have e1:∀ n,n∈yj (yt d) (Yc d o.sels)↔Rch d (Yc d o.sels) n∧n∈d.frags.map (·.nm):=fun n=>by rw[zg9,Zu,zaM]
 have e2:∀ n,n∈yj d o.sels↔Rch d o.sels n∧n∈d.frags.map (·.nm):=fun n=>by rw[Zu,zaM]
 have efr:∀ n,frS (yt d) n=frS d n:=fun _=>rfl
 constructor
 ·rintro(h|⟨n,h1,h2⟩)
  ·obtain⟨y,hy,h⟩:=(zcp x _).1 h
   obtain⟨z,hz,rfl⟩:=List.mem_map.1 hy
   rcases ZF d z with ⟨e,_⟩|⟨f,al,nm,args,dirs,on,sels,rfl,hf,hm,e⟩
   ·rw[e] at h;exact .inl ((zcp x _).2 ⟨z,hz,h⟩)
   ·rw[e] at h
    rcases(zhh ..).1 h with h|h
    ·refine .inr ⟨nm,(e2 nm).2 ⟨.first (Yh hz (by simp[zcS])),(zay d nm).1 (by rw[hf];rfl)⟩,?_⟩
     simp only[frS,hf,Option.getD_some];exact h
    ·refine .inl ((zcp x _).2 ⟨_,hz,(zhh ..).2 (.inr ?_)⟩)
     have:=(hb _ hz rfl).2
     simp only[Z5] at this
     subst this;exact h
  ·exact .inr ⟨n,(e2 n).2 ⟨zm5 ((e1 n).1 h1).1,((e1 n).1 h1).2⟩,h2⟩
 ·rintro(h|⟨n,h1,h2⟩)
  ·obtain⟨z,hz,h⟩:=(zcp x _).1 h
   refine .inl ((zcp x _).2 ⟨inl d z,List.mem_map.2 ⟨z,hz,rfl⟩,?_⟩)
   rcases ZF d z with ⟨e,_⟩|⟨f,al,nm,args,dirs,on,sels,rfl,hf,hm,e⟩
   ·rw[e];exact h
   ·rw[e]
    refine(zhh ..).2 ?_
    have h3:=hb _ hz rfl
    simp only[Z5,SelD.sels] at h3
    obtain⟨rfl,rfl⟩:=h3
    rcases(zhh ..).1 h with h|h
    ·simp[YB] at h
    ·exact .inr h
  ·obtain⟨h3,h4⟩:=(e2 n).1 h1
   rcases zs1 hb h3 with h5|⟨f,hf,z,hz,hk,hnm⟩
   ·exact .inr ⟨n,(e1 n).2 ⟨h5,h4⟩,h2⟩
   ·refine .inl ((zcp x _).2 ⟨inl d z,List.mem_map.2 ⟨z,hz,rfl⟩,?_⟩)
    obtain⟨k,al,nm,args,dirs,on,sels⟩:=z
    simp only[SelD.k,SelD.nm] at hk hnm
    subst hk;subst hnm
    simp only[inl,hf,if_true]
    refine(zhh ..).2 (.inl ?_)
    simpa only[frS,hf,Option.getD_some] using h2
theorem zsV (n:Int) (h:zbk s d n=true):zbk s (yt d) n=true:=by
 simp only[zbk,Al0,Bool.not_eq_true',List.any_eq_false] at h ⊢
 refine⟨h.1,fun o ho=>?_⟩
 obtain⟨o,hod,rfl⟩:=List.mem_map.1 ho
 have h1:=h.2 o hod
 have hu:=zrm F hod
 have e:YX s (yt d) n (zbt d o)=YX s d n o:=by
  unfold YX
  have e1:∀ p:List UInt8→Bool,(ZD (yt d) (zbt d o).sels).any p=(ZD d o.sels).any p:=fun p=>by
   rw[Bool.eq_iff_iff,List.any_eq_true,List.any_eq_true]
   exact⟨fun⟨x,h1,h2⟩=>⟨x,(hu x).1 h1,h2⟩,fun⟨x,h1,h2⟩=>⟨x,(hu x).2 h1,h2⟩⟩
  have e2:∀ x,zL x (ZD (yt d) (zbt d o).sels)=zL x (ZD d o.sels):=fun x=>by
   rw[Bool.eq_iff_iff,y7,y7];exact hu x
  rw[e1]
  simp only[e2]
  rfl
 rw[e];exact h1
omit F in
theorem zgA (x:SpotD) (typ:List UInt8):∀ l:List SelD,x∈Yx s l typ↔∃ y∈l,x∈usS s y typ
 | []=>by simp[Yx]
 | y::r=>by
  rw[Yx,List.mem_append,zgA x typ r]
  simp
theorem zos {o:OpD} (ho:o∈d.ops) {x:SpotD} (h:x∈zdN s (yt d) (zbt d o)):x∈zdN s d o:=by
 simp only[zdN,List.mem_append,List.mem_flatMap] at h ⊢
 rcases h with h|⟨n,h1,h2⟩
 ·obtain⟨y,hy,h⟩:=(zgA x _ _).1 h
  obtain⟨z,hz,rfl⟩:=List.mem_map.1 hy
  rcases ZF d z with ⟨e,_⟩|⟨f,al,nm,args,dirs,on,sels,rfl,hf,hm,e⟩
  ·rw[e] at h;exact .inl ((zgA x _ _).2 ⟨z,hz,h⟩)
  ·rw[e] at h
   have hw:∀ t,zy s t (.mk 2 [] [] [] dirs f.on f.sels)=f.on:=fun t=>by
    simp only[zy,show ¬ ((2:Int)=0) by decide,if_false,if_true]
    rw[if_neg (zjx F hm)]
   simp only[usS,zgZ,show ¬ ((2:Int)=0) by decide,if_false,zcU,List.mem_append] at h
   rcases h with h|h
   ·refine .inl ((zgA x _ _).2 ⟨_,hz,?_⟩)
    simp only[usS,List.mem_append]
    exact .inl (.inr h)
   ·rw[hw] at h
    refine .inr ⟨nm,?_,?_⟩
    ·rw[Zu,zaM]
     exact⟨.first (Yh hz (by simp[zcS])),(zay d nm).1 (by rw[hf];rfl)⟩
    ·simp only[zgn,hf,Option.getD_some];exact h
 ·refine .inr ⟨n,?_,h2⟩
  rw[zg9,Zu,zaM] at h1
  rw[Zu,zaM]
  exact⟨zm5 h1.1,h1.2⟩
theorem zu4 (n:Int) (h:zab s d n=true):zab s (yt d) n=true:=by
 unfold zab at h ⊢
 by_cases h1:n=22
 ·rw[if_pos h1] at h ⊢
  simp only[zcn,Al0,YV] at h ⊢
  refine⟨fun o ho=>?_,ze9 F _ h.2⟩
  obtain⟨o,hod,rfl⟩:=List.mem_map.1 ho
  exact h.1 o hod
 rw[if_neg h1] at h ⊢
 by_cases h2:n=23
 ·rw[if_pos h2] at h ⊢
  simp only[zmI,zoK,YV] at h ⊢
  intro o ho x hx
  obtain⟨o,hod,rfl⟩:=List.mem_map.1 ho
  exact h o hod x (zos F hod hx)
 ·rw[if_neg h2] at h;cases h
end
def zg7 (s:SchD) (d:DocD) (g:List UInt8→List SelD→List TSe) (typ:List UInt8):SelD→List TSe
 | .mk k al nm args dirs on sels=>if k=0 then [(typ,.mk k al nm args dirs on sels)] else if k=2 then g (zy s typ (.mk k al nm args dirs on sels)) sels else if k=1 then g (zcT d nm) (frS d nm) else []
def flz (s:SchD) (d:DocD):Nat→List UInt8→List SelD→List TSe
 | 0,_,_=>[]
 | n+1,typ,l=>l.flatMap (zg7 s d (flz s d n) typ)
section
variable {s:SchD} {d:DocD}
theorem zkz {m:Nat} {l:List SelD} (h:Sz d m l):∀(n n':Nat) (typ:List UInt8),m≤n→m≤n'→flz s d n typ l=flz s d n' typ l:=by
 induction h with
 | nil=>intro n n' typ _ _;cases n<;>cases n'<;>simp[flz]
 | @cons m i j e k al nm args dirs on sels r hle h1 h2 h3 i1 i2 i3 =>
  intro n n' typ hn hn'
  cases n with
  | zero=>omega
  | succ n =>
   cases n' with
   | zero=>omega
   | succ n' =>
    have ht:=i3 (n+1) (n'+1) typ (by omega) (by omega)
    simp only[flz,List.flatMap_cons] at ht ⊢
    rw[ht]
    congr 1
    simp only[zg7]
    split
    ·rfl
    split
    ·exact i1 n n' _ (by omega) (by omega)
    split
    ·rename_i hk
     exact i2 hk n n' _ (by omega) (by omega)
    ·rfl
theorem zkN (n:Nat) (typ:List UInt8) (x:SelD) (r:List SelD):flz s d (n+1) typ (x::r)=zg7 s d (flz s d n) typ x++flz s d (n+1) typ r:=by simp only[flz,List.flatMap_cons]
theorem zdB (n:Nat) (typ:List UInt8):flz s d n typ []=[]:=by cases n<;>simp[flz]
theorem zeB {m N:Nat} {x:SelD} {r:List SelD} (h:Sz d m (x::r)) (hm:m≤N) (typ:List UInt8):flz s d N typ (x::r)=zg7 s d (flz s d N) typ x++flz s d N typ r:=by
 obtain⟨k,al,nm,args,dirs,on,sels⟩:=x
 cases h with
 | @cons _ i j e _ _ _ _ _ _ _ _ hle h1 h2 h3 =>
  cases N with
  | zero=>omega
  | succ n =>
  rw[zkN]
  congr 1
  simp only[zg7]
  split
  ·rfl
  split
  ·exact zkz h1 n (n+1) _ (by omega) (by omega)
  split
  ·rename_i hk
   exact zkz (h2 hk) n (n+1) _ (by omega) (by omega)
  ·rfl
theorem zwh {m:Nat} {l:List SelD} (h:Sz d m l):∃ j,j≤m∧Sz d j l∧∀ i,i<j→¬ Sz d i l:=by
 induction m with
 | zero=>exact⟨0,Al4 _,h,fun i hi=>by omega⟩
 | succ m ih =>
  by_cases h2:Sz d m l
  ·obtain⟨j,h1,h3,h4⟩:=ih h2
   exact⟨j,by omega,h3,h4⟩
  ·exact⟨m+1,Al4 _,h,fun i hi h3=>h2 (h3.mono (by omega))⟩
def zpx (s:SchD) (d:DocD) (N:Nat) (O:TSe→Prop) (G:List (List UInt8)) (g:List UInt8):Prop:=g∈G∨∀ y∈flz s d N (zcT d g) (frS d g),O y
theorem zj7 {N:Nat}:∀(n:Nat) (typ:List UInt8) (l:List SelD) (seen:List (List UInt8)) (O:TSe→Prop) (G:List (List UInt8)) (m:Nat),Sz d m l→m≤n→n≤N→(∀ g∈seen,zpx s d N O G g)→(∀ g∈G,∀ i,i<m→¬ Sz d i (frS d g)) →
  (∀ y∈flz s d N typ l,O y∨y∈(flq s d n typ l seen).1)∧(∀ y∈(flq s d n typ l seen).1,y∈flz s d N typ l)∧∀ g∈(flq s d n typ l seen).2,zpx s d N (fun y=>O y∨y∈(flq s d n typ l seen).1) G g
 | 0,typ,l,seen,O,G,m,hz,hm,_,hs,hG=>by
  have:l=[]:=by
   cases hz with
   | nil=>rfl
   | cons hle _ _ _=>omega
  subst this
  refine⟨fun y hy=>by simp[zdB] at hy,fun y hy=>by simp[flq] at hy,fun g hg=>?_⟩
  rcases hs g hg with h|h
  ·exact .inl h
  ·exact .inr fun y hy=>.inl (h y hy)
 | n+1,typ,l,seen,O,G,m,hz,hm,hn,hs,hG=>by
  have key:∀(r:List SelD) (acc:List TSe×List (List UInt8)),Sz d m r→(∀ g∈acc.2,zpx s d N (fun y=>O y∨y∈acc.1) G g) →
    (∀ y∈acc.1,y∈(r.foldl (yG s d (flq s d n) typ) acc).1)∧(∀ y∈flz s d N typ r,O y∨y∈(r.foldl (yG s d (flq s d n) typ) acc).1)∧(∀ y∈(r.foldl (yG s d (flq s d n) typ) acc).1,y∈acc.1∨y∈flz s d N typ r) ∧
     ∀ g∈(r.foldl (yG s d (flq s d n) typ) acc).2,zpx s d N (fun y=>O y∨y∈(r.foldl (yG s d (flq s d n) typ) acc).1) G g:=by
   intro r
   induction r with
   | nil=>exact fun acc _ h=>⟨fun y h=>h,fun y hy=>by simp[zdB] at hy,fun y h=>.inl h,h⟩
   | cons x r ih =>
    intro acc hzr hacc
    have hfc:=fun t=>zeB (s:=s) (N:=N) hzr (by omega) t
    obtain⟨k,al,nm,args,dirs,on,sels⟩:=x
    cases hzr with
    | @cons _ i j e _ _ _ _ _ _ _ _ hle h1 h2 h3 =>
    have hst:(∀ y∈acc.1,y∈(yG s d (flq s d n) typ acc (.mk k al nm args dirs on sels)).1)∧(∀ y∈zg7 s d (flz s d N) typ (.mk k al nm args dirs on sels),O y∨y∈(yG s d (flq s d n) typ acc (.mk k al nm args dirs on sels)).1) ∧
      (∀ y∈(yG s d (flq s d n) typ acc (.mk k al nm args dirs on sels)).1,y∈acc.1∨y∈zg7 s d (flz s d N) typ (.mk k al nm args dirs on sels)) ∧
      ∀ g∈(yG s d (flq s d n) typ acc (.mk k al nm args dirs on sels)).2,zpx s d N (fun y=>O y∨y∈(yG s d (flq s d n) typ acc (.mk k al nm args dirs on sels)).1) G g:=by
     simp only[yG,zg7]
     by_cases k0:k=0
     ·simp only[k0,if_true]
      refine⟨fun y h=>ZZ _ h,fun y h=>.inr (List.mem_append_right _ h),fun y h=>List.mem_append.1 h,fun g hg=>?_⟩
      rcases hacc g hg with h|h
      ·exact .inl h
      ·exact .inr fun y hy=>(h y hy).imp id fun h=>ZZ _ h
     simp only[k0,if_false]
     by_cases k2:k=2
     ·simp only[k2,if_true]
      obtain⟨g1,g2,g3⟩:=zj7 (N:=N) n (zy s typ (.mk 2 al nm args dirs on sels)) sels acc.2 (fun y=>O y∨y∈acc.1) G i h1 (by omega) (by omega) hacc fun g hg i' hi'=>hG g hg i' (by omega)
      refine⟨fun y h=>ZZ _ h,fun y h=>?_,fun y h=>(List.mem_append.1 h).imp id (g2 y),fun g hg=>?_⟩
      ·rcases g1 y h with (h|h)|h
       ·exact .inl h
       ·exact .inr (ZZ _ h)
       ·exact .inr (List.mem_append_right _ h)
      ·rcases g3 g hg with h|h
       ·exact .inl h
       ·refine .inr fun y hy=>?_
        rcases h y hy with (h|h)|h
        ·exact .inl h
        ·exact .inr (ZZ _ h)
        ·exact .inr (List.mem_append_right _ h)
     simp only[k2,if_false]
     by_cases k1:k=1
     ·cases hh:zL nm acc.2 with
      | true =>
       simp only[k1,true_and,Bool.true_eq_false,if_false,if_true]
       refine⟨fun y h=>h,fun y h=>?_,fun y h=>.inl h,hacc⟩
       rcases hacc nm ((y7 _ _).1 hh) with h4|h4
       ·exact absurd (h2 k1) (hG nm h4 j (by omega))
       ·exact h4 y h
      | false =>
       simp only[k1,true_and,if_true]
       obtain⟨j0,hj,hz0,hmin⟩:=zwh (h2 k1)
       obtain⟨g1,g2,g3⟩:=zj7 (N:=N) n (zcT d nm) (frS d nm) (acc.2++[nm]) (fun y=>O y∨y∈acc.1) (nm::G) j0 hz0 (by omega) (by omega) (fun g hg=>by
        rcases List.mem_append.1 hg with h|h
        ·exact(hacc g h).imp (Zm _) id
        ·simp only[List.mem_singleton] at h;subst h;exact .inl (Zr ..)) fun g hg i' hi'=>by
        rcases List.mem_cons.1 hg with rfl|hg
        ·exact hmin i' hi'
        ·exact hG g hg i' (by omega)
       refine⟨fun y h=>ZZ _ h,fun y h=>?_,fun y h=>(List.mem_append.1 h).imp id (g2 y),fun g hg=>?_⟩
       ·rcases g1 y h with (h|h)|h
        ·exact .inl h
        ·exact .inr (ZZ _ h)
        ·exact .inr (List.mem_append_right _ h)
       ·have hall:∀ {y:TSe},(O y∨y∈acc.1)∨y∈(flq s d n (zcT d nm) (frS d nm) (acc.2++[nm])).1→O y∨y∈acc.1++(flq s d n (zcT d nm) (frS d nm) (acc.2++[nm])).1:=fun h=>by
         rcases h with (h|h)|h
         ·exact .inl h
         ·exact .inr (ZZ _ h)
         ·exact .inr (List.mem_append_right _ h)
        rcases g3 g hg with h|h
        ·rcases List.mem_cons.1 h with rfl|h
         ·exact .inr fun y hy=>hall (g1 y hy)
         ·exact .inl h
        ·exact .inr fun y hy=>hall (h y hy)
     ·simp only[k1,false_and,if_false]
      exact⟨fun y h=>h,(fun y h=>by cases h),fun y h=>.inl h,hacc⟩
    obtain⟨s1,s2,s3,s4⟩:=hst
    rw[List.foldl_cons,hfc]
    generalize yG s d (flq s d n) typ acc (.mk k al nm args dirs on sels)=acc' at *
    obtain⟨t1,t2,t3,t4⟩:=ih acc' (h3.mono (by omega)) s4
    refine⟨fun y h=>t1 y (s1 y h),fun y h=>?_,fun y h=>?_,t4⟩
    ·rcases List.mem_append.1 h with h|h
     ·exact(s2 y h).imp id (t1 y)
     ·exact t2 y h
    ·rcases t3 y h with h|h
     ·exact(s3 y h).imp id (ZZ _)
     ·exact .inr (List.mem_append_right _ h)
  have:=key l ([],seen) hz fun g hg=>by
   rcases hs g hg with h|h
   ·exact .inl h
   ·exact .inr fun y hy=>.inl (h y hy)
  refine⟨this.2.1,fun y hy=>?_,this.2.2.2⟩
  rcases this.2.2.1 y hy with h|h
  ·cases h
  ·exact h
theorem zeY {m:Nat} {l:List SelD} (h:Sz d m l) (hm:m≤64) (typ:List UInt8) (y:TSe):y∈(flq s d 64 typ l []).1↔y∈flz s d 64 typ l:=by
 obtain⟨h1,h2,_⟩:=zj7 (s:=s) (N:=64) 64 typ l [] (fun _=>False) [] m h hm (Al4 _) (fun g hg=>by cases hg) fun g hg=>by cases hg
 exact⟨h2 y,fun hy=>(h1 y hy).resolve_left id⟩
end
theorem zhu (t:List UInt8):∀ l:List Mem,(zau t l).2=true↔t∈l.map mN
 | []=>by simp[zau]
 | .mk s v::r=>by
  simp only[zau,List.map_cons,List.mem_cons,mN]
  by_cases h:s=t
  ·simp[h]
  ·rw[if_neg h,zhu t r];simp[Ne.symm h]
theorem zhX:∀ {l:List Mem} {m:Mem},(l.map mN).Nodup→m∈l→zau (mN m) l=(vM m,true)
 | .mk s v::r,m,hn,hm=>by
  simp only[List.map_cons,List.nodup_cons] at hn
  rcases List.mem_cons.1 hm with rfl|hm
  ·simp[zau,mN,vM]
  ·have:¬ s=mN m:=fun e=>hn.1 (List.mem_map.2 ⟨m,hm,e.symm⟩)
   simp only[zau,this,if_false]
   exact zhX hn.2 hm
theorem zeS:∀(l a:List Mem),Zw a l=true↔(l.map mN).Nodup∧∀ x∈l,mN x ∉ a.map mN
 | [],a=>by simp[Zw]
 | x::r,a=>by
  simp only[Zw,Al0,Bool.not_eq_true',List.map_cons,List.nodup_cons]
  rw[zeS r (a++[x])]
  have h0:(zau (mN x) a).2=false↔mN x ∉ a.map mN:=by rw[← zhu];simp
  rw[h0]
  simp only[List.map_append,List.map_cons,List.map_nil,List.mem_append,List.mem_singleton,not_or]
  constructor
  ·rintro⟨h1,h2,h3⟩
   refine⟨⟨fun h=>?_,h2⟩,fun y hy=>?_⟩
   ·obtain⟨z,hz,e⟩:=List.mem_map.1 h
    exact(h3 z hz).2 e
   ·rcases List.mem_cons.1 hy with rfl|hy
    ·exact h1
    ·exact(h3 y hy).1
  ·rintro⟨⟨h1,h2⟩,h3⟩
   refine⟨h3 x (Zr ..),h2,fun y hy=>⟨h3 y (Zm _ hy),fun e=>h1 ?_⟩⟩
   rw[← e];exact List.mem_map.2 ⟨y,hy,rfl⟩
theorem zkf (l:List Mem):Zw [] l=true↔(l.map mN).Nodup:=by rw[zeS];simp
theorem zsI {m m':Mem} (h1:mN m=mN m') (h2:vM m=vM m'):m=m':=by
 obtain⟨n,v⟩:=m;obtain⟨n',v'⟩:=m'
 simp only[mN,vM] at h1 h2
 rw[h1,h2]
theorem zhO {b:List Mem} (hb:(b.map mN).Nodup) (m:Mem):zl6 b m=true↔m∈b:=by
 unfold zl6
 rw[Al0]
 constructor
 ·rintro⟨h1,h2⟩
  obtain⟨m',hm,e⟩:=List.mem_map.1 ((zhu _ _).1 h1)
  rw[← e,zhX hb hm] at h2
  have h3:vM m=vM m':=by
   by_cases h:vM m=vM m'
   ·exact h
   ·rw[yL h] at h2;cases h2
  rw[zsI e.symm h3];exact hm
 ·intro h
  rw[zhX hb h]
  exact⟨rfl,YC rfl⟩
theorem zoy {a:List Mem} (h:(a.map mN).Nodup):Yu a a=true:=by
 unfold Yu
 rw[Al0,YV]
 exact⟨fun m hm=>(zhO h m).2 hm,by simp⟩
theorem zq2 {a b:List Mem} (ha:(a.map mN).Nodup) (hb:(b.map mN).Nodup) (h:Yu a b=true):Yu b a=true:=by
 unfold Yu at h ⊢
 rw[Al0,YV,yH] at h ⊢
 refine⟨fun m hm=>(zhO ha m).2 ?_,h.2.symm⟩
 have hsub:a ⊆ b:=fun x hx=>(zhO hb x).1 (h.1 x hx)
 have hna:a.Nodup:=List.Pairwise.of_map mN (fun x y h e=>h (by rw[e])) ha
 by_cases hma:m∈a
 ·exact hma
 ·exfalso
  have h1:(m::a).Nodup:=List.nodup_cons.2 ⟨hma,hna⟩
  have h2:=List.Nodup.length_le_of_subset h1 (l₂:=b) fun x hx=>by
   rcases List.mem_cons.1 hx with rfl|hx
   ·exact hm
   ·exact hsub hx
  simp only[Al2] at h2
  omega
theorem zem (g:TSe→TSe→Bool):∀(L acc:List TSe),Ys g acc L=true↔(∀ x∈L,∀ y∈acc,ZG x.2=ZG y.2→g y x=true)∧L.Pairwise fun u v=>ZG v.2=ZG u.2→g u v=true
 | [],acc=>by simp[Ys]
 | x::r,acc=>by
  simp only[Ys,Al0,List.pairwise_cons]
  rw[zem g r (acc++[x])]
  have h0:zjg g x acc=true↔∀ y∈acc,ZG x.2=ZG y.2→g y x=true:=by
   unfold zjg
   rw[YV]
   refine forall_congr' fun y=>forall_congr' fun hy=>?_
   by_cases hk:ZG x.2=ZG y.2<;>simp[hk]
  rw[h0]
  constructor
  ·rintro⟨h1,h2,h3⟩
   refine⟨fun y hy z hz=>?_,fun y hy=>h2 y hy x (by simp),h3⟩
   rcases List.mem_cons.1 hy with rfl|hy
   ·exact h1 z hz
   ·exact h2 y hy z (ZZ _ hz)
  ·rintro⟨h1,h2,h3⟩
   refine⟨h1 x (Zr ..),fun y hy z hz=>?_,h3⟩
   rcases List.mem_append.1 hz with hz|hz
   ·exact h1 y (Zm _ hy) z hz
   ·simp only[List.mem_singleton] at hz;subst hz;exact h2 y hy
theorem zqO {α:Type} {R:α→α→Prop} {L:List α} (h:L.Pairwise R) (hr:∀ u∈L,R u u) (hs:∀ u∈L,∀ v∈L,R u v→R v u):∀ u∈L,∀ v∈L,R u v:=by
 induction L with
 | nil=>intro u hu;cases hu
 | cons x r ih =>
  rw[List.pairwise_cons] at h
  intro u hu v hv
  rcases List.mem_cons.1 hu with rfl|hu'
  ·rcases List.mem_cons.1 hv with rfl|hv'
   ·exact hr _ hu
   ·exact h.1 v hv'
  ·rcases List.mem_cons.1 hv with rfl|hv'
   ·exact hs _ hv _ hu (h.1 u hu')
   ·exact ih h.2 (fun u hu=>hr u (Zm _ hu)) (fun u hu v hv=>hs u (Zm _ hu) v (Zm _ hv)) u hu' v hv'
theorem zkg {α:Type} {R:α→α→Prop}:∀ {L:List α},(∀ u∈L,∀ v∈L,R u v)→L.Pairwise R
 | [],_=>.nil
 | x::r,h=>List.pairwise_cons.2 ⟨fun y hy=>h x (Zr ..) y (Zm _ hy),zkg fun u hu v hv=>h u (Zm _ hu) v (Zm _ hv)⟩
theorem Zq (g:TSe→TSe→Bool) (la lb:List TSe):zaT g la lb=true↔∀ u∈la,∀ v∈lb,ZG u.2=ZG v.2→g u v=true:=by
 unfold zaT
 rw[YV]
 refine forall_congr' fun u=>forall_congr' fun hu=>?_
 rw[YV]
 refine forall_congr' fun v=>forall_congr' fun hv=>?_
 by_cases hk:ZG u.2=ZG v.2<;>simp[hk]
section
variable {s:SchD} {d:DocD}
theorem zk6:∀(n:Nat) (x y:TSe),shq s d (n+1) x y=true→shq s d n x y=true
 | 0,x,y,h=>by
  simp only[shq,zcR,Al0] at h ⊢
  exact⟨h.1,(Zq ..).2 fun _ _ _ _ _=>rfl⟩
 | n+1,x,y,h=>by
  rw[shq,zcR,Al0] at h ⊢
  exact⟨h.1,(Zq ..).2 fun u hu v hv hk=>zk6 n u v ((Zq ..).1 h.2 u hu v hv hk)⟩
theorem zlO:∀(n:Nat) (x y:TSe),tgq s d (n+1) x y=true→tgq s d n x y=true
 | 0,x,y,h=>by
  simp only[tgq,zcA,Al0,zc6] at h ⊢
  exact⟨h.1,h.2.imp id fun h=>⟨h.1,(Zq ..).2 fun _ _ _ _ _=>rfl⟩⟩
 | n+1,x,y,h=>by
  rw[tgq,zcA,Al0,zc6,Al0] at h ⊢
  exact⟨h.1,h.2.imp id fun h=>⟨h.1,(Zq ..).2 fun u hu v hv hk=>zlO n u v ((Zq ..).1 h.2 u hu v hv hk)⟩⟩
theorem zbg {h:List UInt8→List SelD→Bool} {typ:List UInt8} {l:List SelD}:zek s d h typ l=true↔Ys (tgq s d 64) [] (flq s d 64 typ l []).1=true∧∀ x∈l,h (zy s typ x) x.sels=true:=by
 unfold zek
 generalize Ys (tgq s d 64) [] (flq s d 64 typ l []).1=b
 rw[Al0,YV]
theorem zer (typ:List UInt8) (l:List SelD):lsq s d 0 typ l=zek s d (fun _ _=>true) typ l:=by rw[lsq]
theorem zbh (n:Nat) (typ:List UInt8) (l:List SelD):lsq s d (n+1) typ l=zek s d (lsq s d n) typ l:=by rw[lsq]
theorem zfQ {n:Nat} {typ:List UInt8} {l:List SelD} (h:lsq s d n typ l=true):Ys (tgq s d 64) [] (flq s d 64 typ l []).1=true:=by
 cases n with
 | zero=>rw[zer] at h;exact(zbg.1 h).1
 | succ n=>rw[zbh] at h;exact(zbg.1 h).1
theorem zq9 (n:Nat):∀(typ:List UInt8) (l:List SelD),lsq s d (n+1) typ l=true→lsq s d n typ l=true:=by
 induction n with
 | zero =>
  intro typ l h
  have h1:=zfQ h
  rw[zer,zbg]
  exact⟨h1,fun _ _=>rfl⟩
 | succ n ih =>
  intro typ l h
  rw[zbh,zbg] at h
  rw[zbh,zbg]
  exact⟨h.1,fun x hx=>ih _ _ (h.2 x hx)⟩
theorem zuV {n N : Nat} (hn : n ≤ N) {x y : TSe} (h : shq s d N x y = true) : shq s d n x y = true := by
  induction N with
  | zero => have : n = 0 := by omega
            subst this; exact h
  | succ N ih =>
    by_cases e : n = N + 1
    · subst e; exact h
    · exact ih (by omega) (zk6 N x y h)
theorem zvO {n N : Nat} (hn : n ≤ N) {x y : TSe} (h : tgq s d N x y = true) : tgq s d n x y = true := by
  induction N with
  | zero => have : n = 0 := by omega
            subst this; exact h
  | succ N ih =>
    by_cases e : n = N + 1
    · subst e; exact h
    · exact ih (by omega) (zlO N x y h)
theorem zvk {n:Nat} {x y:TSe} (h:tgq s d n x y=true):shq s d 64 x y=true:=by
 cases n<;>(simp only[tgq,zcA,Al0] at h;exact h.1)
theorem zdw {α:Type} [DecidableEq α] (x y:α):decide (x=y)=decide (y=x):=by
 by_cases h:x=y
 ·subst h;rfl
 ·rw[decide_eq_false h,decide_eq_false (Ne.symm h)]
theorem zir (a b:TyD):zby s a b=zby s b a:=by
 unfold zby
 rw[zdw a.lists,zdw a.musts,zdw a.nm,Bool.or_comm (Yb s a.nm),Bool.and_comm (ZC s a.nm)]
theorem zfv {g:TSe→TSe→Bool} {la lb:List TSe} (hg:∀ u∈la,∀ v∈lb,g u v=true→g v u=true) (h:zaT g la lb=true):zaT g lb la=true :=
 (Zq ..).2 fun v hv u hu hk=>hg u hu v hv ((Zq ..).1 h u hu v hv hk.symm)
theorem zjE:∀(n:Nat) (x y:TSe),shq s d n x y=true→shq s d n y x=true
 | 0,x,y,h=>by
  simp only[shq,zcR,Al0] at h ⊢
  exact⟨by rw[zir];exact h.1,zfv (fun _ _ _ _ _=>rfl) h.2⟩
 | n+1,x,y,h=>by
  rw[shq,zcR,Al0] at h ⊢
  exact⟨by rw[zir];exact h.1,zfv (fun u _ v _ h=>zjE n u v h) h.2⟩
theorem zhg (x y:TSe):zj8 s x y=zj8 s y x:=by
 unfold zj8
 rw[zdw x.1,YU,YU,Bool.and_comm (yQ s x.1 [1])]
def znq (s:SchD):List UInt8→SelD→Bool:=zbO s fun _ l=>Zw [] l
structure OkT (s:SchD) (u:TSe):Prop where
 k0:u.2.k=0
 on:zgP s (znq s) u.1 u.2=true
 th:zgP s (zbN s) u.1 u.2=true
structure OkQ (s:SchD) (typ:List UInt8) (l:List SelD):Prop where
 on:ZK s (znq s) typ l=true
 th:ZK s (zbN s) typ l=true
theorem zb3 {p:List UInt8→SelD→Bool} {typ:List UInt8} {x:SelD} (h:zgP s p typ x=true):p typ x=true∧ZK s p (zy s typ x) x.sels=true:=by
 obtain⟨k,al,nm,args,dirs,on,sels⟩:=x
 simp only[zgP,Al0] at h
 exact h
theorem OkT.sub {u:TSe} (h:OkT s u):OkQ s (zy s u.1 u.2) u.2.sels:=⟨(zb3 h.on).2,(zb3 h.th).2⟩
theorem OkT.once {u:TSe} (h:OkT s u):((Z5 u.2).map mN).Nodup:=by
 have h1:=(zb3 h.on).1
 have h0:=h.k0
 obtain⟨typ,k,al,nm,args,dirs,on,sels⟩:=u
 simp only[SelD.k] at h0
 subst h0
 simp only[znq,zbO,Al0,decide_true,Bool.not_true,Bool.false_or] at h1
 exact(zkf _).1 h1.1
theorem zjj (hf:∀ f∈d.frags,OkQ s f.on f.sels):∀(n:Nat) (typ:List UInt8) (l:List SelD),OkQ s typ l→∀ u∈flz s d n typ l,OkT s u
 | 0,typ,l,h=>fun u hu=>by simp[flz] at hu
 | n+1,typ,l,h=>by
  induction l with
  | nil=>intro u hu;simp[zdB] at hu
  | cons x r ih =>
   intro u hu
   have h1:=h.on
   have h2:=h.th
   simp only[ZK,Al0] at h1 h2
   rw[zkN,List.mem_append] at hu
   rcases hu with hu|hu
   ·have hs1:=(zb3 h1.1).2
    have hs2:=(zb3 h2.1).2
    obtain⟨k,al,nm,args,dirs,on,sels⟩:=x
    simp only[zg7] at hu
    split at hu
    ·rename_i k0
     simp only[List.mem_singleton] at hu
     subst hu
     exact⟨k0,h1.1,h2.1⟩
    split at hu
    ·exact zjj hf n _ _ ⟨hs1,hs2⟩ u hu
    split at hu
    ·cases hfr:zw d nm with
     | none =>
      simp only[frS,hfr,Option.getD_none,zFr,zdB] at hu
      cases hu
     | some f =>
      simp only[frS,zcT,hfr,Option.getD_some] at hu
      exact zjj hf n _ _ (hf f (List.mem_of_find?_eq_some hfr)) u hu
    ·cases hu
   ·exact ih ⟨h1.2,h2.2⟩ u hu
end
section
variable {s:SchD} {d:DocD}
theorem zfi {m k:Nat} {typ:List UInt8} {l:List SelD} (hz:Sz d m l) (hk:m≤k) (h:lsq s d k typ l=true):∀ x∈l,∃ k',m≤k'+1∧lsq s d k' (zy s typ x) x.sels=true:=by
 intro x hx
 cases k with
 | zero =>
  have:m=0:=by omega
  subst this
  cases hz with
  | nil=>cases hx
  | cons hle _ _ _=>omega
 | succ k =>
  rw[zbh,zbg] at h
  exact⟨k,by omega,h.2 x hx⟩
theorem zmU {N:Nat} (hfr:∀ f∈d.frags,lsq s d N f.on f.sels=true) {m:Nat} {l:List SelD} (hz:Sz d m l):m≤N→∀ typ,(∀ x∈l,∃ k',m≤k'+1∧lsq s d k' (zy s typ x) x.sels=true) →
  ∀ v∈flz s d N typ l,∃ m',m'<m∧Sz d m' v.2.sels∧∃ k',m'≤k'∧lsq s d k' (zy s v.1 v.2) v.2.sels=true:=by
 induction hz with
 | nil=>intro _ typ _ v hv;rw[zdB] at hv;cases hv
 | @cons m i j e k al nm args dirs on sels r hle h1 h2 h3 i1 i2 i3 =>
  intro hm typ hx v hv
  rw[zeB (.cons hle h1 h2 h3) hm,List.mem_append] at hv
  rcases hv with hv|hv
  ·obtain⟨k',hk',hl⟩:=hx _ (Zr ..)
   simp only[SelD.sels] at hl
   simp only[zg7] at hv
   split at hv
   ·simp only[List.mem_singleton] at hv
    subst hv
    exact⟨i,by omega,h1,k',by omega,hl⟩
   split at hv
   ·obtain⟨m',h5,h6⟩:=i1 (by omega) _ (zfi h1 (by omega) hl) v hv
    exact⟨m',by omega,h6⟩
   split at hv
   ·rename_i hk1
    cases hf:zw d nm with
    | none =>
     simp only[frS,hf,Option.getD_none,zFr,zdB] at hv
     cases hv
    | some f =>
     have h7:=hfr f (List.mem_of_find?_eq_some hf)
     have h8:=zfi (typ:=f.on) (l:=f.sels) (k:=N) (m:=j) (by have:=h2 hk1;simpa only[frS,hf,Option.getD_some] using this) (by omega) h7
     obtain⟨m',h5,h6⟩:=i2 hk1 (by omega) (zcT d nm) (by simpa only[frS,zcT,hf,Option.getD_some] using h8) v hv
     exact⟨m',by omega,h6⟩
   ·cases hv
  ·obtain⟨m',h5,h6⟩:=i3 (by omega) typ (fun x hx'=>by
    obtain⟨k',hk',hl⟩:=hx x (Zm _ hx')
    exact⟨k',by omega,hl⟩) v hv
   exact⟨m',by omega,h6⟩
theorem zu6 (hf:∀ f∈d.frags,OkQ s f.on f.sels) {u:TSe} (hu:OkT s u) {m:Nat} (hz:Sz d m u.2.sels) (hm:m≤64):∀ v∈blq s d u,OkT s v:=fun v hv =>
 zjj hf 64 _ _ hu.sub v ((zeY hz hm _ v).1 hv)
structure Told (s:SchD) (d:DocD) (m:Nat) (u:TSe):Prop where
 ok:OkT s u
 sz:Sz d m u.2.sels
 ls:∃ k',m≤k'∧lsq s d k' (zy s u.1 u.2) u.2.sels=true
theorem zhz (hf:∀ f∈d.frags,OkQ s f.on f.sels) (hfr:∀ f∈d.frags,lsq s d 64 f.on f.sels=true) {m:Nat} (hm:m≤64) {u:TSe} (h:Told s d m u):∀ v∈blq s d u,∃ m',m'<m∧Told s d m' v:=fun v hv=>by
 obtain⟨k',hk,hl⟩:=h.ls
 obtain⟨m',h1,h2,h3⟩:=zmU hfr h.sz hm _ (zfi h.sz hk hl) v ((zeY h.sz hm _ v).1 hv)
 exact⟨m',h1,zu6 hf h.ok h.sz hm v hv,h2,h3⟩
theorem zr4 (hf:∀ f∈d.frags,OkQ s f.on f.sels) (hfr:∀ f∈d.frags,lsq s d 64 f.on f.sels=true) (n:Nat):∀(m m':Nat) (x y:TSe),m≤64→m'≤64→Told s d m x→Told s d m' y→tgq s d n x y=true→tgq s d n y x=true:=by
 have hal:∀ {m m':Nat} {x y:TSe},Told s d m x→Told s d m' y→decide (x.2.nm=y.2.nm)=true∧Yu (Z5 x.2) (Z5 y.2)=true→decide (y.2.nm=x.2.nm)=true∧Yu (Z5 y.2) (Z5 x.2)=true:=fun hx hy h =>
  ⟨by rw[zdw];exact h.1,zq2 hx.ok.once hy.ok.once h.2⟩
 induction n with
 | zero =>
  intro m m' x y hm hm' hx hy h
  rw[tgq,zcA,Al0,zc6,Al0,Al0] at h ⊢
  exact⟨zjE 64 x y h.1,h.2.imp (fun h=>by rw[zhg];exact h) fun h=>⟨hal hx hy h.1,(Zq ..).2 fun _ _ _ _ _=>rfl⟩⟩
 | succ n ih =>
  intro m m' x y hm hm' hx hy h
  rw[tgq,zcA,Al0,zc6,Al0,Al0] at h ⊢
  refine⟨zjE 64 x y h.1,h.2.imp (fun h=>by rw[zhg];exact h) fun h=>⟨hal hx hy h.1,zfv (fun u hu v hv h=>?_) h.2⟩⟩
  obtain⟨a,ha,h1⟩:=zhz hf hfr hm hx u hu
  obtain⟨b,hb,h2⟩:=zhz hf hfr hm' hy v hv
  exact ih a b u v (by omega) (by omega) h1 h2 h
theorem zhM (hf:∀ f∈d.frags,OkQ s f.on f.sels) (hfr:∀ f∈d.frags,lsq s d 64 f.on f.sels=true) {m:Nat} (hm:m≤64) {L:List TSe} (hL:∀ v∈L,∃ m',m'<m∧Told s d m' v) (hself:∀ v∈L,tgq s d 64 v v=true) (h:Ys (tgq s d 64) [] L=true) :
  ∀ u∈L,∀ v∈L,ZG u.2=ZG v.2→tgq s d 64 u v=true:=by
 have h1:=((zem ..).1 h).2
 have h2:=zqO h1 (fun u hu _=>hself u hu) (fun u hu v hv hR hk=>by
  obtain⟨a,ha,h3⟩:=hL u hu
  obtain⟨b,hb,h4⟩:=hL v hv
  exact zr4 hf hfr 64 a b u v (by omega) (by omega) h3 h4 (hR hk.symm))
 exact fun u hu v hv hk=>h2 u hu v hv hk.symm
theorem zsf (hf:∀ f∈d.frags,OkQ s f.on f.sels) (hfr:∀ f∈d.frags,lsq s d 64 f.on f.sels=true) (hty:∀ typ nm f,yb s typ nm=some f→Yb s f.t.nm=true∨ZC s f.t.nm=true) :
  ∀(m:Nat) (u:TSe),m≤64→Told s d m u→∀ n,n≤64→shq s d n u u=true∧tgq s d n u u=true:=by
 intro m
 induction m using Nat.strongRecOn with
 | _ m ih =>
 intro u hm hu
 have hsub:=zhz hf hfr hm hu
 have hall:∀ v∈blq s d u,∀ w∈blq s d u,ZG v.2=ZG w.2→tgq s d 64 v w=true:=by
  obtain⟨k',hk,hl⟩:=hu.ls
  refine zhM hf hfr hm hsub (fun v hv=>?_) (zfQ hl)
  obtain⟨m',h1,h2⟩:=hsub v hv
  exact(ih m' h1 v (by omega) h2 64 (Al4 _)).2
 have hsh:zby s ((yb s u.1 u.2.nm).getD zF).t ((yb s u.1 u.2.nm).getD zF).t=true:=by
  have h1:=(zb3 hu.ok.th).1
  have h0:=hu.ok.k0
  obtain⟨typ,k,al,nm,args,dirs,on,sels⟩:=u
  simp only[SelD.k] at h0
  subst h0
  simp only[zbN,decide_true,Bool.not_true,Bool.false_or] at h1
  simp only[SelD.nm]
  cases hF:yb s typ nm with
  | none=>rw[hF] at h1;cases h1
  | some f =>
   simp only[Option.getD_some,zby]
   cases hlf:Yb s f.t.nm with
   | true=>simp
   | false =>
    have:=(hty typ nm f hF).resolve_left (by rw[hlf];simp)
    simp[this]
 have hS:∀ n,n≤64→shq s d n u u=true:=fun n hn=>by
  cases n with
  | zero =>
   rw[shq,zcR,Al0]
   exact⟨hsh,(Zq ..).2 fun _ _ _ _ _=>rfl⟩
  | succ n =>
   rw[shq,zcR,Al0]
   exact⟨hsh,(Zq ..).2 fun v hv w hw hk=>zuV (by omega) (zvk (hall v hv w hw hk))⟩
 have hA:decide (u.2.nm=u.2.nm)=true∧Yu (Z5 u.2) (Z5 u.2)=true:=⟨decide_eq_true rfl,zoy hu.ok.once⟩
 intro n hn
 refine⟨hS n hn,?_⟩
 have hS64:=hS 64 (Al4 _)
 cases n with
 | zero =>
  rw[tgq,zcA,Al0,zc6,Al0,Al0]
  exact⟨hS64,.inr ⟨hA,(Zq ..).2 fun _ _ _ _ _=>rfl⟩⟩
 | succ n =>
  rw[tgq,zcA,Al0,zc6,Al0,Al0]
  exact⟨hS64,.inr ⟨hA,(Zq ..).2 fun v hv w hw hk=>zvO (by omega) (hall v hv w hw hk)⟩⟩
theorem zjJ (n:Nat):flq s (yt d) n=flq s d n:=by
 induction n with
 | zero=>rfl
 | succ n ih =>
  funext typ l seen
  have e:yG s (yt d) (flq s (yt d) n) typ=yG s d (flq s d n) typ:=by
   rw[ih];funext acc x;obtain⟨k,al,nm,args,dirs,on,sels⟩:=x;rfl
  rw[flq,flq,e]
theorem zgx:blq s (yt d)=blq s d:=by funext x;rw[blq,blq,zjJ]
theorem znj (n:Nat):shq s (yt d) n=shq s d n:=by
 induction n with
 | zero=>funext x y;rw[shq,shq,zcR,zcR,zgx]
 | succ n ih=>funext x y;rw[shq,shq,zcR,zcR,zgx,ih]
theorem znP (n:Nat):tgq s (yt d) n=tgq s d n:=by
 induction n with
 | zero=>funext x y;rw[tgq,tgq,zcA,zcA,zgx,znj]
 | succ n ih=>funext x y;rw[tgq,tgq,zcA,zcA,zgx,znj,ih]
theorem zmT (n:Nat):lsq s (yt d) n=lsq s d n:=by
 induction n with
 | zero=>funext typ l;rw[zer,zer,zek,zek,znP,zjJ]
 | succ n ih=>funext typ l;rw[zbh,zbh,zek,zek,znP,zjJ,ih]
theorem zuS {n:Nat} {l:List SelD} (h:Sz d n l):Sz (yt d) n l:=by
 induction h with
 | nil=>exact .nil _
 | cons hle _ _ _ i1 i2 i3=>exact .cons hle i1 i2 i3
theorem zjV {n:Nat} {l:List SelD} (h:Sz d n l):Sz d n (Yc d l):=by
 induction h with
 | nil=>exact .nil _
 | @cons n i j m k al nm args dirs on sels r hle h1 h2 h3 i1 i2 i3 =>
  rw[za8]
  cases hf:zw d nm with
  | none=>simp only[inl,hf];exact .cons hle h1 h2 i3
  | some f =>
   simp only[inl,hf]
   by_cases hk:k=1
   ·rw[if_pos hk]
    have h4:=h2 hk
    simp only[frS,hf,Option.getD_some] at h4
    exact .cons (i:=j) (j:=0) (m:=m) (by omega) h4 (fun e=>by cases e) i3
   ·rw[if_neg hk];exact .cons hle h1 h2 i3
theorem ztc (hon:∀ f∈d.frags,f.on≠[]) {N n:Nat} {l:List SelD} (h:Sz d n l) (hn:n≤N) (typ:List UInt8):flz s d N typ (Yc d l)=flz s d N typ l:=by
 induction l generalizing n with
 | nil=>rfl
 | cons x r ih =>
  have hz:=zjV h
  rw[za8] at hz ⊢
  rw[zeB hz hn,zeB h hn]
  have h0:∃ m,m≤N∧Sz d m r:=by
   cases h with
   | cons hle h1 h2 h3=>exact⟨_,by omega,h3⟩
  obtain⟨m,hm,h3⟩:=h0
  rw[ih h3 hm]
  congr 1
  rcases ZF d x with ⟨e,_⟩|⟨f,al,nm,args,dirs,on,sels,rfl,hf,hm,e⟩
  ·rw[e]
  ·rw[e]
   simp only[zg7,zy,show ¬ ((2:Int)=0) by decide,show ¬ ((1:Int)=0) by decide,show ¬ ((1:Int)=2) by decide,if_false,if_true,if_neg (hon f hm),frS,zcT,hf,Option.getD_some]
theorem zpZ (h:zdr s=true) (typ nm:List UInt8) (f:FldD) (hf:yb s typ nm=some f):Yb s f.t.nm=true∨ZC s f.t.nm=true:=by
 unfold yb at hf
 split at hf
 ·simp only[Al1] at hf
  subst hf
  left
  have:yv s [83,116,114,105,110,103]=some (scE [83,116,114,105,110,103]):=by unfold yv;rw[if_pos (by decide)]
  simp only[tnF,Yb,yQ,this,scE]
  decide
 ·cases he:yv s typ with
  | none=>rw[he] at hf;cases hf
  | some e =>
   rw[he] at hf
   simp only at hf
   split at hf
   ·have hmf:=List.mem_of_find?_eq_some hf
    unfold yv at he
    split at he
    ·simp only[Al1] at he
     subst he
     simp[scE] at hmf
    ·have hme:=List.mem_of_find?_eq_some he
     have h1:=YV.1 h e hme
     simp only[zoM,Al0,Bool.not_eq_true',List.any_eq_false] at h1
     have h2:=h1.2 f hmf
     simp only[zpi,zc6,not_or,Al0,Bool.not_eq_true'] at h2
     cases hlf:Yb s f.t.nm with
     | true=>exact .inl rfl
     | false =>
      right
      cases hcm:ZC s f.t.nm with
      | true=>rfl
      | false=>exact absurd ⟨hlf,hcm⟩ h2.1
   ·cases hf
theorem zuY (F:FitD s d) (hz:∀ x∈zJ d,Sz d 40 x) (hzb:∀ x∈zJ (yt d),Sz (yt d) 40 x) (hb:zq d≤Lim) (hbb:zq (yt d)≤Lim) (hty:zdr s=true):mgM s (yt d)=true:=by
 have h24:mgM s d=true:=by
  have:=Y1 F 24 (by omega) (by omega)
  simpa[yX,zaa] using this
 have hnd:=zeR F.ck
 obtain⟨m1,m2,m3⟩:=(zgu hz hb hnd).1 h24
 have h16:yZ s d (zbO s fun _ l=>Zw [] l)=true:=by
  have:=Y1 F 16 (by omega) (by omega)
  simpa[yX,Z0] using this
 have h16:yZ s d (znq s)=true:=h16
 have h9:yZ s d (zbN s)=true:=by
  have:=Y1 F 9 (by omega) (by omega)
  have h:=this
  simp only[yX,show ¬ ((9:Int)<9) by decide,show (9:Int)<12 by decide,if_false,if_true,ZY,Al0] at h
  have e:zd4 s d 9=zbN s:=by funext typ x;simp[zd4]
  rw[← e];exact h.1
 simp only[yZ,Al0,YV] at h16 h9
 have hf:∀ f∈d.frags,OkQ s f.on f.sels:=fun f hf=>⟨h16.2 f hf,h9.2 f hf⟩
 have hT:=zpZ hty
 rw[zgu hzb hbb hnd]
 refine⟨ziG F,fun f hf=>by rw[zmT];exact m2 f hf,fun o ho=>?_⟩
 obtain⟨o,hod,rfl⟩:=List.mem_map.1 ho
 have h3:=m3 o hod
 have hzo:=hz o.sels (by simp only[zJ,List.mem_append,List.mem_map];exact .inl ⟨o,hod,rfl⟩)
 rw[zmT]
 have er:yY s (zbt d o)=yY s o:=rfl
 rw[er]
 have es:(zbt d o).sels=Yc d o.sels:=rfl
 rw[es]
 have hzi:=zjV hzo
 have hmem:∀ y,y∈(flq s d 64 (yY s o) (Yc d o.sels) []).1↔y∈(flq s d 64 (yY s o) o.sels []).1:=fun y=>by
  rw[zeY hzi (by omega),zeY hzo (by omega),ztc (fun f hf=>zjx F hf) hzo (by omega)]
 have hokO:OkQ s (yY s o) o.sels:=⟨h16.1 o hod,h9.1 o hod⟩
 have hL:∀ v∈(flq s d 64 (yY s o) o.sels []).1,∃ m',m'<40∧Told s d m' v:=fun v hv=>by
  have hv':=(zeY hzo (by omega) _ v).1 hv
  obtain⟨m',h1,h2,h3⟩:=zmU m2 hzo (by omega) _ (zfi hzo (show 40≤64 by omega) h3) v hv'
  exact⟨m',h1,zjj hf 64 _ _ hokO v hv',h2,h3⟩
 have hself:∀ v∈(flq s d 64 (yY s o) o.sels []).1,tgq s d 64 v v=true:=fun v hv=>by
  obtain⟨m',h1,h2⟩:=hL v hv
  exact(zsf hf m2 hT m' v (by omega) h2 64 (Al4 _)).2
 have hall:=zhM hf m2 (show 40≤64 by omega) hL hself (zfQ h3)
 have hpair:Ys (tgq s d 64) [] (flq s d 64 (yY s o) (Yc d o.sels) []).1=true:=by
  rw[zem]
  refine⟨fun x _ y hy=>(by cases hy),zkg fun u hu v hv hk=>hall u ((hmem u).1 hu) v ((hmem v).1 hv) hk.symm⟩
 have h3':lsq s d (63+1) (yY s o) o.sels=true:=h3
 show lsq s d (63+1) (yY s o) (Yc d o.sels)=true
 rw[zbh,zbg] at h3' ⊢
 refine⟨hpair,fun y hy=>?_⟩
 obtain⟨x,hx,rfl⟩:=List.mem_map.1 hy
 rcases ZF d x with ⟨e,_⟩|⟨f,al,nm,args,dirs,on,sels,rfl,hff,hm,e⟩
 ·rw[e];exact h3'.2 x hx
 ·rw[e]
  have hw:zy s (yY s o) (.mk 2 [] [] [] dirs f.on f.sels)=f.on:=by
   simp only[zy,show ¬ ((2:Int)=0) by decide,if_false,if_true]
   rw[if_neg (zjx F hm)]
  rw[hw]
  exact zq9 63 f.on f.sels (m2 f hm)
end
def zhF (d:DocD):DocD:=⟨(yt d).ops,d.frags.filter fun f=>(yt d).ops.any fun o=>zL f.nm (yj (yt d) o.sels)⟩
theorem zvf {d:DocD} {n:Nat} {l:List SelD} (h:Sz d n l):l.length≤n:=by
 induction h with
 | nil=>exact Nat.zero_le _
 | cons hle _ _ _ _ _ i3=>simp only[Al2];omega
theorem zhc {d:DocD}:∀(l:List (List SelD)) (n:Nat),Zv d l n≤40→n+(l.map List.length).sum≤40
 | [],n,h=>by simpa[Zv] using h
 | x::r,n,h=>by
  simp only[Zv] at h
  split at h
  ·have h1:=zhc r _ h
   have h0:=za6 d r (n+few d 41 40 x)
   have h2:=zvf (zqd (d:=d) 41 40 x (by omega))
   simp only[List.map_cons,List.sum_cons];omega
  ·omega
theorem zu9 (d:DocD) (x:SelD):bS (inl d x)≤bS x+bFs d.frags:=by
 rcases ZF d x with ⟨e,_⟩|⟨f,al,nm,args,dirs,on,sels,rfl,hf,hm,e⟩
 ·rw[e];omega
 ·have h2:=zaY hm
  rw[e]
  simp only[bS,bF,bMs,Al3] at *
  omega
theorem znC (d:DocD):∀ l:List SelD,bSs (Yc d l)≤bSs l+l.length*bFs d.frags
 | []=>by simp[Yc,bSs]
 | x::r=>by
  have h1:=zu9 d x
  have h2:=znC d r
  rw[za8,bSs,bSs,Al2,Nat.add_mul,Nat.one_mul]
  omega
theorem znZ (d:DocD):∀ l:List OpD,bOs (l.map (zbt d))≤bOs l+((l.map (·.sels)).map List.length).sum*bFs d.frags
 | []=>by simp[bOs]
 | o::r=>by
  have h1:=znC d o.sels
  have h2:=znZ d r
  simp only[bOs,List.map_cons,List.sum_cons,Nat.add_mul,bO,zbt] at *
  omega
theorem zru {s:SchD} {d:DocD} (h:Y8 s d=true) (hb:zq d≤1048576):zq (yt d)≤67108864:=by
 have h1:=znZ d d.ops
 simp only[Y8,Al0,yH] at h
 have h3:=za6 d (d.frags.map (·.sels)) (Zv d (d.ops.map (·.sels)) 0)
 have h4:=zhc (d:=d) (d.ops.map (·.sels)) 0 (by omega)
 have h5:((d.ops.map (·.sels)).map List.length).sum*bFs d.frags≤40*bFs d.frags:=Nat.mul_le_mul_right _ (by omega)
 simp only[zq,yt] at *
 omega
theorem zvq {d:DocD} (h:zcc d):zcc (yt d):=by
 refine⟨fun x hx=>?_,h.2⟩
 obtain⟨o,ho,rfl⟩:=List.mem_map.1 hx
 have h1:=h.1 o ho
 refine⟨h1.1,h1.2.1,?_⟩
 have key:∀ l:List SelD,zfO l→zfO (Yc d l):=by
  intro l
  induction l with
  | nil=>intro _;trivial
  | cons x r ih =>
   intro hl
   rw[za8]
   refine⟨?_,ih hl.2⟩
   rcases ZF d x with ⟨e,_⟩|⟨f,al,nm,args,dirs,on,sels,rfl,hf,hm,e⟩
   ·rw[e];exact hl.1
   ·have h2:=hl.1
    rw[e]
    simp only[wfS] at h2 ⊢
    exact⟨trivial,h2.2.1,(h.2 f hm).2⟩
 exact key _ h1.2.2
theorem zin {s:SchD}:∀(k:Nat) (n i:Int),1≤n→zcJ s k n=0→n≤i→i<n+k→zcF s i=true
 | 0,n,i,_,_,_,_=>by omega
 | k+1,n,i,hn,h,h1,h2=>by
  simp only[zcJ] at h
  split at h
  ·rename_i hv
   by_cases e:i=n
   ·rw[e];exact hv
   ·exact zin k (n+1) i (by omega) h (by omega) (by omega)
  ·omega
theorem zrz {s:SchD} {d:DocD} (h:ZB s d=0):FitD s d∧zcJ s 9 1=0:=by
 have h1:=h
 unfold ZB at h1
 split at h1
 ·cases h1
 ·rename_i h2
  simp only[not_or,Decidable.not_not,Bool.not_eq_false] at h2
  exact⟨⟨h,h2.2⟩,h2.1⟩
section
variable {s:SchD} {d:DocD} (F:FitD s d)
include F
theorem zkC:PartV (zhF d) (yt d) where
 so:=⟨_,List.Perm.refl _,List.Sublist.refl _⟩
 sf:=⟨_,List.Perm.refl _,List.filter_sublist⟩
 nd:=show (d.frags.map (·.nm)).Nodup from zeR F.ck
 ne:=by have:=zoE F.ck;simp only[zhF,yt,List.length_map];exact this
 cl:=fun l hl n hn=>zo1 ⟨_,List.Perm.refl _,List.filter_sublist⟩ (show (d.frags.map (·.nm)).Nodup from zeR F.ck) fun hm=>by
  obtain⟨o,ho,hr⟩:∃ o∈(yt d).ops,n∈zT (yt d) o.sels:=by
   simp only[zJ,zhF,List.mem_append,List.mem_map,List.mem_filter] at hl
   rcases hl with ⟨o,ho,rfl⟩|⟨f,⟨h1,h2⟩,rfl⟩
   ·exact⟨o,ho,zdZ _ _ hn⟩
   ·obtain⟨o,ho,h3⟩:=List.any_eq_true.1 h2
    exact⟨o,ho,zes _ _ ((Zu _ _ _).1 ((y7 _ _).1 h3)).1 (zkB (d:=yt d) (show (d.frags.map (·.nm)).Nodup from zeR F.ck) h1) hn⟩
  obtain⟨f,hf,e⟩:=List.mem_map.1 hm
  refine List.mem_map.2 ⟨f,List.mem_filter.2 ⟨hf,List.any_eq_true.2 ⟨o,ho,(y7 _ _).2 ?_⟩⟩,e⟩
  rw[e];exact(Zu _ _ _).2 ⟨hr,hm⟩
 us:=fun f hf=>by
  obtain⟨o,ho,h3⟩:=List.any_eq_true.1 (List.mem_filter.1 hf).2
  exact⟨o,ho,((Zu _ _ _).1 ((y7 _ _).1 h3)).1⟩
theorem zqH (hz:∀ x∈zJ d,Sz d 40 x):∀ x∈zJ (yt d),Sz (yt d) 40 x:=fun x hx=>by
 refine zuS ?_
 simp only[zJ,List.mem_append,List.mem_map] at hx hz
 rcases hx with ⟨o,ho,rfl⟩|⟨f,hf,rfl⟩
 ·obtain⟨p,hp,rfl⟩:=List.mem_map.1 ho
  exact zjV (hz _ (.inl ⟨p,hp,rfl⟩))
 ·exact hz _ (.inr ⟨f,hf,rfl⟩)
theorem zqY (hz:∀ x∈zJ d,Sz d 40 x) (hb:zq d≤Lim) (hbb:zq (yt d)≤Lim) (hty:zdr s=true) (n:Int) (h1:1≤n) (h2:n<25):yX s (zhF d) n=true:=by
 have P:=zkC F
 have hzb:=zqH F hz
 have h:=Y1 F n h1 h2
 unfold yX at h ⊢
 split at h
 ·rename_i hp;rw[if_pos hp]
  refine zxM P s n ?_
  by_cases h8:n=8
  ·exact .inl h8
  ·exact .inr (zww F n h1 hp h8)
 rename_i q1
 rw[if_neg q1]
 split at h
 ·rename_i hp;rw[if_pos hp]
  exact zuZ P s n (zta F n h)
 rename_i q2
 rw[if_neg q2]
 split at h
 ·rename_i hp;rw[if_pos hp]
  exact zv1 P s n (ztr F n h)
 rename_i q3
 rw[if_neg q3]
 split at h
 ·rename_i hp;rw[if_pos hp]
  exact zv5 P s n (zr7 F n h)
 rename_i q4
 rw[if_neg q4]
 split at h
 ·rename_i hp;rw[if_pos hp]
  exact zvG P s n (zsV F n h)
 rename_i q5
 rw[if_neg q5]
 split at h
 ·rename_i hp;rw[if_pos hp]
  exact zw0 P s n (zu4 F n h)
 ·rename_i hp;rw[if_neg hp]
  refine zw2 P s n hzb hbb ?_
  simp only[zaa,Al0] at h ⊢
  exact⟨h.1,zuY F hz hzb hb hbb hty⟩
end
theorem zl8 {s:SchD} {d:DocD} (hsw:zch s) (hdw:zcc d) (hsb:zI s≤1048576) (hdb:zq d≤1048576) (hl:Y8 s d=true) (h:ZB s d=0) :
  ValH s (zhF d)∧zq (yt d)≤67108864∧(Zx (zhF d)=true→ZB s (zhF d)=0):=by
 obtain⟨F,hs⟩:=zrz h
 have hv:=zpT hsw hdw hsb hdb hl
 have hbb:=zru hl hdb
 have P:=zkC F
 have hlen:lenD (yt d)=lenD d:=by simp only[lenD,yt,List.length_map]
 have hb1:=znI P
 have hl1:=zvJ P
 refine⟨⟨hsw,zxp P (zvq hdw),hsb,by omega,by have:=hv.ln;omega,zuu P (zqH F hv.sz)⟩,hbb,fun hr=>?_⟩
 have hty:zdr s=true:=by
  have:=zin 9 1 4 (by omega) hs (by omega) (by omega)
  simpa[zcF] using this
 have hR:=zqY F hv.sz (by simp only[Lim];omega) (by simp only[Lim];omega) hty
 unfold ZB
 rw[if_neg (by simp[hs,hr])]
 have hc:∀(k:Nat) (n:Int),1≤n→n+k=25→zg4 s (zhF d) k n=0:=by
  intro k
  induction k with
  | zero=>intro n _ _;rfl
  | succ k ih =>
   intro n hn hk
   simp only[zg4]
   rw[if_pos (hR n hn (by omega))]
   exact ih (n+1) (by omega) (by omega)
 exact hc 24 1 (by omega) (by omega)
def YT (d:DocD):SelD→List AV
 | .mk k al nm args dirs on sels=>match zw d nm with
  | some f=>if k=1 then [.int .i64 2,.str [],.str [],.sl .nil 6 [],.sl .no 2 (cDs dirs),.str f.on,.sl .no 7 (cSs f.sels)] else cS (.mk k al nm args dirs on sels)
  | none=>cS (.mk k al nm args dirs on sels)
theorem zmA (d:DocD) (x:SelD):(YT d x).map AV.strip1=cS (inl d x):=by
 obtain⟨k,al,nm,args,dirs,on,sels⟩:=x
 cases hf:zw d nm with
 | none=>simp only[YT,inl,hf];exact zk1 _
 | some f =>
  by_cases hk:k=1
  ·simp only[YT,inl,hf,if_pos hk];rfl
  ·simp only[YT,inl,hf,if_neg hk];exact zk1 _
theorem zk0 (d:DocD) (l:List SelD):(l.map (YT d)).map (·.map AV.strip1)=cSs (Yc d l):=by
 rw[zaD,Yc,List.map_map,List.map_map]
 exact List.map_congr_left fun x _=>zmA d x
theorem zq3 {A B:List (List AV)} {r:List AV} (h:∀ x∈A++r::B,x.length=7):((A++r::B).flatten.drop (0+A.length*7)).take 7=r:=by
 have h1:=zR 7 A fun x hx=>h x (ZZ _ hx)
 have h2:=h r (by simp)
 rw[List.flatten_append,Nat.zero_add,← h1,List.drop_left',List.flatten_cons,← h2,List.take_left']
 ·rfl
 ·rfl
theorem MsV.congr {H:zb} {f g:Nat→List (List AV)} {ms:List AV} (h:MsV H f ms) (e:∀ q,q<ms.length→f q=g q):MsV H g ms :=
 ⟨fun i m hm=>by rw[← e i (Z4.1 hm).1];exact h.row i m hm,h.sep⟩
theorem MsV.put {H:zb} {f:Nat→List (List AV)} {ms:List AV} {i b n cap:Nat} {o:AObj} {rs:List (List AV)} (V:MsV H f ms) (hi:ms[i]?=some (.ms b 0 n cap)) (hn:MsB (H.upd b o) (.ms b 0 n cap) rs) :
  MsV (H.upd b o) (fun q=>if q=i then rs else f q) ms:=by
 refine⟨fun q m hq=>?_,V.sep⟩
 by_cases e:q=i
 ·subst e
  rw[hi] at hq;cases hq
  simp only[if_true];exact .inr hn
 ·simp only[if_neg e]
  rcases V.row q m hq with h|⟨c,pad,rfl,hc,h7⟩
  ·exact .inl h
  ·have hcb:c≠b:=fun e2=>by subst e2;exact e (V.sep q i _ _ _ _ _ hq hi)
   exact .inr ⟨c,pad,rfl,by rw[upd_ne hcb];exact hc,h7⟩
theorem zhj {H:zb} {f:Nat→List (List AV)} {ms:List AV} {i:Nat} {m:AV} {rs:List (List AV)} (V:MsV H f ms) (hi:ms[i]?=some m) (hs:(f i).map (·.map AV.strip1)=rs):zez H m (.sl .no 7 rs):=by
 rcases V.row i m hi with ⟨rfl,h⟩|h
 ·rw[h] at hs;subst hs;exact .refl _
 ·rw[← hs];exact .ms h
theorem zh0 {H:zb} (d:DocD):∀(ops:List OpD) (ms:List AV),ms.length=ops.length→(∀(i:Nat) m o,ms[i]?=some m→ops[i]?=some o→zez H m (.sl .no 7 (cSs (Yc d o.sels))))→ziu H (YI ops ms) (cOs (ops.map (zbt d)))
 | [],[],_,_=>trivial
 | [],m::ms,h,_=>by simp at h
 | o::ops,[],h,_=>by simp at h
 | o::ops,m::ms,h,hl=>by
  refine⟨⟨.refl _,.refl _,.refl _,.refl _,hl 0 m o rfl rfl,trivial⟩,zh0 d ops ms (by simpa using h) fun i m' o' h1 h2=>hl (i+1) m' o' (by simpa using h1) (by simpa using h2)⟩
theorem MsB.at {H:zb} {b n cap:Nat} {rs:List (List AV)} (h:MsB H (.ms b 0 n cap) rs):∃ pad,n=rs.length∧cap=rs.length+pad.length∧H b=some (.cells (rs++pad).flatten)∧∀ r∈rs++pad,r.length=7:=by
 obtain⟨b',pad,e,h2,h3⟩:=h
 injection e with e1 _ e2 e3
 subst e1
 exact⟨pad,e2,e3,h2,h3⟩
def zaK (d:DocD) (l:List OpD) (i q:Nat):List (List AV):=if q<i then (l.getD q zOp).sels.map (YT d) else cSs (l.getD q zOp).sels
theorem zft {d:DocD} {l:List OpD} {q:Nat} {o:OpD} (h:l[q]?=some o):(zaK d l l.length q).map (·.map AV.strip1)=cSs (Yc d o.sels):=by
 have hq:=(Z4.1 h).1
 have e:l.getD q zOp=o:=by simp[List.getD,h]
 simp only[zaK,if_pos hq,e]
 exact zk0 d o.sels
def Y7:SchD:=⟨[⟨1,[81],[],[⟨[97],[],⟨[73,110,116],0,0⟩,[]⟩],[],[]⟩],[81],[]⟩
def ze6:SchD:=⟨[],[],[]⟩
def zh5 (n:List UInt8):DocD:=⟨[⟨0,[],[],[],[.mk 0 [] n [] [] [] []]⟩],[]⟩
def zjf:DocD:=zh5 [110,111,116,104,101,114,101]
def zgq:DocD:=zh5 [97]
theorem zuX:ZB Y7 zjf=9:=by decide +kernel
theorem zu5:ZB Y7 zgq=0:=by decide +kernel
theorem zvy:ZB ze6 zgq=25:=by decide +kernel
theorem zvg:yX Y7 zgq 24=true:=by decide +kernel
theorem zuK:yX Y7 zgq 25=false:=by decide +kernel
theorem zt9:zch Y7:=by
 intro x hx
 simp only[Y7,List.mem_singleton] at hx
 subst hx
 refine⟨fun y hy=>?_,fun y hy=>(nomatch hy)⟩
 simp only[List.mem_singleton] at hy
 subst hy
 exact⟨fun y hy=>(nomatch hy),by simp[inR],by simp[inR],fun y hy=>(nomatch hy)⟩
theorem zvU:zch ze6:=fun x hx=>nomatch hx
theorem zqs (n:List UInt8):zcc (zh5 n):=by
 refine⟨fun x hx=>?_,fun x hx=>(nomatch hx)⟩
 simp only[zh5,List.mem_singleton] at hx
 subst hx
 exact⟨fun y hy=>(nomatch hy),fun y hy=>(nomatch hy),⟨trivial,fun y hy=>(nomatch hy),trivial⟩,trivial⟩
theorem zvo:ValH Y7 zjf:=zpT zt9 (zqs _) (by decide) (by decide) (by decide +kernel)
theorem zmC:ValH Y7 zgq:=zpT zt9 (zqs _) (by decide) (by decide) (by decide +kernel)
theorem zvK:ValH ze6 zgq:=zpT zvU (zqs _) (by decide) (by decide) (by decide +kernel)
theorem zto:zl Y7=[.sl .no 6 [[.int .i64 1,.str [81],.sl .no 1 [],.sl .no 6 [[.str [97],.sl .no 10 [],.str [73,110,116],.int .i64 0,.int .i64 0,.sl .no 2 []]],.sl .no 1 [],.sl .no 10 []]],.str [81],.str []]:=by rfl
theorem zwt:zl ze6=[.sl .no 6 [],.str [],.str []]:=by rfl
theorem zv7 (n:List UInt8):zP (zh5 n)=[.sl .no 5 [[.int .i64 0,.str [],.sl .no 10 [],.sl .no 2 [],.sl .no 7 [[.int .i64 0,.str [],.str n,.sl .no 6 [],.sl .no 2 [],.str [],.sl .no 7 []]]]],.sl .no 4 []]:=by rfl
theorem zsJ:zg Tryz.prog 18 [] (.agg (zl Y7)):=by
 rw[zto]
 refine zg.go ir18 ck18 (Al4 _) fun KP Q hQ=>?_
 simp(disch:=omega) only[ir18,go_sem]
 refine zc fun b0 hb0=>?_
 simp(disch:=omega) only[go_sem]
 exact hQ _ _ _ [.agg [.sl .full 6 [[.int .i64 1,.str [81],.sl .no 1 [],.sl .no 6 [[.str [97],.sl .no 10 [],.str [73,110,116],.int .i64 0,.int .i64 0,.sl .no 2 []]],.sl .no 1 [],.sl .no 10 []]],.str [81],.str []]] nofun (by simp(disch:=omega) only[ir18,zG,Zk,go_sem]) rfl
theorem zrC:zg Tryz.prog 6 [] (.bool true):=by
 have hw:=zsJ
 have h1:=zhw Y7 zjf zvo
 have h2:=zhw Y7 zgq zmC
 have h3:=zhw ze6 zgq zvK
 have h4:=zvm Y7 zgq 24 zmC
 have h5:=zvm Y7 zgq 25 zmC
 rw[zuX] at h1
 rw[zu5] at h2
 rw[zvy] at h3
 rw[zvg] at h4
 rw[zuK] at h5
 rw[zjf,zto,zv7] at h1
 rw[zgq,zto,zv7] at h2 h4 h5
 rw[zgq,zwt,zv7] at h3
 rw[zto] at hw
 refine zg.go ir6 ck6 (Al4 _) fun KP Q hQ=>?_
 simp(disch:=omega) only[ir6,go_sem]
 refine zc fun b1 hb1=>?_
 simp(disch:=omega) only[go_sem]
 refine zc fun b2 hb2=>?_
 have hne:b1≠b2:=fun e=>by subst e;simp[zb.upd] at hb2
 simp(disch:=omega) only[hne,Ne.symm hne,go_sem]
 refine za hw ?_
 simp(disch:=omega) only[hne,Ne.symm hne,go_sem]
 refine za (zg.low h1) ?_
 simp(disch:=omega) only[hne,Ne.symm hne,go_sem]
 refine za hw ?_
 simp(disch:=omega) only[hne,Ne.symm hne,go_sem]
 refine za (zg.low h2) ?_
 simp(disch:=omega) only[hne,Ne.symm hne,go_sem]
 refine za (zg.low h3) ?_
 simp(disch:=omega) only[hne,Ne.symm hne,go_sem]
 refine za hw ?_
 simp(disch:=omega) only[hne,Ne.symm hne,go_sem]
 refine za (zg.low h4) ?_
 simp(disch:=omega) only[hne,Ne.symm hne,go_sem]
 refine za hw ?_
 simp(disch:=omega) only[hne,Ne.symm hne,go_sem]
 refine za (zg.low h5) ?_
 simp(disch:=omega) only[go_sem]
 exact hQ _ _ _ _ nofun rfl (by simp[zd,ze,AV.strip,AV.strip1])
theorem zlg (s:SchD) (d:DocD) (hsw:zch s) (hdw:zcc d) (hsb:zI s≤1048576) (hdb:zq d≤1048576):zg Tryz.prog 3 [.agg (zl s),.agg (zP d)] (.bool true):=by
 have hL:=zqX s d hsb hdb
 have hA:=zrC
 have hC:=fun h=>zhw s d (zpT hsw hdw hsb hdb h)
 have hV:=zl8 hsw hdw hsb hdb
 have hcp:=zp4 d (by omega)
 have hbf:d.frags.length≤1048576:=by have:=yx d.frags;simp only[zq] at hdb;omega
 have hbo:d.ops.length≤1048576:=by have:=y9 d.ops;simp only[zq] at hdb;omega
 have hfr:=fun n=>zi3 d n (by simp only[Lim];omega)
 have hfs:∀ f∈d.frags,bSs f.sels≤Lim:=fun f hf=>by
  have h1:=zaY hf
  have h2:=zai f
  simp only[zq,Lim] at hdb ⊢;omega
 generalize Y8 s d=lt at *
 have hcd:zP d=[.sl .no 5 (cOs d.ops),.sl .no 4 (cFs d.frags)]:=rfl
 have hcs:zl s=[.sl .no 6 (cEs s.defs),.str s.q,.str s.m]:=rfl
 simp only[hcs,hcd] at hL hC hcp hfr ⊢
 have hlf:=ZW d.frags
 refine zg.go ir3 ck3 (Al4 _) fun KP Q hQ=>?_
 simp(disch:=first|omega|assumption) only[ir3,go_sem]
 refine za hL ?_
 cases lt with
 | false =>
  simp(disch:=first|omega|assumption) only[go_sem]
  refine za hA ?_
  simp(disch:=first|omega|assumption) only[go_sem]
  exact hQ _ _ _ _ nofun rfl (by simp[zd,ze,AV.strip,AV.strip1])
 | true =>
 replace hC:=hC rfl
 simp(disch:=first|omega|assumption) only[go_sem]
 refine za hC ?_
 by_cases hc:ZB s d=0
 case neg =>
  simp(disch:=first|omega|assumption) only[hc,go_sem]
  refine za hA ?_
  simp(disch:=first|omega|assumption) only[go_sem]
  exact hQ _ _ _ _ nofun rfl (by simp[zd,ze,AV.strip,AV.strip1])
 obtain⟨hv,hbb,hfin⟩:=hV rfl hc
 have hck:=zhw s (zhF d) hv
 have hrg:=znW (zhF d) hv.dw (by have:=hv.db;simp only[Lim];omega)
 obtain⟨F,_⟩:=zrz hc
 have hne:∀ o∈d.ops,o.sels≠[]:=fun o ho e=>by
  have h1:=F.rd
  simp only[Zx,Al0,YV] at h1
  have h2:=h1.2.1 o ho
  simp[zel,yy,e] at h2
 have hRc:=fun(o:OpD) (ho:o∈d.ops)=>zp2 (yt d) (Yc d o.sels) zb.emp (by simp only[yW,Lim];omega) (zbj (by simp only[zJ,yt,List.mem_append,List.mem_map];exact .inl ⟨zbt d o,⟨o,ho,rfl⟩,rfl⟩))
 have hRl:=fun(o:OpD)=>show (yj (yt d) (Yc d o.sels)).length≤d.frags.length from zea (yt d) (Yc d o.sels)
 simp(disch:=first|omega|assumption) only[hc,go_sem]
 refine yn (XP:=fun _ _=>False) hcp (fun v H1 ⟨o1,o2,ms,hv1,V1,hml⟩=>?_) (fun _ _ h=>h.elim)
 subst hv1
 have hlo:(YI d.ops ms).length=d.ops.length:=by simp[YI,hml]
 have hrow:∀ {done rest:List OpD} {o:OpD},d.ops=done++o::rest→∃ m,ms[done.length]?=some m∧(YI d.ops ms).getD done.length []=[.int .i64 o.k,.str o.nm,.sl .no 10 (cWs o.vars),.sl .no 2 (cDs o.dirs),m]:=fun {done rest o} e=>by
  have hlt:done.length<ms.length:=by rw[hml,e];simp
  refine⟨ms[done.length],Al9 hlt,?_⟩
  have h1:d.ops[done.length]?=some o:=by rw[e];simp
  simp only[YI,List.getD,List.getElem?_zipWith,h1,Al9 hlt]
  rfl
 simp(disch:=first|omega|assumption) only[go_sem]
 refine zc fun b5 hb5=>?_
 simp(disch:=first|omega|assumption) only[go_sem]
 have V2:MsV (H1.upd b5 (.cells [.sl o1 5 (YI d.ops ms),.sl o2 4 (cFs d.frags)])) (zaK d d.ops 0) ms:=(V1.new hb5).congr fun q _=>by simp[zaK,zgh]
 refine zf d.ops 6 (fun _:Unit=>[]) (fun done rest _ H'=>H' b5=some (.cells [.sl o1 5 (YI d.ops ms),.sl o2 4 (cFs d.frags)])∧MsV H' (zaK d d.ops done.length) ms) () (by simp(disch:=first|omega|assumption) only[go_sem]) ⟨upd_same ..,V2⟩ ?_ ?_
 ·rintro _ H2 J ⟨g2,V2⟩ hlt
  generalize hp:(fun f:FragD=>(yt d).ops.any fun o=>zL f.nm (yj (yt d) o.sels))=p at *
  simp(disch:=first|omega|assumption) only[hlo,hlt,g2,go_sem]
  refine zf d.frags 12 (fun x:Own×List FragD=>[(11,.sl x.1 4 (cFs x.2))]) (fun done rest x H'=>x.2=done.filter p∧H' b5=some (.cells [.sl o1 5 (YI d.ops ms),.sl o2 4 (cFs d.frags)])∧MsV H' (zaK d d.ops d.ops.length) ms∧zK H' x.1 x.2.length 4) (.nil,[]) (by simp(disch:=first|omega|assumption) only[cFs,go_sem]) ⟨rfl,g2,V2,rfl⟩ ?_ ?_
  ·rintro⟨x,L⟩ H3 J3 ⟨hL3,g3,V3,w3⟩ hlt3
   simp only at hL3 V3 w3
   have V4:=V3.cell (o:=.cells [.sl o1 5 (YI d.ops ms),.sl x 4 (cFs L)]) g3 (by simp)
   have hrows:=zh0 d d.ops ms hml fun i m o hi ho=>zhj V4 hi (zft ho)
   have efr:zhF d=⟨d.ops.map (zbt d),L⟩:=by rw[hL3,← hp];rfl
   rw[efr] at hck hrg hfin
   have hcd2:zP ⟨d.ops.map (zbt d),L⟩=[.sl .no 5 (cOs (d.ops.map (zbt d))),.sl .no 4 (cFs L)]:=rfl
   rw[hcd2] at hck hrg
   rw[hcs] at hck
   have hle:YQ (H3.upd b5 (.cells [.sl o1 5 (YI d.ops ms),.sl x 4 (cFs L)])) [.agg [.sl o1 5 (YI d.ops ms),.sl x 4 (cFs L)]] [.agg [.sl .no 5 (cOs (d.ops.map (zbt d))),.sl .no 4 (cFs L)]]:=⟨.agg ⟨.sl hrows,.low (.sl x 4 (cFs L)),trivial⟩,trivial⟩
   have hle2:YQ (H3.upd b5 (.cells [.sl o1 5 (YI d.ops ms),.sl x 4 (cFs L)])) [.agg [.sl .no 6 (cEs s.defs),.str s.q,.str s.m],.agg [.sl o1 5 (YI d.ops ms),.sl x 4 (cFs L)]] [.agg [.sl .no 6 (cEs s.defs),.str s.q,.str s.m],.agg [.sl .no 5 (cOs (d.ops.map (zbt d))),.sl .no 4 (cFs L)]]:=⟨.refl _,hle⟩
   simp(disch:=first|omega|assumption) only[hlf,hlt3,g3,go_sem]
   refine yn (XP:=fun _ _=>False) (zi.lend (fun γ w γ' w' v h=>by cases h;exact .int ..) hle2 hck) (fun v H4 ⟨e1,e2⟩=>?_) (fun _ _ h=>h.elim)
   subst e1;subst e2
   by_cases hz:ZB s ⟨d.ops.map (zbt d),L⟩=0
   ·simp(disch:=first|omega|assumption) only[hz,go_sem]
    refine za hA ?_
    simp(disch:=first|omega|assumption) only[go_sem]
    exact hQ _ _ _ _ nofun rfl (by simp[zd,ze,AV.strip,AV.strip1])
   ·have hrf:Zx ⟨d.ops.map (zbt d),L⟩=false:=by
     cases h:Zx ⟨d.ops.map (zbt d),L⟩ with
     | false=>rfl
     | true=>exact absurd (hfin h) hz
    rw[hrf] at hrg
    simp(disch:=first|omega|assumption) only[hz,go_sem]
    refine yn (XP:=fun _ _=>False) (zi.lend (fun γ w γ' w' v h=>by cases h;exact .bool ..) hle hrg) (fun v H4 ⟨e1,e2⟩=>?_) (fun _ _ h=>h.elim)
    subst e1;subst e2
    simp(disch:=first|omega|assumption) only[go_sem]
    refine za hA ?_
    simp(disch:=first|omega|assumption) only[go_sem]
    exact hQ _ _ _ _ nofun rfl (by simp[zd,ze,AV.strip,AV.strip1])
  ·rintro done f rest ⟨x,L⟩ H3 J3 hd hlt3 _ ⟨hL3,g3,V3,w3⟩ hJ3
   simp only at hL3 V3 w3
   have hg:=Yl hd
   have hLl:L.length≤1048576:=by
    have h1:=List.length_filter_le p done
    have h2:=congrArg List.length hd
    simp only[Al5,Al2] at h2
    rw[hL3];omega
   have hcl:=ZW L
   have hfp:p f=(d.ops.any fun o=>zL f.nm (yj (yt d) (Yc d o.sels))):=by rw[← hp];simp only[yt,List.any_map];rfl
   obtain⟨fn,on,ds,ss⟩:=f
   rw[Z7] at hg
   simp only at hfp
   simp(disch:=first|omega|assumption) only[hlf,hlt3,g3,go_sem]
   refine zf d.ops 13 (fun _:Unit=>[]) (fun dn rs _ H'=>(∀ o∈dn,zL fn (yj (yt d) (Yc d o.sels))=false)∧H' b5=some (.cells [.sl o1 5 (YI d.ops ms),.sl o2 4 (cFs d.frags)])∧MsV H' (zaK d d.ops d.ops.length) ms∧zK H' x L.length 4) () (by simp(disch:=first|omega|assumption) only[go_sem]) ⟨by simp,g3,V3,w3⟩ ?_ ?_
   ·rintro _ H4 J4 ⟨hn,g4,V4,w4⟩ hlt4
    have hpf:p ⟨fn,on,ds,ss⟩=false:=by rw[hfp,List.any_eq_false];exact fun o ho=>by simp[hn o ho]
    simp(disch:=first|omega|assumption) only[hlo,hlt4,g4,go_sem]
    exact goJ (hJ3 (x,L) _ ⟨by rw[List.filter_append,← hL3];simp[hpf],g4,V4,w4⟩) (by simp(disch:=first|omega|assumption) only[wrap64,go_sem])
   ·rintro dn o rs _ H4 J4 hd2 hlt4 _ ⟨hn,g4,V4,w4⟩ hJ4
    obtain⟨m,hm,hr⟩:=hrow hd2
    have ho:o∈d.ops:=by rw[hd2];simp
    have hoi:d.ops[dn.length]?=some o:=by rw[hd2];simp
    have hrows:=zh0 d d.ops ms hml fun i m o hi ho=>zhj V4 hi (zft ho)
    have hRo:=hRc o ho
    have hRlo:=hRl o
    have hH:=zxJ (yj (yt d) (Yc d o.sels)) fn (by simp only[Lim];omega)
    have hpf:zL fn (yj (yt d) (Yc d o.sels))=true→p ⟨fn,on,ds,ss⟩=true:=fun e=>by rw[hfp,List.any_eq_true];exact⟨o,ho,e⟩
    have hn2:zL fn (yj (yt d) (Yc d o.sels))=false→∀ o'∈dn++[o],zL fn (yj (yt d) (Yc d o'.sels))=false:=fun e o' ho'=>by
     rcases List.mem_append.1 ho' with h|h
     ·exact hn o' h
     ·simp only[List.mem_singleton] at h;subst h;exact e
    have hcd3:zP (yt d)=[.sl .no 5 (cOs (d.ops.map (zbt d))),.sl .no 4 (cFs d.frags)]:=rfl
    rw[hcd3] at hRo
    have hlr:=zhj V4 hm (zft hoi)
    have hle:YQ H4 [.agg [.sl o1 5 (YI d.ops ms),.sl o2 4 (cFs d.frags)],m] [.agg [.sl .no 5 (cOs (d.ops.map (zbt d))),.sl .no 4 (cFs d.frags)],.sl .no 7 (cSs (Yc d o.sels))]:=⟨.agg ⟨.sl hrows,.low (.sl o2 4 (cFs d.frags)),trivial⟩,hlr,trivial⟩
    generalize yj (yt d) (Yc d o.sels)=R at *
    simp(disch:=first|omega|assumption) only[hlo,hlt4,g4,hr,hlf,hlt3,hg,go_sem]
    refine zB (zi.lendT hle hRo) fun o9 H9 hs9=>?_
    have kp:∀ b x,H4 b=some x→H9 b=some x:=fun b x h=>hs9.kept b x h nofun
    have g9:=kp _ _ g4
    have V9:=V4.kept (H':=H9) fun c cs hc _=>kp c _ hc
    have w9:=zh1 w4 kp
    simp(disch:=first|omega|assumption) only[hlf,hlt3,g9,hg,go_sem]
    refine za (zg.low (show zg _ _ [.sl .no 1 (cT R),.str fn] _ from hH)) ?_
    cases hh:zL fn R with
    | false =>
     simp(disch:=first|omega|assumption) only[go_sem]
     exact goJ (hJ4 () _ ⟨hn2 hh,g9,V9,w9⟩) (by simp(disch:=first|omega|assumption) only[wrap64,go_sem])
    | true =>
     simp(disch:=first|omega|assumption) only[hlf,hlt3,g9,hg,go_sem]
     refine zp (by rw[hcl];exact w9) (by simp only[hcl,Al2,Al3];omega) (by simp only[hcl,Al2,Al3,maxLen];omega) fun ox Hx hsx=>?_
     have gx:=Z2 w9 g9 hsx.kept
     have Vx:=V9.kept (H':=Hx) fun c cs hc _=>Z2 w9 hc hsx.kept
     have eL:cFs L++[[.str fn,.str on,.sl .no 2 (cDs ds),.sl .no 7 (cSs ss)]]=cFs (L++[⟨fn,on,ds,ss⟩]):=by simp[cFs,Z7]
     have wx:=hsx.own
     simp only[hcl,Al2,Al3] at wx
     simp(disch:=first|omega|assumption) only[eL,wrap64,go_sem]
     exact goJ (hJ3 (ox,L++[⟨fn,on,ds,ss⟩]) _ ⟨by rw[List.filter_append,← hL3];simp[hpf hh],gx,Vx,by simpa using wx⟩) (by simp(disch:=first|omega|assumption) only[wrap64,go_sem])
 ·rintro done o rest _ H2 J hd hlt _ ⟨g2,V2⟩ hJ
  obtain⟨m,hm,hr⟩:=hrow hd
  have ho:o∈d.ops:=by rw[hd];simp
  have eo:d.ops[done.length]?.getD zOp=o:=by rw[hd];simp
  have hno:=hne o ho
  have hsl:o.sels.length≤1048576:=by
   have h1:=zbj (d:=d) (l:=o.sels) (by simp only[zJ,List.mem_append,List.mem_map];exact .inl ⟨o,ho,rfl⟩)
   have h2:=Z6 o.sels
   omega
  obtain⟨b,n,cap,rfl⟩:∃ b n cap,m=.ms b 0 n cap:=by
   rcases V2.row _ m hm with ⟨_,h⟩|⟨b,pad,h,_⟩
   ·simp only[zaK,Nat.lt_irrefl,if_false,List.getD,eo] at h
    have:=ZI o.sels
    rw[h] at this
    exact absurd (zib.1 this.symm) hno
   ·exact⟨b,_,_,h⟩
  have hN:n=o.sels.length:=by
   rcases V2.row _ _ hm with ⟨h,_⟩|h
   ·cases h
   ·obtain⟨pad,h1,_⟩:=h.at
    rw[h1];simp[zaK,eo,ZI]
  subst hN
  simp(disch:=first|omega|assumption) only[hlo,hlt,g2,hr,go_sem]
  refine zf o.sels 7 (fun _:Unit=>[]) (fun dn rs _ H'=>H' b5=some (.cells [.sl o1 5 (YI d.ops ms),.sl o2 4 (cFs d.frags)])∧MsV H' (fun q=>if q=done.length then dn.map (YT d)++cSs rs else zaK d d.ops done.length q) ms) () (by simp(disch:=first|omega|assumption) only[go_sem]) ⟨g2,V2.congr fun q _=>?_⟩ ?_ ?_
  ·by_cases e:q=done.length
   ·subst e;simp[zaK,eo]
   ·simp[e]
  ·rintro _ H3 J3 ⟨g3,V3⟩ hlt3
   simp(disch:=first|omega|assumption) only[hlo,hlt,g3,hr,hlt3,go_sem]
   refine goJ (hJ () _ ⟨g3,V3.congr fun q _=>?_⟩) (by simp(disch:=first|omega|assumption) only[wrap64,go_sem])
   by_cases e:q=done.length
   ·subst e;simp[zaK,eo,cSs]
   ·have e2:(q<(done++[o]).length)=(q<done.length):=by simp only[Al5,Al2,Al3,eq_iff_iff];omega
    simp only[if_neg e,zaK,e2]
  ·rintro dn x rs _ H3 J3 hd3 hlt3 _ ⟨g3,V3⟩ hJ3
   have hB:MsB H3 (.ms b 0 o.sels.length cap) (dn.map (YT d)++cSs (x::rs)):=by
    rcases V3.row _ _ hm with ⟨h,_⟩|h
    ·cases h
    ·simpa using h
   obtain⟨pad,hn1,hcap,hb,h7⟩:=hB.at
   have ec:cSs (x::rs)=cS x::cSs rs:=by rw[zaD,zaD];rfl
   have ea:dn.map (YT d)++cSs (x::rs)++pad=dn.map (YT d)++cS x::(cSs rs++pad):=by rw[ec];simp
   rw[ea] at hb h7
   have hdn:(dn.map (YT d)).length=dn.length:=by simp
   have hrd:=zq3 h7
   have hfl:=zR 7 _ h7
   have hput:∀ y:List AV,y.length=7→splice (dn.map (YT d)++cS x::(cSs rs++pad)).flatten (0+dn.length*7) y=(dn.map (YT d)++y::(cSs rs++pad)).flatten:=fun y hy=>by
    have h1:=YZ 7 y hy _ dn.length h7 (by simp)
    rw[Nat.zero_add,h1]
    congr 1
    rw[List.set_append_right _ _ (by rw[hdn];exact Al4 _),hdn,Nat.sub_self];rfl
   have hfit:0+dn.length*7+7≤(dn.map (YT d)++cS x::(cSs rs++pad)).flatten.length:=by
    rw[hfl];simp only[Al5,Al2,hdn];omega
   rw[hdn] at hrd
   have hMs:∀ y:List AV,y.length=7→∀ H:zb,MsB (H.upd b (.cells (dn.map (YT d)++y::(cSs rs++pad)).flatten)) (.ms b 0 o.sels.length cap) (dn.map (YT d)++y::cSs rs):=fun y hy H=>by
    refine⟨b,pad,?_,by rw[upd_same];simp,fun r hr=>?_⟩
    ·rw[ec] at hn1 hcap
     simp only[Al5,Al2] at hn1 hcap ⊢
     rw[← hcap,← hn1]
    ·have hr:r∈dn.map (YT d)++y::(cSs rs++pad):=by simpa using hr
     rcases List.mem_append.1 hr with h|h
     ·exact h7 r (ZZ _ h)
     ·rcases List.mem_cons.1 h with rfl|h
      ·exact hy
      ·exact h7 r (List.mem_append_right _ (Zm _ h))
   have hnext:∀(H:zb) (f:Nat→List (List AV)),MsV H f ms→(∀ q,q<ms.length→f q=if q=done.length then dn.map (YT d)++YT d x::cSs rs else zaK d d.ops done.length q)→MsV H (fun q=>if q=done.length then (dn++[x]).map (YT d)++cSs rs else zaK d d.ops done.length q) ms:=fun H f h1 h2=>h1.congr fun q hq=>by rw[h2 q hq];simp
   have hxl:=congrArg List.length hd3
   simp only[Al5,Al2] at hxl
   generalize hCC:(dn.map (YT d)++cS x::(cSs rs++pad)).flatten=CC at *
   obtain⟨k,al,nm,args,dirs,on,sels⟩:=x
   rw[yM] at hrd
   have hfx:=hfr nm
   simp(disch:=first|omega|assumption) only[hlo,hlt,g3,hr,hlt3,hb,hrd,hfit,go_sem]
   refine zc fun b8 hb8=>?_
   simp(disch:=first|omega|assumption) only[go_sem]
   have hskip:∀ {b9:Nat} {X8 X9:AObj},(H3.upd b8 X8) b9=none→YT d (.mk k al nm args dirs on sels)=cS (.mk k al nm args dirs on sels)→((H3.upd b8 X8).upd b9 X9) b5=some (.cells [.sl o1 5 (YI d.ops ms),.sl o2 4 (cFs d.frags)])∧MsV ((H3.upd b8 X8).upd b9 X9) (fun q=>if q=done.length then (dn++[SelD.mk k al nm args dirs on sels]).map (YT d)++cSs rs else zaK d d.ops done.length q) ms:=fun {b9 X8 X9} hb9 hI =>
    ⟨Zt hb9 (Zt hb8 g3),hnext _ _ ((V3.new hb8).new hb9) fun q _=>by rw[hI,← ec]⟩
   cases hf:zw d nm with
   | none =>
    rw[hf] at hfx
    have hI:YT d (.mk k al nm args dirs on sels)=cS (.mk k al nm args dirs on sels):=by simp only[YT,hf]
    refine za (show zg _ _ _ (.tup [.agg [.str [],.str [],.sl .no 2 [],.sl .no 7 []],.bool false]) from hfx) ?_
    simp(disch:=first|omega|assumption) only[go_sem]
    refine zc fun b9 hb9=>?_
    have h98:b8≠b9:=fun e=>by subst e;rw[upd_same] at hb9;cases hb9
    by_cases hk:k=1
    case' pos =>
     have hk':=eq_true hk
     simp(disch:=first|omega|assumption) only[h98,Ne.symm h98,hk',wrap64,go_sem]
    case' neg =>
     simp(disch:=first|omega|assumption) only[h98,Ne.symm h98,hk,wrap64,go_sem]
    all_goals
     refine goJ (hJ3 () _ ?_) (by simp(disch:=first|omega|assumption) only[wrap64,go_sem])
     exact hskip hb9 hI
   | some f =>
    rw[hf] at hfx
    have hfm:f∈d.frags:=List.mem_of_find?_eq_some hf
    have hfl2:=hfs f hfm
    obtain⟨fn,fon,fd,fss⟩:=f
    refine za (show zg _ _ _ (.tup [.agg [.str fn,.str fon,.sl .no 2 (cDs fd),.sl .no 7 (cSs fss)],.bool true]) from hfx) ?_
    simp(disch:=first|omega|assumption) only[go_sem]
    refine zc fun b9 hb9=>?_
    have h98:b8≠b9:=fun e=>by subst e;rw[upd_same] at hb9;cases hb9
    by_cases hk:k=1
    case neg =>
     have hI:YT d (.mk k al nm args dirs on sels)=cS (.mk k al nm args dirs on sels):=by simp only[YT,hf,if_neg hk]
     simp(disch:=first|omega|assumption) only[h98,Ne.symm h98,hk,wrap64,go_sem]
     refine goJ (hJ3 () _ ?_) (by simp(disch:=first|omega|assumption) only[wrap64,go_sem])
     exact hskip hb9 hI
    have hk':=eq_true hk
    simp(disch:=first|omega|assumption) only[h98,Ne.symm h98,hk',go_sem]
    obtain⟨H4,hH4⟩:∃ H4,H4=(H3.upd b8 (.cells [.int .i64 k,.str al,.str nm,.sl .no 6 (cMs args),.sl .no 2 (cDs dirs),.str on,.sl .no 7 (cSs sels)])).upd b9 (.cells [.str fn,.str fon,.sl .no 2 (cDs fd),.sl .no 7 (cSs fss)]):=⟨_,rfl⟩
    have g5:H4 b5=some (.cells [.sl o1 5 (YI d.ops ms),.sl o2 4 (cFs d.frags)]):=by rw[hH4];exact Zt hb9 (Zt hb8 g3)
    have gb:H4 b=some (.cells CC):=by rw[hH4];exact Zt hb9 (Zt hb8 hb)
    have g8:H4 b8=some (.cells [.int .i64 k,.str al,.str nm,.sl .no 6 (cMs args),.sl .no 2 (cDs dirs),.str on,.sl .no 7 (cSs sels)]):=by rw[hH4];exact Zt hb9 (upd_same ..)
    have g9:H4 b9=some (.cells [.str fn,.str fon,.sl .no 2 (cDs fd),.sl .no 7 (cSs fss)]):=by rw[hH4,upd_same]
    have V4:MsV H4 (fun q=>if q=done.length then dn.map (YT d)++cSs (.mk k al nm args dirs on sels::rs) else zaK d d.ops done.length q) ms:=by rw[hH4];exact(V3.new hb8).new hb9
    have hrI:YT d (.mk k al nm args dirs on sels)=[.int .i64 2,.str [],.str [],.sl .nil 6 [],.sl .no 2 (cDs dirs),.str fon,.sl .no 7 (cSs fss)]:=by simp only[YT,hf,if_pos hk]
    have h5b:b5≠b:=fun e=>by
     subst e
     rw[g5] at gb
     cases gb
     simp at hfit
    rw[← hH4]
    simp(disch:=first|omega|assumption) only[hlo,hlt,g5,hr,hlt3,gb,g8,g9,hfit,go_sem]
    refine za (zka fss hfl2) ?_
    have hp:=hput [.int .i64 2,.str [],.str [],.sl .nil 6 [],.sl .no 2 (cDs dirs),.str fon,.sl .no 7 (cSs fss)] rfl
    simp(disch:=first|omega|assumption) only[hlo,hlt,g5,hr,hlt3,gb,g8,g9,hfit,wrap64,hp,go_sem]
    refine goJ (hJ3 () _ ?_) (by simp(disch:=first|omega|assumption) only[wrap64,go_sem])
    refine⟨by rw[upd_ne h5b];exact g5,hnext _ _ (V4.put hm (hMs [.int .i64 2,.str [],.str [],.sl .nil 6 [],.sl .no 2 (cDs dirs),.str fon,.sl .no 7 (cSs fss)] rfl H4)) fun q _=>?_⟩
    rw[hrI]
    by_cases e:q=done.length
    ·simp only[if_pos e]
    ·simp only[if_neg e]
end Go.Proofs.YtbjofkamhijjlaaGreatDoor
