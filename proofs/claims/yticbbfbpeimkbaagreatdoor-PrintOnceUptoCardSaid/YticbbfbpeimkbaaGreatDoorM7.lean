import Derived.Lib.ValidLaws
import Derived.Lib.ItoaLen
import Derived.Lib.Join
import Derived.Lib.DecodeN
import Derived.Lib.TrimUEq
import Derived.Shelf.Strings.OnBuilder
import Derived.Test.YticbbfbpeimkbaaGreatDoorM1
import Derived.Test.YticbbfbpeimkbaaGreatDoorM2
import Derived.Test.YticbbfbpeimkbaaGreatDoorM3
import Derived.Test.YticbbfbpeimkbaaGreatDoorM4
import Derived.Test.YticbbfbpeimkbaaGreatDoorM5
import Derived.Test.YticbbfbpeimkbaaGreatDoorM6
set_option maxRecDepth 100000
set_option linter.all false
namespace Go.Proofs.YticbbfbpeimkbaaGreatDoor
open Go.Ab
theorem zj2 {H H':za} {o1 o2:Own} {n sz:Nat} (h:yh H o2 n sz) (hk:Kept H o1 H') (hs:∀ b x c y,o1=.tip b x→o2=.tip c y→b≠c):yh H' o2 n sz:=by
 cases o2 with
 | tip c y =>
  have h5:H c=some _:=h
  exact hk c _ h5 fun d e=>hs c d c y e rfl rfl
 | no=>exact h
 | nil=>exact h
 | full=>exact h
theorem zmv {H:za} {c y n sz:Nat} (h:yh H (.tip c y) n sz):H c≠none:=by
 have h5:H c=some _:=h
 rw[h5];exact nofun
structure DI (L:TS) (r bd:Nat) (H:za) (t:TS) (d:DocD) (o1 o2:Own):Prop where
 rd:∃ p,p++t=L∧H r=some (prc L p (16-16))
 box:H bd=some (.cells [.sl o1 5 (cOs d.ops),.sl o2 4 (cFs d.frags)])
 own1:yh H o1 d.ops.length 5
 own2:yh H o2 d.frags.length 4
 sep:∀ b x c y,o1=.tip b x→o2=.tip c y→b≠c
 ne:bd≠r
theorem DI.call {L t t':TS} {r bd:Nat} {H H':za} {d:DocD} {o1 o2:Own} (h:DI L r bd H t d o1 o2) (ha:Pat H r L t' (16-16) H'):DI L r bd H' t' d o1 o2:=by
 obtain⟨p,_,hr⟩:=h.rd
 have hb:=ha.other h.ne
 obtain⟨q,hq,rfl⟩:=ha
 exact⟨⟨q,hq,upd_same ..⟩,by rw[hb];exact h.box,Zw h.own1 hr,Zw h.own2 hr,h.sep,h.ne⟩
theorem DI.op {L t:TS} {r bd n:Nat} {H H':za} {d:DocD} {o1 o2 o':Own} {xs:List (List AV)} (h:DI L r bd H t d o1 o2) (x:OpD) (hs:OwnS H o1 H' o' n 5) (hn:n=(d.ops++[x]).length) (hx:xs=cOs (d.ops++[x])) :
  DI L r bd (H'.upd bd (.cells [.sl o' 5 xs,.sl o2 4 (cFs d.frags)])) t ⟨d.ops++[x],d.frags⟩ o' o2:=by
 obtain⟨p,hp,hr⟩:=h.rd
 have hb:=Ze h.own1 h.box hs.kept
 have hr2:=Ze h.own1 hr hs.kept
 subst hn;subst hx
 refine⟨⟨p,hp,by rw[upd_ne (Ne.symm h.ne)];exact hr2⟩,upd_same ..,Zw hs.own hb,Zw (zj2 h.own2 hs.kept h.sep) hb,fun b x c y e1 e2=>?_,h.ne⟩
 rcases hs.new b x e1 with h2|⟨d0,h2⟩
 ·subst e2
  exact fun e=>zmv h.own2 (e▸h2)
 ·exact h.sep b d0 c y h2 e2
theorem DI.frag {L t:TS} {r bd n:Nat} {H H':za} {d:DocD} {o1 o2 o':Own} {xs:List (List AV)} (h:DI L r bd H t d o1 o2) (x:FragD) (hs:OwnS H o2 H' o' n 4) (hn:n=(d.frags++[x]).length) (hx:xs=cFs (d.frags++[x])) :
  DI L r bd (H'.upd bd (.cells [.sl o1 5 (cOs d.ops),.sl o' 4 xs])) t ⟨d.ops,d.frags++[x]⟩ o1 o':=by
 obtain⟨p,hp,hr⟩:=h.rd
 have hb:=Ze h.own2 h.box hs.kept
 have hr2:=Ze h.own2 hr hs.kept
 subst hn;subst hx
 refine⟨⟨p,hp,by rw[upd_ne (Ne.symm h.ne)];exact hr2⟩,upd_same ..,Zw (zj2 h.own1 hs.kept fun b x c y e1 e2=>Ne.symm (h.sep c y b x e2 e1)) hb,Zw hs.own hb,fun b x c y e1 e2=>?_,h.ne⟩
 rcases hs.new c y e2 with h2|⟨d0,h2⟩
 ·subst e1
  exact fun e=>zmv h.own1 (by rw[e];exact h2)
 ·exact h.sep b x c d0 e1 h2
def zwP (L:TS) (r bd:Nat) (t:TS) (d:DocD):AEnd→za→Prop:=fun e H'=>match e with
 | .ret v=>∃ d' t' o1' o2',Yj d t=.ok (d',t')∧v=.tup []∧DI L r bd H' t' d' o1' o2'∧d'.ops.length+d'.frags.length+t'.length≤d.ops.length+d.frags.length+t.length∧t'.length<t.length
 | .pan v=>∃ n,v=Zj n∧Yj d t=.error n
theorem zsE (l:List FragD) (x:FragD):cFs (l++[x])=cFs l++[cF x]:=by simp[cFs]
theorem zkw (l:List OpD) (x:OpD):cOs (l++[x])=cOs l++[cO x]:=by simp[cOs]
theorem zfy (x:OpD):(cO x).length=5:=rfl
theorem zdR (x:OpD):(cO x).take 5=cO x:=rfl
theorem za4 (a b c d e:AV) (x:OpD):splice [a,b,c,d,e] 0 (cO x)=cO x:=rfl
theorem zrx (x:FragD):(cF x).length=4:=rfl
theorem zoV (x:FragD):(cF x).take 4=cF x:=rfl
theorem zjV (a b c d:AV) (x:FragD):splice [a,b,c,d] 0 (cF x)=cF x:=rfl
theorem zui {L t:TS} {r bd:Nat} {H:za} {d:DocD} {o1 o2:Own} (h:DI L r bd H t d o1 o2) (hl:wT L≤yS) (hb:d.ops.length+d.frags.length≤L.length) :
  zj Tryz.prog 91 [.ptr r 0,.ptr bd 0] H (zwP L r bd t d):=by
 refine zj.goO (R:=fun v H'=>∃ d' t' o1' o2',Yj d t=.ok (d',t')∧v=.tup []∧DI L r bd H' t' d' o1' o2'∧d'.ops.length+d'.frags.length+t'.length≤d.ops.length+d.frags.length+t.length∧t'.length<t.length) (RP:=fun v _=>∃ n,v=Zj n∧Yj d t=.error n) ir91 ck91 (Al4 _) fun KP Q hQ hP=>?_
 have hll:L.length≤yS:=Nat.le_trans (zbf L) hl
 have hll2:=hll
 simp only[yS] at hll2
 have pan:∀(v:AV) (H1:za) (n:Int),v=Zj n→Yj d t=.error n→KP v H1:=fun v H1 n h1 h2=>hP v H1 H1 (Low.refl _) ⟨n,h1,h2⟩
 have hc1:=zgT d.ops
 have hc2:=zg5 d.frags
 obtain⟨p,hs,hr⟩:=h.rd
 have g0:=h.box
 simp(disch:=first|omega|assumption) only[ir91,go_sem]
 refine zK (zpW (dp:=16-16) hs hr [123]) fun v H1 ⟨hv1,hH⟩=>?_
 subst hv1;subst hH
 cases hi:isP [123] t with
 | true =>
  have hx:Yj d t=pb (yo 16 t) fun l t=>.ok (⟨d.ops++[⟨0,[],[],[],l⟩],d.frags⟩,t):=by unfold Yj;rw[hi];rfl
  simp(disch:=first|omega|assumption) only[g0,go_sem]
  refine zp (zbe 16 (Al4 _) _ r L p t hs hl hr) (fun v H2 ⟨l,t2,e2,hv2,ha2⟩=>?_) fun v H2 ⟨n,e2,hv2⟩=>pan v H2 n hv2 (by rw[hx,e2];rfl)
  have hlt:=(Yb 16).lt (by decide) _ _ _ e2
  have eD:Yj d t=.ok (⟨d.ops++[⟨0,[],[],[],l⟩],d.frags⟩,t2):=by rw[hx,e2];rfl
  have D2:=h
  subst hv2
  have DX:=D2.call ha2
  obtain⟨pX,hpX,hrX⟩:=DX.rd
  have gX:=DX.box
  simp(disch:=first|omega|assumption) only[gX,zfy,zdR,za4,go_sem]
  refine zx (by rw[hc1];exact DX.own1) (by simp only[hc1,Al2,Al3];omega) (by simp only[hc1,Al2,Al3,maxLen];omega) fun oY HY hsY=>?_
  have gY:=Ze DX.own1 gX hsY.kept
  simp(disch:=first|omega|assumption) only[gY,zfy,zdR,za4,go_sem]
  refine hQ _ _ _ _ [] nofun rfl (Low.refl _) ⟨_,_,oY,o2,eD,rfl,DX.op ⟨0,[],[],[],l⟩ (by simpa[hc1] using hsY) (by simp) (by rw[zkw];simp[cO,AV.strip1,cWs,cDs]),by simp only[Al5,List.length_singleton];omega,by omega⟩
 | false =>
  have hni:¬ (isP [123] t=true):=by rw[hi];decide
  simp(disch:=first|omega|assumption) only[go_sem]
  refine zK (zjF (dp:=16-16) hs hll hr [113,117,101,114,121]) fun v H2 ⟨hv2,ha2⟩=>?_
  subst hv2
  have D2:=h.call ha2
  unfold YO at D2
  cases hq:isW [113,117,101,114,121] t with
  | true =>
   rw[hq,if_pos rfl] at D2
   have htl:=(ze1 hq).1
   have htk:t.tail.length<t.length:=by rw[zam (zc4 hq)];simp
   obtain⟨p2,hp2,hr2⟩:=D2.rd
   have g2:=D2.box
   have hx:Yj d t=pb (opP 0 t.tail) fun o t=>.ok (⟨d.ops++[o],d.frags⟩,t):=by unfold Yj;rw[if_neg hni,hq];rfl
   simp(disch:=first|omega|assumption) only[g2,go_sem]
   refine zp (zwG 0 hp2 hl hr2) (fun v H3 ⟨o,t3,e3,hv3,ha3⟩=>?_) fun v H3 ⟨n,e3,hv3⟩=>pan v H3 n hv3 (by rw[hx,e3];rfl)
   have hlt:=(zfi 0).lt (by decide) _ _ _ e3
   have eD:Yj d t=.ok (⟨d.ops++[o],d.frags⟩,t3):=by rw[hx,e3];rfl
   subst hv3
   have DX:=D2.call ha3
   obtain⟨pX,hpX,hrX⟩:=DX.rd
   have gX:=DX.box
   simp(disch:=first|omega|assumption) only[gX,zfy,zdR,za4,go_sem]
   refine zx (by rw[hc1];exact DX.own1) (by simp only[hc1,Al2,Al3];omega) (by simp only[hc1,Al2,Al3,maxLen];omega) fun oY HY hsY=>?_
   have gY:=Ze DX.own1 gX hsY.kept
   simp(disch:=first|omega|assumption) only[gY,zfy,zdR,za4,go_sem]
   refine hQ _ _ _ _ [] nofun rfl (Low.refl _) ⟨_,_,oY,o2,eD,rfl,DX.op o (by simpa[hc1] using hsY) (by simp) (by rw[zkw];simp[cO,AV.strip1,cWs,cDs]),by simp only[Al5,List.length_singleton];omega,by omega⟩
  | false =>
   rw[hq] at D2
   simp only[Al7,if_false] at D2
   have hnq:¬ (isW [113,117,101,114,121] t=true):=by rw[hq];decide
   obtain⟨p2,hp2,hr2⟩:=D2.rd
   simp(disch:=first|omega|assumption) only[go_sem]
   refine zK (zjF (dp:=16-16) hp2 hll hr2 [109,117,116,97,116,105,111,110]) fun v H3 ⟨hv3,ha3⟩=>?_
   subst hv3
   have D3:=D2.call ha3
   unfold YO at D3
   cases hm:isW [109,117,116,97,116,105,111,110] t with
   | true =>
    rw[hm,if_pos rfl] at D3
    have htk:t.tail.length<t.length:=by rw[zam (zc4 hm)];simp
    obtain⟨p3,hp3,hr3⟩:=D3.rd
    have g3:=D3.box
    have hx:Yj d t=pb (opP 1 t.tail) fun o t=>.ok (⟨d.ops++[o],d.frags⟩,t):=by unfold Yj;rw[if_neg hni,if_neg hnq,hm];rfl
    simp(disch:=first|omega|assumption) only[g3,go_sem]
    refine zp (zwG 1 hp3 hl hr3) (fun v H4 ⟨o,t4,e4,hv4,ha4⟩=>?_) fun v H4 ⟨n,e4,hv4⟩=>pan v H4 n hv4 (by rw[hx,e4];rfl)
    have hlt:=(zfi 1).lt (by decide) _ _ _ e4
    have eD:Yj d t=.ok (⟨d.ops++[o],d.frags⟩,t4):=by rw[hx,e4];rfl
    subst hv4
    have DX:=D3.call ha4
    obtain⟨pX,hpX,hrX⟩:=DX.rd
    have gX:=DX.box
    simp(disch:=first|omega|assumption) only[gX,zfy,zdR,za4,go_sem]
    refine zx (by rw[hc1];exact DX.own1) (by simp only[hc1,Al2,Al3];omega) (by simp only[hc1,Al2,Al3,maxLen];omega) fun oY HY hsY=>?_
    have gY:=Ze DX.own1 gX hsY.kept
    simp(disch:=first|omega|assumption) only[gY,zfy,zdR,za4,go_sem]
    refine hQ _ _ _ _ [] nofun rfl (Low.refl _) ⟨_,_,oY,o2,eD,rfl,DX.op o (by simpa[hc1] using hsY) (by simp) (by rw[zkw];simp[cO,AV.strip1,cWs,cDs]),by simp only[Al5,List.length_singleton];omega,by omega⟩
   | false =>
    rw[hm] at D3
    simp only[Al7,if_false] at D3
    have hnm:¬ (isW [109,117,116,97,116,105,111,110] t=true):=by rw[hm];decide
    obtain⟨p3,hp3,hr3⟩:=D3.rd
    simp(disch:=first|omega|assumption) only[go_sem]
    refine zK (zjF (dp:=16-16) hp3 hll hr3 [102,114,97,103,109,101,110,116]) fun v H4 ⟨hv4,ha4⟩=>?_
    subst hv4
    have D4:=D3.call ha4
    unfold YO at D4
    cases hf:isW [102,114,97,103,109,101,110,116] t with
    | true =>
     rw[hf,if_pos rfl] at D4
     have htk:t.tail.length<t.length:=by rw[zam (zc4 hf)];simp
     obtain⟨p4,hp4,hr4⟩:=D4.rd
     have g4:=D4.box
     have hx:Yj d t=pb (zcG t.tail) fun f t=>.ok (⟨d.ops,d.frags++[f]⟩,t):=by unfold Yj;rw[if_neg hni,if_neg hnq,if_neg hnm,hf];rfl
     simp(disch:=first|omega|assumption) only[g4,go_sem]
     refine zp (zvl hp4 hl hr4) (fun v H5 ⟨f,t5,e5,hv5,ha5⟩=>?_) fun v H5 ⟨n,e5,hv5⟩=>pan v H5 n hv5 (by rw[hx,e5];rfl)
     have hlt:=zfE.lt (by decide) _ _ _ e5
     have eD:Yj d t=.ok (⟨d.ops,d.frags++[f]⟩,t5):=by rw[hx,e5];rfl
     subst hv5
     have DX:=D4.call ha5
     obtain⟨pX,hpX,hrX⟩:=DX.rd
     have gX:=DX.box
     simp(disch:=first|omega|assumption) only[gX,zrx,zoV,zjV,go_sem]
     refine zx (by rw[hc2];exact DX.own2) (by simp only[hc2,Al2,Al3];omega) (by simp only[hc2,Al2,Al3,maxLen];omega) fun oY HY hsY=>?_
     have gY:=Ze DX.own2 gX hsY.kept
     simp(disch:=first|omega|assumption) only[gY,zrx,zoV,zjV,go_sem]
     refine hQ _ _ _ _ [] nofun rfl (Low.refl _) ⟨_,_,o1,oY,eD,rfl,DX.frag f (by simpa[hc2] using hsY) (by simp) (by rw[zsE];simp[cF,AV.strip1]),by simp only[Al5,List.length_singleton];omega,by omega⟩
    | false =>
     have hnf:¬ (isW [102,114,97,103,109,101,110,116] t=true):=by rw[hf];decide
     simp(disch:=first|omega|assumption) only[go_sem]
     exact zp (zd7 _ r 2) (fun _ _ h=>h.elim) fun v H5 h=>pan v H5 2 h (by unfold Yj;rw[if_neg hni,if_neg hnq,if_neg hnm,if_neg hnf])
def zlw (may:UInt8→Bool) (t:List UInt8):AV:=match YJ may t with
 | some (b,t')=>.tup [.str b,.int .i64 ((t.length+1-t'.length:Nat):Int)]
 | none=>.tup [.str [],.int .i64 0]
theorem zsM (f : FuncId) (hf : Program.callable Tryz.prog f = true) (may : UInt8 → Bool) (hmay : ∀ c : UInt8, zu Tryz.prog f [.int .u8 c.toNat] (.bool (may c))) (a : UInt8) (t : List UInt8) (hl : t.length + 1 ≤ zbH) :
    zu Tryz.prog 220 [.str (a :: t), .clo f [] []] (zlw may t) := by
  refine zu.go ir220 ck220 (Al4 _) fun KP Q hQ => ?_
  simp only [zbH] at hl
  simp (disch := first | omega | assumption) only [ir220, go_sem]
  refine zm fun q hq => ?_
  simp (disch := first | omega | assumption) only [go_sem]
  obtain ⟨R, hR⟩ : ∃ R, YZ may (t.length + 1) t ⟨[], [], true⟩ = R := ⟨_, rfl⟩
  have fail : R = none → zlw may t = .tup [.str [], .int .i64 0] := fun e => by unfold zlw YJ; rw [hR, e]
  refine yK (fun s : List UInt8 × Sd × Own × Own => [(7, .int .i64 ((t.length + 1 - s.1.length : Nat) : Int))])
    (fun s H => s.1 <:+ t ∧ (∃ n, s.1.length < n ∧ YZ may n s.1 s.2.1 = R) ∧ s.2.1.w + s.1.length ≤ t.length ∧ SaidAt H q s.2.1 s.2.2.1 s.2.2.2) (fun s => s.1.length) (t, ⟨[], [], true⟩, .nil, .nil)
    (by have : (t.length + 1 - t.length : Nat) = 1 := by omega
        simp (disch := first | omega | assumption) only [this, go_sem]) ⟨List.suffix_refl _, ⟨t.length + 1, by simp, hR⟩, by simp [Sd.w], upd_same .., rfl, rfl, nofun⟩ ?_
  rintro ⟨rest, x, o, o2⟩ H J ⟨hsuf, ⟨n, hn, hg⟩, hw, hs⟩ hJ
  simp only at hsuf hn hg hw hs
  have hrl := hsuf.length_le
  obtain ⟨n, rfl⟩ : ∃ k, n = k + 1 := ⟨n - 1, by omega⟩
  cases rest with
  | nil =>
    have e0 : R = none := by rw [← hg]; rfl
    have h0 : t.length + 1 - 0 = t.length + 1 := rfl
    have h1 : (((t.length + 1 : Nat) : Int) ≤ ((t.length + 1 : Nat) : Int)) = True := eq_true (Int.le_refl _)
    simp (disch := first | omega | assumption) only [h0, h1, go_sem]
    exact hQ _ _ _ _ nofun rfl (by simp [zc, zf, AV.strip, AV.strip1, fail e0])
  | cons c r =>
    obtain ⟨p, hp⟩ := hsuf
    have hpl : t.length = p.length + (r.length + 1) := by rw [← hp]; simp
    have h0 : t.length + 1 - (r.length + 1) = p.length + 1 := by omega
    have h1 : ¬ (((t.length + 1 : Nat) : Int) ≤ ((p.length + 1 : Nat) : Int)) := by omega
    have h2 : (((p.length + 1 : Nat) : Int) < ((t.length + 1 : Nat) : Int)) = True := eq_true (by omega)
    have hi : (a :: t).getD (p.length + 1) 0 = c := by rw [← hp]; simp
    have hi1 : (((p.length + 1 : Nat) : Int) + 1) = ((p.length + 1 + 1 : Nat) : Int) := by omega
    have hsr : r <:+ t := ⟨p ++ [c], by rw [← hp]; simp⟩
    simp only [YZ] at hg
    simp only [Al2] at hw hn
    have hx : x.w ≤ zbH := by simp only [zbH]; omega
    by_cases c1 : c = 34
    · subst c1
      simp only [if_true] at hg
      have hc : (((34 : UInt8).toNat : Int) = 34) = True := eq_true rfl
      simp (disch := first | omega | assumption) only [h0, h1, h2, hi, hc, go_sem]
      refine zK (znP hs hx) fun v H1 ⟨hv, o', hs1⟩ => ?_
      subst hv
      have hq := hs1.hq
      cases hok : (yN x).ok
      · rw [hok] at hq
        have e0 : YJ may t = none := by unfold YJ; rw [hR, ← hg]; simp [hok]
        simp (disch := first | omega | assumption) only [hq, go_sem]
        exact hQ _ _ _ _ nofun rfl (by simp [zc, zf, AV.strip, AV.strip1, zlw, e0])
      · rw [hok] at hq
        have e0 : YJ may t = some ((yN x).b, r) := by unfold YJ; rw [hR, ← hg]; simp [hok]
        simp (disch := first | omega | assumption) only [hq, zg3, wrap64, go_sem]
        have e1 : (p.length : Int) + 1 + 1 = ((t.length + 1 - r.length : Nat) : Int) := by omega
        exact hQ _ _ _ _ nofun rfl (by simp [zc, zf, AV.strip, AV.strip1, zlw, e0, e1])
    have c1' : ¬ ((c.toNat : Int) = 34) := fun e => c1 (by apply UInt8.toNat_inj.1; show c.toNat = 34; omega)
    rw [if_neg c1] at hg
    by_cases c2 : c = 92
    · subst c2
      simp only [if_true] at hg
      have hc : ¬ (((92 : UInt8).toNat : Int) = 34) := by decide
      have hc2 : (((92 : UInt8).toNat : Int) = 92) = True := eq_true rfl
      have h3 : (((p.length + 1 : Nat) : Int) + 1 ≤ ((t.length + 1 : Nat) : Int)) = True := eq_true (by omega)
      have h4 : (((p.length + 1 : Nat) : Int) + 1).toNat = p.length + 2 := by omega
      have hdr : (a :: t).drop (p.length + 2) = r := by rw [← hp]; simp
      simp (disch := first | omega | assumption) only [h0, h1, h2, hi, hc, hc2, wrap64, h3, h4, hdr, go_sem]
      refine zK (zw0 hs hx r (by simp only [Lim]; omega)) fun v H1 he => ?_
      unfold znJ at he
      cases hm : Ys x r with
      | none =>
        rw [hm] at he hg
        subst he
        simp (disch := first | omega | assumption) only [go_sem]
        exact hQ _ _ _ _ nofun rfl (by simp [zc, zf, AV.strip, AV.strip1, fail hg.symm])
      | some y =>
        obtain ⟨x', t'⟩ := y
        rw [hm] at he hg
        obtain ⟨hv, o3, o4, hs3⟩ := he
        subst hv
        have h5 := zfd hm
        have h6 := zra hm
        have h7 : ¬ (((r.length - t'.length : Nat) : Int) = 0) := by omega
        have h8 : ((p.length + 1 : Nat) : Int) + (1 + ((r.length - t'.length : Nat) : Int)) = ((t.length + 1 - t'.length : Nat) : Int) := by omega
        simp (disch := first | omega | assumption) only [h7, wrap64, h8, go_sem]
        exact goJ (hJ (t', x', o3, o4) _ (by simp; omega) ⟨h5.1.trans hsr, ⟨n, by show t'.length < n; omega, hg⟩, by show x'.w + t'.length ≤ t.length; omega, hs3⟩) (by simp (disch := first | omega | assumption) only [go_sem])
    have c2' : ¬ ((c.toNat : Int) = 92) := fun e => c2 (by apply UInt8.toNat_inj.1; show c.toNat = 92; omega)
    rw [if_neg c2] at hg
    simp (disch := first | omega | assumption) only [h0, h1, h2, hi, c1', c2', hf, go_sem]
    refine zb (hmay c) ?_
    cases hm : may c
    · rw [hm] at hg
      simp (disch := first | omega | assumption) only [go_sem]
      exact hQ _ _ _ _ nofun rfl (by simp [zc, zf, AV.strip, AV.strip1, fail hg.symm])
    · rw [hm] at hg
      simp only [if_true] at hg
      simp (disch := first | omega | assumption) only [go_sem]
      refine zK (znP hs hx) fun v H1 ⟨hv, o', hs1⟩ => ?_
      subst hv
      obtain ⟨hq1, ho1, _, _⟩ := hs1
      have hfw := zeV x
      have hpw := zsk x c
      have hbl := yd (yN x).b
      simp (disch := first | omega | assumption) only [hq1, h2, hi, go_sem]
      refine zx (by rw [hbl]; exact ho1) (by simp [hbl]; omega) (by simp [maxLen, hbl]; omega) fun o3 H2 hs3 => ?_
      have hq2 := Ze ho1 hq1 hs3.kept
      simp (disch := first | omega | assumption) only [hq2, wrap64, go_sem]
      have h8 : ((p.length + 1 : Nat) : Int) + 1 = ((t.length + 1 - r.length : Nat) : Int) := by omega
      refine goJ (hJ (r, x.put c, o3, .nil) _ (by simp) ⟨hsr, ⟨n, by show r.length < n; omega, hg⟩, by show (x.put c).w + r.length ≤ t.length; omega, ?_, ?_, rfl, nofun⟩) (by simp (disch := first | omega | assumption) only [h8, go_sem])
      · simp only [upd_same, Sd.put]
        rw [← y1]; rfl
      · simp only [Sd.put, Al5, Al2, Al3]
        exact Zw (by simpa [hbl] using hs3.own) hq2
open Go.Lib
theorem zrg (c:UInt8):hexD c≠none→c.toNat<128:=zeH (P:=fun c=>hexD c≠none→c.toNat<128) (by decide +kernel) c
theorem zs3 (c:UInt8):¬ Lib.indexByte zeo c<0→c.toNat<128∧(zrB.getD (Lib.indexByte zeo c).toNat 0).toNat<128 :=
 zeH (P:=fun c=>¬ Lib.indexByte zeo c<0→c.toNat<128∧(zrB.getD (Lib.indexByte zeo c).toNat 0).toNat<128) (by decide +kernel) c
theorem zjr:∀(n:Nat) (t:List UInt8) (u v:Nat),YL n t u=some v→∀ b∈t.take n,b.toNat<128
 | 0,_,_,_,_,b,hb=>by simp at hb
 | n+1,[],_,_,h,_,_=>by cases h
 | n+1,c::t,u,v,h,b,hb=>by
  simp only[YL] at h
  split at h
  ·cases h
  ·rename_i k hk
   rw[zbV] at hb
   rcases List.mem_cons.1 hb with e|e
   ·rw[e];exact zrg c (by rw[hk];simp)
   ·exact zjr n t _ v h b e
structure SInv' (q:Sd) (t:List UInt8):Prop where
 none:q.u=[]→validD (q.b++t)=true
 some:q.u≠[]→validD q.b=true∧validD t=true
theorem zkN {q:Sd} (h:validD q.b=true):validD (yN q).b=true:=by
 unfold yN
 cases hj:z1 q.u with
 | none=>simpa using h
 | some s=>exact zbp h (zeG _ _ hj)
theorem zpG {q:Sd} (h:q.u=[]):(yN q).b=q.b:=by unfold yN;rw[h];simp[z1]
theorem SInv'.low {q:Sd} {c:UInt8} {t:List UInt8} (h:SInv' q (c::t)) (hc:c.toNat<128):validD q.b=true∧validD t=true:=by
 by_cases hu:q.u=[]
 ·exact zda hc (h.none hu)
 ·obtain⟨h1,h2⟩:=h.some hu
  rw[validD_cons c t hc] at h2
  exact⟨h1,h2⟩
theorem SInv'.put {q:Sd} {c:UInt8} {t:List UInt8} (h:SInv' q (c::t)):SInv' (q.put c) t:=by
 refine⟨fun _=>?_,fun e=>absurd rfl e⟩
 show validD (((yN q).b++[c])++t)=true
 rw[ZJ]
 by_cases hu:q.u=[]
 ·rw[zpG hu];exact h.none hu
 ·obtain⟨h1,h2⟩:=h.some hu
  exact zbp (zkN h1) h2
theorem zpQ {q q':Sd} {t t':List UInt8} (h:Ys q t=some (q',t')) (hb:validD q.b=true) (ht:validD t=true):SInv' q' t':=by
 cases t with
 | nil=>cases h
 | cons c t =>
  simp only[Ys] at h
  split at h
  ·rename_i hc
   cases hu:Y2 t with
   | none=>simp[hu] at h
   | some u =>
    simp only[hu,yU,Al1,Al8] at h
    obtain⟨rfl,rfl⟩:=h
    rw[validD_cons c t (by rw[hc];decide)] at ht
    have:=validD_ascii 4 t (zjr 4 t 0 u hu)
    exact⟨fun e=>by simp at e,fun _=>⟨hb,by rw[← this];exact ht⟩⟩
  ·split at h
   ·cases h
   ·rename_i hk
    simp only[Al1,Al8] at h
    obtain⟨rfl,rfl⟩:=h
    have h1:=zs3 c hk
    rw[validD_cons c t h1.1] at ht
    refine⟨fun _=>?_,fun e=>absurd rfl e⟩
    show validD (((yN q).b++[_])++t)=true
    rw[ZJ]
    refine zbp (zkN hb) ?_
    rw[List.singleton_append,validD_cons _ _ h1.2];exact ht
theorem zer {may:UInt8→Bool}:∀(n:Nat) (t:List UInt8) (q q':Sd) (t':List UInt8),YZ may n t q=some (q',t')→SInv' q t→validD q'.b=true∧validD t'=true
 | 0,_,_,_,_,h,_=>by cases h
 | _+1,[],_,_,_,h,_=>by cases h
 | n+1,c::t,q,q',t',h,hi=>by
  simp only[YZ] at h
  split at h
  ·rename_i hc
   simp only[Al1,Al8] at h
   obtain⟨rfl,rfl⟩:=h
   obtain⟨h1,h2⟩:=hi.low (by rw[hc];decide)
   exact⟨zkN h1,h2⟩
  ·split at h
   ·rename_i hc
    cases he:Ys q t with
    | none=>simp[he] at h
    | some x =>
     obtain⟨q1,t1⟩:=x
     simp only[he] at h
     obtain⟨h1,h2⟩:=hi.low (by rw[hc];decide)
     exact zer n t1 q1 q' t' h (zpQ he h1 h2)
   ·split at h
    ·exact zer n t _ q' t' h hi.put
    ·cases h
theorem zmZ {may:UInt8→Bool} {t t' b:List UInt8} (h:YJ may t=some (b,t')) (hv:validD t=true):validD b=true∧validD t'=true:=by
 unfold YJ at h
 split at h
 ·rename_i q t1 hq
  split at h
  ·cases h;exact zer _ _ _ _ _ hq ⟨fun _=>hv,fun e=>absurd rfl e⟩
  ·cases h
 ·cases h
def LR (n:Int) (l:List Val):Prop:=∀ v∈l,za6 v=true∧zN v≤n
theorem LR.all {n:Int}:∀ {l:List Val},LR n l→Y1 validD l=true∧zeg l=true
 | [],_=>⟨rfl,rfl⟩
 | v::l,h=>by
  have h1:=LR.all (l:=l) fun x hx=>h x (.tail _ hx)
  have h2:=(h v (.head _)).1
  simp only[za6,zlA,Al0] at h2
  simp[Y1,zeg,h1.1,h1.2,h2.1,h2.2]
end Go.Proofs.YticbbfbpeimkbaaGreatDoor
namespace Go.Proofs.YticbbfbpeimkbaaGreatDoor
open Go.Ab
def zJ (l:List UInt8):Nat×Nat:=if l=[] then (0,0) else if Lib.decodeL l=(65533,1) then (0,0) else Lib.decodeL l
def cv (v0:Nat) (b:Nat→Nat):Nat→Nat
 | 0=>v0
 | j+1=>cv v0 b j*64+b (j+1) % 64
theorem zhe {l:List UInt8} (hne:l≠[]) (h:(zJ l).2≠0):Lib.validD l=Lib.validD (l.drop (zJ l).2)∧(zJ l).2≤l.length:=by
 unfold zJ at h ⊢
 rw[if_neg hne] at h ⊢
 split at h
 ·simp at h
 ·rename_i e
  rw[if_neg e]
  refine⟨?_,Lib.decodeL_le l hne⟩
  rw[Lib.validD_step l hne,if_neg]
  rintro⟨a,b⟩
  exact e (Prod.ext a b)
open Go.Lib
end Go.Proofs.YticbbfbpeimkbaaGreatDoor
namespace Go.Proofs.YticbbfbpeimkbaaGreatDoor
open Go.Ab
open Go.Lib
structure DecOk (l:List UInt8) (c k:Nat):Prop where
 enc:ZF c=l.take k
 le:c≤1114111
 pos:1≤k
 len:k≤l.length
 one:k=1→c=(l.getD 0 0).toNat∧(l.getD 0 0).toNat<128
 high:k≠1→∀ x∈l.take k,128≤x.toNat
theorem zbB {n:Nat} {b:UInt8} (h:n=b.toNat):UInt8.ofNat n=b:=UInt8.toNat_inj.1 (by rw[UInt8.toNat_ofNat',h];have:=b.toNat_lt;omega)
theorem zsN {b0 b1:UInt8} {t:List UInt8} (h0:b0.toNat / 32=6) (h1:b1.toNat / 64=2) (hc:128≤b0.toNat % 32*64+b1.toNat % 64):DecOk (b0::b1::t) (b0.toNat % 32*64+b1.toNat % 64) 2:=by
 refine⟨?_,by omega,by omega,by simp,fun h=>by omega,fun _ x hx=>?_⟩
 ·unfold ZF
  rw[if_neg (by omega),if_pos (by omega)]
  simp only[zbV,List.take_zero,List.cons.injEq,and_true]
  exact⟨zbB (by omega),zbB (by omega)⟩
 ·simp only[zbV,List.take_zero,List.mem_cons,List.not_mem_nil,or_false] at hx
  rcases hx with rfl|rfl<;>omega
theorem zqa {b0 b1 b2:UInt8} {t:List UInt8} (h0:b0.toNat / 16=14) (h1:b1.toNat / 64=2) (h2:b2.toNat / 64=2) (hc:2048≤b0.toNat % 16*4096+b1.toNat % 64*64+b2.toNat % 64) :
  DecOk (b0::b1::b2::t) (b0.toNat % 16*4096+b1.toNat % 64*64+b2.toNat % 64) 3:=by
 refine⟨?_,by omega,by omega,by simp,fun h=>by omega,fun _ x hx=>?_⟩
 ·unfold ZF
  rw[if_neg (by omega),if_neg (by omega),if_pos (by omega)]
  simp only[zbV,List.take_zero,List.cons.injEq,and_true]
  exact⟨zbB (by omega),zbB (by omega),zbB (by omega)⟩
 ·simp only[zbV,List.take_zero,List.mem_cons,List.not_mem_nil,or_false] at hx
  rcases hx with rfl|rfl|rfl<;>omega
theorem zqE {b0 b1 b2 b3:UInt8} {t:List UInt8} (h0:b0.toNat / 8=30) (h1:b1.toNat / 64=2) (h2:b2.toNat / 64=2) (h3:b3.toNat / 64=2)
  (hc:65536≤b0.toNat % 8*262144+b1.toNat % 64*4096+b2.toNat % 64*64+b3.toNat % 64) (hd:b0.toNat % 8*262144+b1.toNat % 64*4096+b2.toNat % 64*64+b3.toNat % 64≤1114111) :
  DecOk (b0::b1::b2::b3::t) (b0.toNat % 8*262144+b1.toNat % 64*4096+b2.toNat % 64*64+b3.toNat % 64) 4:=by
 refine⟨?_,by omega,by omega,by simp,fun h=>by omega,fun _ x hx=>?_⟩
 ·unfold ZF
  rw[if_neg (by omega),if_neg (by omega),if_neg (by omega)]
  simp only[zbV,List.take_zero,List.cons.injEq,and_true]
  exact⟨zbB (by omega),zbB (by omega),zbB (by omega),zbB (by omega)⟩
 ·simp only[zbV,List.take_zero,List.mem_cons,List.not_mem_nil,or_false] at hx
  rcases hx with rfl|rfl|rfl|rfl<;>omega
theorem znH {l:List UInt8} (hne:l≠[]) (h:decodeL l≠(65533,1)):DecOk l (decodeL l).1 (decodeL l).2:=by
 rw[decodeL_N] at h ⊢
 obtain⟨b0,t,rfl⟩:∃ b0 t,l=b0::t:=by cases l with|nil=>exact absurd rfl hne|cons a b=>exact⟨a,b,rfl⟩
 simp only[List.getD_cons_zero,List.getD_cons_succ] at h ⊢
 unfold decodeN at h ⊢
 split at h
 ·rename_i h0
  rw[if_pos h0]
  refine⟨?_,by simp only;omega,by simp,by simp,fun _=>⟨by simp,by simpa using h0⟩,fun h=>absurd rfl h⟩
  simp only
  unfold ZF
  rw[if_pos (by omega)]
  simp only[zbV,List.take_zero,List.cons.injEq,and_true]
  exact zbB rfl
 ·rename_i h0
  rw[if_neg h0]
  split at h
  ·rename_i h1
   rw[if_pos h1]
   split at h
   ·rename_i h2
    rw[if_pos h2]
    obtain⟨b1,t,rfl⟩:∃ b1 r,t=b1::r:=by cases t with|nil=>simp at h1|cons a b=>exact⟨a,b,rfl⟩
    exact zsN h1.1 (by simpa using h1.2.2) (by simpa using h2)
   ·exact absurd rfl h
  ·rename_i h1
   rw[if_neg h1]
   split at h
   ·rename_i h2
    rw[if_pos h2]
    split at h
    ·rename_i h3
     rw[if_pos h3]
     obtain⟨b1,t,rfl⟩:∃ b1 r,t=b1::r:=by cases t with|nil=>simp at h2|cons a b=>exact⟨a,b,rfl⟩
     obtain⟨b2,t,rfl⟩:∃ b2 r,t=b2::r:=by cases t with|nil=>simp at h2|cons a b=>exact⟨a,b,rfl⟩
     exact zqa h2.1 (by simpa using h2.2.1.2) (by simpa using h2.2.2.2) (by simpa using h3.1)
    ·exact absurd rfl h
   ·rename_i h2
    rw[if_neg h2]
    split at h
    ·rename_i h3
     rw[if_pos h3]
     split at h
     ·rename_i h4
      rw[if_pos h4]
      obtain⟨b1,t,rfl⟩:∃ b1 r,t=b1::r:=by cases t with|nil=>simp at h3|cons a b=>exact⟨a,b,rfl⟩
      obtain⟨b2,t,rfl⟩:∃ b2 r,t=b2::r:=by cases t with|nil=>simp at h3|cons a b=>exact⟨a,b,rfl⟩
      obtain⟨b3,t,rfl⟩:∃ b3 r,t=b3::r:=by cases t with|nil=>simp at h3|cons a b=>exact⟨a,b,rfl⟩
      exact zqE h3.1 (by simpa using h3.2.1.2) (by simpa using h3.2.2.1.2) (by simpa using h3.2.2.2.2) (by simpa using h4.1) (by have:=h4.2;simp at this ⊢;omega)
     ·exact absurd rfl h
    ·exact absurd rfl h
theorem zaj {l:List UInt8} (hne:l≠[]) (hv:validD l=true):DecOk l (zJ l).1 (zJ l).2∧validD (l.drop (zJ l).2)=true:=by
 rw[validD_step l hne] at hv
 split at hv
 ·cases hv
 ·rename_i h
  have h':decodeL l≠(65533,1):=fun e=>h ⟨by rw[e],by rw[e]⟩
  have e:zJ l=decodeL l:=by unfold zJ;rw[if_neg hne,if_neg h']
  rw[e]
  exact⟨znH hne h',hv⟩
theorem zf6 {may:UInt8→Bool}:∀(n m:Nat) (t:List UInt8) (q:Sd),t.length<n→t.length<m→YZ may n t q=YZ may m t q
 | 0,_,_,_,h,_=>by omega
 | _,0,_,_,_,h=>by omega
 | _+1,_+1,[],_,_,_=>rfl
 | n+1,m+1,c::t,q,h1,h2=>by
  simp only[Al2] at h1 h2
  simp only[YZ]
  split
  ·rfl
  ·split
   ·cases he:Ys q t with
    | none=>rfl
    | some x =>
     have:=(zfd (q':=x.1) (t':=x.2) he).2
     exact zf6 n m x.2 x.1 (by omega) (by omega)
   ·split
    ·exact zf6 n m t _ (by omega) (by omega)
    ·rfl
def zcq (may:UInt8→Bool) (t:List UInt8) (q:Sd):Option (Sd×List UInt8):=YZ may (t.length+1) t q
theorem zoY (may:UInt8→Bool) (t:List UInt8) (q:Sd):zcq may (34::t) q=some (yN q,t):=by simp[zcq,YZ]
theorem zo0 (may:UInt8→Bool) (t:List UInt8) (q:Sd):zcq may (92::t) q=match Ys q t with|none=>none|some (q',t')=>zcq may t' q':=by
 unfold zcq
 simp only[Al2,YZ]
 rw[if_neg (by decide),if_pos trivial]
 cases he:Ys q t with
 | none=>rfl
 | some x =>
  have:=(zfd (q':=x.1) (t':=x.2) he).2
  exact zf6 _ _ x.2 x.1 (by omega) (by omega)
theorem zrC (may:UInt8→Bool) {c:UInt8} (t:List UInt8) (q:Sd) (h1:c≠34) (h2:c≠92):zcq may (c::t) q=if may c then zcq may t (q.put c) else none:=by
 unfold zcq
 simp only[Al2,YZ]
 rw[if_neg h1,if_neg h2]
def zwn (x:Option (Sd×List UInt8)):Option (List UInt8×List UInt8):=match x with
 | some (q,t')=>if q.ok then some (q.b,t') else none
 | none=>none
theorem zvw (may:UInt8→Bool) (t:List UInt8):YJ may t=zwn (zcq may t ⟨[],[],true⟩):=rfl
def Zd (c:UInt8):Bool:=decide (c≠10)&&decide (c≠13)
theorem ziZ:∀(bs t out:List UInt8),(∀ x∈bs,128≤x.toNat)→zcq Zd (bs++t) ⟨out,[],true⟩=zcq Zd t ⟨out++bs,[],true⟩
 | [],t,out,_=>by simp
 | b::bs,t,out,h=>by
  have hb:=h b (.head _)
  have h0:∀ n:UInt8,n.toNat<128→b≠n:=fun n hn e=>by subst e;omega
  rw[Al6,zrC Zd _ _ (h0 34 (by decide)) (h0 92 (by decide)),if_pos (by simp[Zd,h0 10 (by decide),h0 13 (by decide)])]
  have e:Sd.put ⟨out,[],true⟩ b=⟨out++[b],[],true⟩:=by simp[Sd.put,yN,z1]
  rw[e,ziZ bs t (out++[b]) fun x hx=>h x (.tail _ hx)]
  simp
theorem zpt {l out:List UInt8} {us:List Nat} {tt:List UInt8} (hj:z1 us=some tt) {c k:Nat} (h:DecOk l c k) (hne:l≠[]) (h1:l.getD 0 0≠34) (h2:l.getD 0 0≠92) (h3:Zd (l.getD 0 0)=true) :
  zcq Zd l ⟨out,us,true⟩=zcq Zd (l.drop k) ⟨out++tt++l.take k,[],true⟩:=by
 obtain⟨b,t,rfl⟩:∃ b t,l=b::t:=by cases l with|nil=>exact absurd rfl hne|cons a b=>exact⟨a,b,rfl⟩
 simp only[List.getD_cons_zero] at h1 h2 h3
 obtain⟨m,rfl⟩:∃ m,k=m+1:=⟨k-1,by have:=h.pos;omega⟩
 rw[zrC Zd t _ h1 h2,if_pos h3]
 have e:Sd.put ⟨out,us,true⟩ b=⟨out++tt++[b],[],true⟩:=by simp[Sd.put,yN,hj]
 rw[e,List.drop_succ_cons,zbV]
 by_cases hm:m=0
 ·subst hm;simp
 ·have hh:=h.high (by omega)
  rw[zbV] at hh
  have:=ziZ (t.take m) (t.drop m) (out++tt++[b]) fun x hx=>hh x (.tail _ hx)
  rw[List.take_append_drop] at this
  rw[this];simp
def Z4:List UInt8:=[46,46,46]
def zci:List UInt8:=[33,36,38,40,41,58,61,64,91,93,123,124,125]
def zfT:List UInt8→Bool
 | [c]=>decide (0≤Lib.indexByte zci c)
 | _=>false
def zv (t:Tok):Bool:=if t.k=1 then decide (t.s=Z4)||zfT t.s else if t.k=2 then zZ t.s else if t.k=3∨t.k=4 then decide (Z1 t.s=t.k) else if t.k=5 then validD t.s else false
def Zr (u:Nat):List UInt8:=[92,117,hexL.getD (u / 4096 % 16) 0,hexL.getD (u / 256 % 16) 0,hexL.getD (u / 16 % 16) 0,hexL.getD (u % 16) 0]
def ZD (c:Nat) (bs:List UInt8):List UInt8 :=
 if c=34∨c=92 then [92,UInt8.ofNat c] else if c=10 then [92,110] else if c<32 then Zr c
 else if 65536≤c then Zr (55296+(c-65536) / 1024)++Zr (56320+(c-65536) % 1024) else bs
def Zt:Nat→List UInt8→List UInt8
 | 0,_=>[]
 | n+1,l=>if l=[] then [] else ZD (zJ l).1 (l.take (zJ l).2)++Zt n (l.drop (zJ l).2)
def zkb (s:List UInt8):List UInt8:=34::(Zt s.length s++[34])
def zas (t:Tok):List UInt8:=if t.k=5 then zkb t.s else t.s
def ZT (l:List Tok):List UInt8:=Lib.join (l.map zas) [32]
def YG (l:List Tok):List UInt8×Bool:=if l.all zv then (ZT l,true) else ([],false)
def yJ:List UInt8→List UInt8→List (List UInt8)
 | cur,[]=>[cur]
 | cur,[c]=>if c=10∨c=13 then [cur,[]] else [cur++[c]]
 | cur,c::d::r=>if c=10 then cur::yJ [] (d::r) else if c=13 then (if d=10 then cur::yJ [] r else cur::yJ [] (d::r)) else yJ (cur++[c]) (d::r)
def yp (s:List UInt8):List (List UInt8):=yJ [] s
def zgG (c:UInt8):Bool:=decide (c=9)||decide (c=32)
def YU (s:List UInt8):Nat:=(s.takeWhile zgG).length
def yY (s:List UInt8):Bool:=s.all zgG
def zd0:List (List UInt8)→Int→Int
 | [],a=>a
 | s::r,a=>zd0 r (if yY s then a else if a<0∨(YU s:Int)<a then YU s else a)
def indM (l:List (List UInt8)):Int:=zd0 l.tail (-1)
def zcJ (l:List (List UInt8)):List (List UInt8):=match l with
 | []=>[]
 | x::r=>x::r.map fun s=>s.drop (indM l).toNat
def zcO (l:List (List UInt8)):List (List UInt8):=(l.reverse.dropWhile yY).reverse
def Zm (raw:List UInt8):List UInt8:=Lib.join (zcO ((zcJ (yp raw)).dropWhile yY)) [10]
def yx:List UInt8:=[34,34,34]
def zkc:List UInt8:=[92,34,34,34]
def ziy:List UInt8:=[239,187,191]
def Z6:Nat→List UInt8→List UInt8→Option (List UInt8×List UInt8)
 | 0,_,_=>none
 | n+1,raw,t=>match t with
  | []=>none
  | c::r=>if yx.isPrefixOf (c::r) then some (raw,r.drop 2) else if zkc.isPrefixOf (c::r) then Z6 n (raw++yx) (r.drop 3) else Z6 n (raw++[c]) r
def y5 (c:UInt8):Bool:=!(decide (c=10)||decide (c=13))
def Yl:List UInt8→Nat
 | []=>0
 | c::r=>if c=9∨c=10∨c=13∨c=32∨c=44 then 1 else if ziy.isPrefixOf (c::r) then 3 else if c=35 then 1+(r.takeWhile y5).length else 0
def y7 (s:List UInt8):Nat:=(s.takeWhile fun c=>isL c||isD c).length
def Zv:List UInt8→Option (Tok×List UInt8)
 | []=>none
 | c::r=>if yx.isPrefixOf (c::r) then (Z6 (r.length+1) [] (r.drop 2)).map fun x=>(⟨5,Zm x.1⟩,x.2)
  else if c=34 then (YJ Zd r).map fun x=>(⟨5,x.1⟩,x.2)
  else if Z4.isPrefixOf (c::r) then some (⟨1,Z4⟩,r.drop 2)
  else if 0≤Lib.indexByte zci c then some (⟨1,[c]⟩,r)
  else if isL c then some (⟨2,(c::r).take (y7 (c::r))⟩,(c::r).drop (y7 (c::r)))
  else if (yB (c::r)).1=0 then none
  else if ((c::r).drop (yB (c::r)).1).head?.any fun d=>isL d||isD d||decide (d=46) then none
  else some (⟨(yB (c::r)).2,(c::r).take (yB (c::r)).1⟩,(c::r).drop (yB (c::r)).1)
def Z5:Nat→List Tok→List UInt8→Except Int (List Tok)
 | 0,_,_=>.error 0
 | n+1,l,t=>if t=[] then .ok l else if Yl t≠0 then Z5 n l (t.drop (Yl t)) else match Zv t with
  | none=>.error 2
  | some (x,t')=>Z5 n (l++[x]) t'
def zbt (c:Nat):Bool:=decide (c=9)||(decide (c=10)||(decide (c=13)||(decide (32≤c)&&decide (c≤65535))))
def zlO:Nat→List UInt8→Bool
 | 0,_=>true
 | n+1,l=>if l=[] then true else decide (0<(zJ l).2)&&(zbt (zJ l).1&&zlO n (l.drop (zJ l).2))
def zeR (s:List UInt8):Bool:=zlO s.length s
def Ye (s:List UInt8):Except Int (List Tok):=if 8192<s.length then .error 3 else if zeR s then Z5 (s.length+1) [] s else .error 2
theorem zwy (s:List UInt8):decodeGo ⟨s.toArray⟩=if s=[] then (65533,0) else decodeL s:=by
 unfold decodeGo
 cases s with
 | nil=>rfl
 | cons c r=>rw[if_neg (by simp[ByteArray.size]),if_neg (by simp)];rfl
theorem zs5 (s:List UInt8):zu Tryz.prog 272 [.str s] (.tup [.int .i32 ((if s=[] then (65533,0) else decodeL s:Nat×Nat).1),.int .i64 ((if s=[] then (65533,0) else decodeL s:Nat×Nat).2)]):=by
 refine zu.of_below fun γ w vs ht hv=>?_
 rw[znV hv]
 have h:=Tryz.utf8_DecodeRuneInString ⟨s.toArray⟩ w (zlp ht)
 rw[zwy] at h
 exact Calls.mono h fun e w' ⟨he,hb⟩=>⟨hb,_,he,zgW (.int _ _) (.int _ _)⟩
theorem znY:Go.Proofs.Builder.Extra Tryz.prog Tryz.lays156_ren where
 sizeBuilder:=by kernel_rfl
 liesBuilder:=by kernel_rfl
 t5:=Tryz.underlying5
 a5:=Tryz.isAgg5
 z5:=Tryz.sizeOf5
 v5:=Tryz.zeroValue5
 infoByte:=by kernel_rfl
 cellsByte:=by kernel_rfl
 sizeByte:=by kernel_rfl
 neB5:=by decide
theorem za8 (l:List (List UInt8)) (sep:List UInt8) (hl:(Lib.join l sep).length≤140737488355328) (hn:l.length≤140737488355328):zu Tryz.prog 121 [.sl .no 1 (cT l),.str sep] (.str (Lib.join l sep)):=by
 refine zu.of_below fun γ w vs ht hv=>?_
 obtain⟨hlv,hr⟩:=hv
 match vs,hlv with
 | [v,u],_ =>
  have h0:=hr 0 _ _ rfl rfl
  cases hr 1 _ _ rfl rfl
  generalize hx:cT l=xs at h0
  cases h0 with
  | slnil _ _ ho =>
   have:l=[]:=by cases l with|nil=>rfl|cons a b=>simp[cT] at hx
   subst this
   exact(Any.strings_Join_none Tryz.lays156 znY none 0 ⟨sep.toArray⟩ w).mono fun e w' ⟨he,hw⟩=>⟨by rw[hw];exact RowKit.Below.refl _ _,_,he,.str _⟩
  | sl0 _ _ a ho =>
   have:l=[]:=by cases l with|nil=>rfl|cons a b=>simp[cT] at hx
   subst this
   exact(Any.strings_Join_none Tryz.lays156 znY (some a) 0 ⟨sep.toArray⟩ w).mono fun e w' ⟨he,hw⟩=>⟨by rw[hw];exact RowKit.Below.refl _ _,_,he,.str _⟩
  | sl _ _ _ b off cap cv hc hm hu hcell hrr ho =>
   subst hx
   have hcl:=zax l
   cases hl0:l with
   | nil =>
    subst hl0
    exact(Any.strings_Join_none Tryz.lays156 znY (some ⟨b,off,none⟩) cap ⟨sep.toArray⟩ w).mono fun e w' ⟨he,hw⟩=>⟨by rw[hw];exact RowKit.Below.refl _ _,_,he,.str _⟩
   | cons x0 r0 =>
    have hcells:∀(j:Nat) x,(l.map fun s=>(⟨s.toArray⟩:ByteArray))[j]?=some x→w.cell? ⟨b,off+j,none⟩=some (.string x):=fun j x hj=>by
     rw[ZN,zaI] at hj
     obtain⟨s,h1,rfl⟩:=hj
     have g1:(cT l)[j]?=some [.str s]:=by simp[cT,h1]
     have h2:=hcell j _ g1 0 (by decide)
     have h3:=hrr j _ g1 0 (.str s) rfl
     have e:off+(j*1+0)=off+j:=by omega
     rw[e] at h2
     generalize cv j 0=y at h2 h3
     cases h3
     exact h2.1
    have hbk:b<w.heap.size:=by
     have:=hcells 0 ⟨x0.toArray⟩ (by rw[hl0];rfl)
     exact World.block_lt_of_cell? w _ this
    have hmap:(l.map fun s=>(⟨s.toArray⟩:ByteArray)).map (·.data.toList)=l:=by
     rw[List.map_map];exact(List.map_congr_left (g:=id) fun s _=>by simp).trans (List.map_id l)
    have h:=Any.strings_Join Tryz.lays156 znY b off cap (l.map fun s=>(⟨s.toArray⟩:ByteArray)) ⟨sep.toArray⟩ w hcells hbk (by simpa using hn) (by rw[List.length_map];omega) (by rw[hmap];exact hl)
    rw[List.length_map,hmap] at h
    rw[← hl0,hcl]
    exact h.mono fun e w' ⟨he,hb⟩=>⟨hb,_,he,.str _⟩
theorem zr1 (s:List UInt8) (i:Nat) (hi:i<s.length) (hs:s.length≤Lim):zu Tryz.prog 210 [.str s,.int .i64 i] (.tup [.int .i64 (zJ (s.drop i)).1,.int .i64 (zJ (s.drop i)).2]):=by
 refine zu.go ir210 ck210 (Al4 _) fun KP Q hQ=>?_
 simp only[Lim] at hs
 have hne:s.drop i≠[]:=fun e=>by have:=congrArg List.length e;simp at this;omega
 have h1:¬ ((i:Int)<0):=by omega
 have h2:¬ ((s.length:Int)≤i):=by omega
 have h3:((i:Int)≤s.length)=True:=eq_true (by omega)
 simp(disch:=first|omega|assumption) only[ir210,h1,h2,h3,go_sem]
 refine zb (zs5 (s.drop i)) ?_
 have hw:=decodeL_width (s.drop i)
 have hr:=decodeL_rune (s.drop i)
 unfold zJ at hQ
 simp only[hne,if_false] at hQ ⊢
 generalize decodeL (s.drop i)=x at *
 obtain⟨c,k⟩:=x
 simp only at hw hr hQ
 have e:IntKind.wrap .i64 (c:Int)=c:=wrap64 (by omega) (by omega)
 by_cases hc:c=65533
 ·have g1:((c:Int)=65533)=True:=eq_true (by omega)
  by_cases hk:k<2
  ·have g2:((k:Int)<2)=True:=eq_true (by omega)
   have e1:(c,k)=(65533,1):=by rw[hc];congr 1;omega
   rw[if_pos e1] at hQ
   simp(disch:=first|omega|assumption) only[g1,g2,go_sem]
   exact hQ _ _ _ _ nofun rfl (by simp[zc,zf,AV.strip,AV.strip1])
  ·have g2:¬ ((k:Int)<2):=by omega
   have e1:¬ ((c,k)=(65533,1)):=fun h=>by cases h;omega
   rw[if_neg e1] at hQ
   simp(disch:=first|omega|assumption) only[g1,g2,e,go_sem]
   exact hQ _ _ _ _ nofun rfl (by simp[zc,zf,AV.strip,AV.strip1])
 ·have g1:¬ ((c:Int)=65533):=by omega
  have e1:¬ ((c,k)=(65533,1)):=fun h=>by cases h;omega
  rw[if_neg e1] at hQ
  simp(disch:=first|omega|assumption) only[g1,e,go_sem]
  exact hQ _ _ _ _ nofun rfl (by simp[zc,zf,AV.strip,AV.strip1])
theorem zwa (c:Nat) (h:c≤1114111):zu Tryz.prog 216 [.int .i64 c] (.bool (zbt c)):=by
 refine zu.go ir216 ck216 (Al4 _) fun KP Q hQ=>?_
 by_cases h1:c=9
 ·have g:((c:Int)=9)=True:=eq_true (by omega)
  simp(disch:=first|omega|assumption) only[ir216,g,go_sem]
  exact hQ _ _ _ _ nofun rfl (by simp[zc,zf,AV.strip,AV.strip1,zbt,h1])
 have g1:¬ ((c:Int)=9):=by omega
 by_cases h2:c=10
 ·have g:((c:Int)=10)=True:=eq_true (by omega)
  simp(disch:=first|omega|assumption) only[ir216,g1,g,go_sem]
  exact hQ _ _ _ _ nofun rfl (by simp[zc,zf,AV.strip,AV.strip1,zbt,h2])
 have g2:¬ ((c:Int)=10):=by omega
 by_cases h3:c=13
 ·have g:((c:Int)=13)=True:=eq_true (by omega)
  simp(disch:=first|omega|assumption) only[ir216,g1,g2,g,go_sem]
  exact hQ _ _ _ _ nofun rfl (by simp[zc,zf,AV.strip,AV.strip1,zbt,h3])
 have g3:¬ ((c:Int)=13):=by omega
 by_cases h4:32≤c
 ·have g4:((32:Int)≤c)=True:=eq_true (by omega)
  by_cases h5:c≤65535
  ·have g5:((c:Int)≤65535)=True:=eq_true (by omega)
   simp(disch:=first|omega|assumption) only[ir216,g1,g2,g3,g4,g5,go_sem]
   exact hQ _ _ _ _ nofun rfl (by simp[zc,zf,AV.strip,AV.strip1,zbt,h4,h5])
  ·have g5:¬ ((c:Int)≤65535):=by omega
   simp(disch:=first|omega|assumption) only[ir216,g1,g2,g3,g4,g5,go_sem]
   exact hQ _ _ _ _ nofun rfl (by simp[zc,zf,AV.strip,AV.strip1,zbt,h1,h2,h3,h5])
 ·have g4:¬ ((32:Int)≤c):=by omega
  simp(disch:=first|omega|assumption) only[ir216,g1,g2,g3,g4,go_sem]
  exact hQ _ _ _ _ nofun rfl (by simp[zc,zf,AV.strip,AV.strip1,zbt,h1,h2,h3,h4])
def Yh:Nat→List UInt8→List Nat
 | 0,_=>[]
 | n+1,l=>if l=[] then [] else (if 65536≤(zJ l).1 then [55296+((zJ l).1-65536) / 1024,56320+((zJ l).1-65536) % 1024] else [(zJ l).1])++Yh n (l.drop (zJ l).2)
theorem Z3 (n:Nat):Yh n []=[]:=by cases n<;>simp[Yh]
theorem zgj:∀(n m:Nat) (l:List UInt8),l.length≤n→l.length≤m→validD l=true→Yh n l=Yh m l
 | 0,m,l,h,_,_=>by rw[zap.1 (by omega:l.length=0),Z3,Z3]
 | n,0,l,_,h,_=>by rw[zap.1 (by omega:l.length=0),Z3,Z3]
 | n+1,m+1,l,h1,h2,hv=>by
  by_cases hne:l=[]
  ·subst hne;rw[Z3,Z3]
  ·obtain⟨hd,hv2⟩:=zaj hne hv
   have:=hd.pos
   have:=hd.len
   simp only[Yh,hne,if_false]
   rw[zgj n m _ (by simp;omega) (by simp;omega) hv2]
theorem zqS (n:Nat):((n:Int)).tdiv 1024=((n / 1024:Nat):Int):=by rw[Int.tdiv_eq_ediv_of_nonneg (by omega)];omega
theorem zq8 (n:Nat):((n:Int)).tmod 1024=((n % 1024:Nat):Int):=by rw[Int.tmod_eq_emod_of_nonneg (by omega)];omega
theorem zvF (s:List UInt8) (hv:validD s=true) (hs:s.length≤Lim):zu Tryz.prog 211 [.str s] (.tup [.sl .no 1 (cU (Yh s.length s)),.bool true]):=by
 refine zu.go ir211 ck211 (Al4 _) fun KP Q hQ=>?_
 have hs':=hs
 simp only[Lim] at hs
 simp(disch:=first|omega|assumption) only[ir211,go_sem]
 refine yK (fun x:Own×List Nat×Nat=>[(4,.sl x.1 1 (cU x.2.1)),(5,.int .i64 x.2.2)])
  (fun x H=>x.2.2≤s.length∧x.2.1.length≤2*x.2.2∧Yh s.length s=x.2.1++Yh (s.drop x.2.2).length (s.drop x.2.2)∧validD (s.drop x.2.2)=true∧OwnS za.emp .nil H x.1 x.2.1.length 1) (fun x=>s.length-x.2.2) (.nil,[],0) (by simp(disch:=first|omega|assumption) only[cU,go_sem]) ⟨by simp,by simp,by simp,by simpa using hv,OwnS.refl rfl⟩ ?_
 rintro⟨o,acc,i⟩ H J ⟨hi,hai,hc,hv,hs1⟩ hJ
 simp only at hi hai hc hv hs1
 by_cases hlt:i<s.length
 case neg =>
  have hlt':¬ (i:Int)<s.length:=by omega
  rw[List.drop_of_length_le (by omega)] at hc
  rw[Z3,List.append_nil] at hc
  simp(disch:=first|omega|assumption) only[hlt',go_sem]
  exact hQ _ _ _ _ nofun rfl (by simp[zc,zf,AV.strip,AV.strip1,hc])
 have hlt':(i:Int)<s.length:=by omega
 have hne:s.drop i≠[]:=fun e=>by have:=congrArg List.length e;simp at this;omega
 have hcl:=zkg acc
 obtain⟨hd,hv2⟩:=zaj hne hv
 have hp:=hd.pos
 have hle:=hd.len
 have hmax:=hd.le
 have hst:Yh (s.drop i).length (s.drop i)=(if 65536≤(zJ (s.drop i)).1 then [55296+((zJ (s.drop i)).1-65536) / 1024,56320+((zJ (s.drop i)).1-65536) % 1024] else [(zJ (s.drop i)).1])++Yh ((s.drop i).drop (zJ (s.drop i)).2).length ((s.drop i).drop (zJ (s.drop i)).2):=by
  obtain⟨n,hn⟩:∃ n,(s.drop i).length=n+1:=⟨(s.drop i).length-1,by omega⟩
  rw[hn,Yh,if_neg hne,zgj n _ _ (by simp at hn ⊢;omega) (Al4 _) hv2]
 simp(disch:=first|omega|assumption) only[hlt',go_sem]
 refine zb (zr1 s i hlt hs') ?_
 rw[hst] at hc
 rw[List.drop_drop] at hc hv2
 rw[Yv] at hle
 generalize (zJ (s.drop i)).1=c at *
 generalize (zJ (s.drop i)).2=k at *
 have h0':¬ ((k:Int)=0):=by omega
 by_cases hc6:65536≤c
 ·have g:((65536:Int)≤c)=True:=eq_true (by omega)
  have w1:IntKind.wrap .i64 ((c:Int)-65536)=((c-65536:Nat):Int):=by rw[wrap64 (by omega) (by omega)];omega
  have w2:IntKind.wrap .i64 (((c-65536) / 1024:Nat):Int)=(((c-65536) / 1024:Nat):Int):=wrap64 (by omega) (by omega)
  have w3:IntKind.wrap .i64 (55296+(((c-65536) / 1024:Nat):Int))=((55296+(c-65536) / 1024:Nat):Int):=by rw[wrap64 (by omega) (by omega)];omega
  have w4:IntKind.wrap .i64 (56320+(((c-65536) % 1024:Nat):Int))=((56320+(c-65536) % 1024:Nat):Int):=by rw[wrap64 (by omega) (by omega)];omega
  rw[if_pos hc6] at hc
  simp(disch:=first|omega|assumption) only[h0',g,w1,zqS,zq8,w2,w3,w4,go_sem]
  refine zx (by rw[hcl];exact hs1.own) (by simp only[hcl,Al2,Al3];omega) (by simp only[hcl,Al2,Al3,maxLen];omega) fun o' H' hs2=>?_
  simp(disch:=first|omega|assumption) only[wrap64,go_sem]
  exact goJ (hJ (o',acc++[55296+(c-65536) / 1024,56320+(c-65536) % 1024],i+k) H' (by simp only;omega) ⟨by simp only;omega,by simp;omega,by rw[hc];simp,hv2,hs1.trans (by simpa[hcl] using hs2)⟩) (by simp(disch:=first|omega|assumption) only[cU,List.map_append,Int.natCast_add,go_sem])
 ·have g:¬ ((65536:Int)≤c):=by omega
  rw[if_neg hc6] at hc
  simp(disch:=first|omega|assumption) only[h0',g,go_sem]
  refine zx (by rw[hcl];exact hs1.own) (by simp only[hcl,Al2,Al3];omega) (by simp only[hcl,Al2,Al3,maxLen];omega) fun o' H' hs2=>?_
  simp(disch:=first|omega|assumption) only[wrap64,go_sem]
  exact goJ (hJ (o',acc++[c],i+k) H' (by simp only;omega) ⟨by simp only;omega,by simp;omega,by rw[hc];simp,hv2,hs1.trans (by simpa[hcl] using hs2)⟩) (by simp(disch:=first|omega|assumption) only[cU,List.map_append,Int.natCast_add,go_sem])
theorem zpR {n n' b0 b1 b2 b3 c1 c2 c3 c k:Nat} (h:decodeN n b0 b1 b2 b3=(c,k)) (hv:(c,k)≠(65533,1)) (hn:k≤n') (h1:1<k→c1=b1) (h2:2<k→c2=b2) (h3:3<k→c3=b3):decodeN n' b0 c1 c2 c3=(c,k):=by
 unfold decodeN at h
 split at h
 ·rename_i h0
  unfold decodeN
  rw[if_pos h0,h]
 rename_i h0
 split at h
 ·rename_i hA
  split at h
  ·rename_i hB
   cases h
   unfold decodeN
   rw[if_neg h0,h1 (by decide),if_pos ⟨hA.1,by omega,hA.2.2⟩,if_pos hB]
  ·exact absurd h.symm hv
 rename_i hA
 split at h
 ·rename_i hB
  split at h
  ·rename_i hC
   cases h
   unfold decodeN
   rw[if_neg h0,h1 (by decide),h2 (by decide),if_neg (by omega),if_pos ⟨hB.1,⟨by omega,hB.2.1.2⟩,by omega,hB.2.2.2⟩,if_pos hC]
  ·exact absurd h.symm hv
 rename_i hB
 split at h
 ·rename_i hC
  split at h
  ·rename_i hD
   cases h
   unfold decodeN
   rw[if_neg h0,h1 (by decide),h2 (by decide),h3 (by decide),if_neg (by omega),if_neg (by omega),if_pos ⟨hC.1,⟨by omega,hC.2.1.2⟩,⟨by omega,hC.2.2.1.2⟩,by omega,hC.2.2.2.2⟩,if_pos hD]
  ·exact absurd h.symm hv
 ·exact absurd h.symm hv
theorem zfK {l:List UInt8} (hne:l≠[]) (h:(zJ l).2≠0):zJ l=decodeL l∧decodeL l≠(65533,1):=by
 unfold zJ at h ⊢
 rw[if_neg hne] at h ⊢
 split at h
 ·exact absurd rfl h
 ·rename_i h2;rw[if_neg h2];exact⟨rfl,h2⟩
theorem zeq {l:List UInt8} (hne:l≠[]) (h:(zJ l).2≠0) (t:List UInt8):zJ (l.take (zJ l).2++t)=zJ l:=by
 obtain⟨e,hv⟩:=zfK hne h
 have hk:=decodeL_le l hne
 rw[e]
 generalize hd:decodeL l=x at *
 obtain⟨c,k⟩:=x
 simp only at *
 have h2:decodeL (l.take k++t)=(c,k):=by
  rw[decodeL_N] at hd ⊢
  have hg:∀ j,j<k→(l.take k++t).getD j 0=l.getD j 0:=fun j hj=>by
   simp only[List.getD_eq_getElem?_getD]
   rw[zcN (by simp;omega),List.getElem?_take_of_lt hj]
  have hk1:1≤k:=by rw[← show (decodeL l).2=k by rw[decodeL_N,hd]];exact decodeL_width l
  rw[hg 0 (by omega)]
  exact zpR hd hv (by simp;omega) (fun hj=>by rw[hg 1 hj]) (fun hj=>by rw[hg 2 hj]) fun hj=>by rw[hg 3 hj]
 have hne2:l.take k++t≠[]:=fun e=>by
  have h3:=congrArg List.length e
  have hk1:1≤k:=by rw[← show (decodeL l).2=k by rw[hd]];exact decodeL_width l
  have hl:0<l.length:=List.length_pos_iff.2 hne
  simp only[Al5,List.length_take,Al3] at h3;omega
 unfold zJ
 rw[if_neg hne2,h2,if_neg hv]
theorem zmf (b:UInt8) (t:List UInt8) (h:b.toNat<128):zJ (b::t)=(b.toNat,1):=by
 unfold zJ
 rw[if_neg (by simp),decodeL_ascii b t h,if_neg (by simp;omega)]
def zfL (r:List UInt8):Prop:=r=[]∨∃ c t,r=c::t∧(c=32∨c=10)
theorem zlW {r:List UInt8} (h:zfL r):yi r=0:=by
 rcases h with rfl|⟨c,t,rfl,rfl|rfl⟩
 ·rfl
 all_goals simp[yi,isD]
theorem zc7:∀(a:List UInt8) {r:List UInt8},zfL r→yi (a++r)=yi a
 | [],r,h=>zlW h
 | c::a,r,h=>by simp only[Al6,yi];rw[zc7 a h]
theorem zlx (a:List UInt8) {r:List UInt8} (h:zfL r):Ym (a++r)=Ym a:=by
 unfold Ym
 rw[zc7 a h]
 cases a with
 | nil=>simp[yi]
 | cons c a=>simp
theorem zmR (a:List UInt8) {r:List UInt8} (h:zfL r):zU (a++r)=zU a:=by
 cases a with
 | nil =>
  have h1:=zlW h
  have h2:zU []=0:=rfl
  rw[Zg,h2]
  unfold zU
  rcases h with rfl|⟨c,t,rfl,rfl|rfl⟩
  ·rfl
  all_goals
   rw[if_neg (by simp)];unfold Ym;rw[if_pos h1]
 | cons c a =>
  by_cases hc:c=45
  ·subst hc;rw[Al6,zab,zab,zc7 a h,zlx a h]
  ·rw[ZZ (s:=c::a++r) (by simp[hc]),ZZ (s:=c::a) (by simp[hc]),zlx (c::a) h]
theorem zpY (a:List UInt8) {r:List UInt8} (h:zfL r):Zi (a++r)=Zi a:=by
 cases a with
 | nil=>rcases h with rfl|⟨c,t,rfl,rfl|rfl⟩<;>rfl
 | cons c a=>simp[Zi,zc7 a h]
theorem zrQ (a:List UInt8) {r:List UInt8} (h:zfL r):zaa (a++r)=zaa a:=by
 cases a with
 | nil =>
  rcases h with rfl|⟨c,t,rfl,rfl|rfl⟩
  ·rfl
  all_goals simp[zaa,isE]
 | cons c a =>
  have hs:sgN (a++r)=sgN a:=by
   cases a with
   | nil=>rcases h with rfl|⟨c,t,rfl,rfl|rfl⟩<;>simp[sgN]
   | cons d a=>simp[sgN]
  have hd:(a++r).drop (sgN a)=a.drop (sgN a)++r:=zf9 (zny a)
  simp only[Al6,zaa,hs,hd,zc7 _ h]
theorem zlM {a:List UInt8} {r:List UInt8} (h:zfL r):yB (a++r)=yB a:=by
 have h1:=zfC a
 have e1:(a++r).drop (zU a)=a.drop (zU a)++r:=zf9 h1
 have h2:=zlE (a.drop (zU a))
 simp only[Yv] at h2
 have e2:(a++r).drop (zU a+Zi (a.drop (zU a)))=a.drop (zU a+Zi (a.drop (zU a)))++r:=zf9 (by omega)
 unfold yB
 rw[zmR a h,e1,zpY _ h,e2,zrQ _ h]
theorem zvs:∀ x:Fin 16,hexD (hexL.getD x.val 0)=some x.val:=by decide +kernel
theorem zuM (n:Nat):hexD (hexL.getD (n % 16) 0)=some (n % 16):=zvs ⟨n % 16,Nat.mod_lt _ (by decide)⟩
theorem znl {u:Nat} (h:u<65536) (t:List UInt8):Y2 (hexL.getD (u / 4096 % 16) 0::hexL.getD (u / 256 % 16) 0::hexL.getD (u / 16 % 16) 0::hexL.getD (u % 16) 0::t)=some u:=by
 simp only[Y2,YL,zuM]
 congr 1
 omega
theorem zdB:∀(us vs:List Nat) (tt:List UInt8),z1 us=some tt→z1 (us++vs)=(z1 vs).map (tt++·)
 | [],vs,tt,h=>by
  simp only[z1,Al1] at h;subst h
  rw[Zg]
  cases hj:z1 vs<;>simp
 | [u],vs,tt,h=>by
  unfold z1 at h
  rw[List.singleton_append]
  conv=>lhs;unfold z1
  split at h
  ·cases h
  ·rename_i h1
   rw[if_neg h1]
   split at h
   ·cases h
   ·rename_i h2
    rw[if_neg h2]
    simp only[z1,yU,Al1,List.append_nil] at h
    subst h;rfl
 | u::v::r,vs,tt,h=>by
  unfold z1 at h
  rw[Al6]
  conv=>lhs;unfold z1
  split at h
  ·cases h
  ·rename_i h1
   rw[if_neg h1]
   split at h
   ·rename_i h2
    rw[if_pos h2]
    simp only[Al6] at h ⊢
    split at h
    ·cases h
    ·rename_i h3
     rw[if_neg h3]
     cases hj:z1 r with
     | none=>rw[hj] at h;cases h
     | some x =>
      rw[hj] at h
      simp only[yU,Al1] at h
      rw[zdB r vs x hj]
      subst h
      cases z1 vs<;>simp
   ·rename_i h2
    rw[if_neg h2]
    cases hj:z1 (v::r) with
    | none=>rw[hj] at h;cases h
    | some x =>
     rw[hj] at h
     simp only[yU,Al1] at h
     rw[zdB (v::r) vs x hj]
     subst h
     cases z1 vs<;>simp
theorem zpK {u:Nat} (h1:u≤65535) (h2:u<55296∨57343<u):z1 [u]=some (ZF u):=by
 unfold z1;rw[if_neg (by omega),if_neg (by omega)];simp[z1]
theorem zpT {c:Nat} (h1:65536≤c) (h2:c≤1114111):z1 [55296+(c-65536) / 1024,56320+(c-65536) % 1024]=some (ZF c):=by
 have e:65536+1024*(55296+(c-65536) / 1024-55296)+(56320+(c-65536) % 1024-56320)=c:=by omega
 unfold z1;rw[if_neg (by omega),if_pos (by omega)]
 simp only
 rw[if_neg (by omega),e]
 simp[z1]
theorem zfB {u:Nat} (h:u<65536) (t out:List UInt8) (us:List Nat):zcq Zd (Zr u++t) ⟨out,us,true⟩=zcq Zd t ⟨out,us++[u],true⟩:=by
 simp only[Zr,Al6,Zg]
 rw[zo0]
 simp only[Ys,if_true,znl h,yU,List.drop_succ_cons,List.drop_zero]
theorem zif {k:UInt8} {v:UInt8} (hk:k≠117) (h1:¬ Lib.indexByte zeo k<0) (h2:zrB.getD (Lib.indexByte zeo k).toNat 0=v) {us:List Nat} {tt:List UInt8} (hj:z1 us=some tt) (t out:List UInt8) :
  zcq Zd (92::k::t) ⟨out,us,true⟩=zcq Zd t ⟨out++tt++[v],[],true⟩:=by
 rw[zo0]
 simp only[Ys,if_neg hk,if_neg h1,h2]
 simp[Sd.put,yN,hj]
theorem zh2 {l:List UInt8} {c k:Nat} (h:DecOk l c k) (hc:c<128):k=1∧l.take k=[UInt8.ofNat c]∧(l.getD 0 0).toNat=c:=by
 have e:=h.enc
 have hl:(ZF c).length=1:=by unfold ZF;rw[if_pos (by omega)];rfl
 have hk:k=1:=by
  rw[e] at hl
  have:=h.len
  simp at hl;omega
 refine⟨hk,by rw[← e];unfold ZF;rw[if_pos (by omega)],(h.one hk).1.symm⟩
theorem zw9 {l:List UInt8} (hne:l≠[]) (h:(zJ l).2≠0):(zJ l).1<55296∨57343<(zJ l).1:=by
 obtain⟨e,hv⟩:=zfK hne h
 rw[e]
 rw[decodeL_N] at hv ⊢
 generalize (l.getD 0 0).toNat=b0 at *
 generalize (l.getD 1 0).toNat=b1 at *
 generalize (l.getD 2 0).toNat=b2 at *
 generalize (l.getD 3 0).toNat=b3 at *
 unfold decodeN at hv ⊢
 repeat' split
 all_goals first|(simp only;omega)|(simp_all;done)|(simp_all;omega)
theorem zjn:∀(n:Nat) (l out:List UInt8) (us:List Nat) (tt rest:List UInt8),l.length≤n→validD l=true→z1 us=some tt→zcq Zd (Zt n l++34::rest) ⟨out,us,true⟩=some (⟨out++tt++l,[],true⟩,rest)
 | 0,l,out,us,tt,rest,hn,_,hj=>by
  obtain rfl:l=[]:=zap.1 (by omega)
  simp only[Zt,Zg]
  rw[zoY];simp[yN,hj]
 | n+1,l,out,us,tt,rest,hn,hv,hj=>by
  rw[Zt]
  by_cases hne:l=[]
  ·subst hne
   simp only[if_true,Zg]
   rw[zoY];simp[yN,hj]
  ·rw[if_neg hne]
   obtain⟨hd,hv2⟩:=zaj hne hv
   have hpos:=hd.pos
   have hle:=hd.len
   have hsur:=zw9 hne (by omega)
   have hmax:=hd.le
   have hen:=hd.enc
   have hpre:=zeq hne (by omega:(zJ l).2≠0)
   generalize (zJ l).1=c at *
   generalize (zJ l).2=k at *
   have hl:(l.drop k).length≤n:=by simp;omega
   have hcat:l.take k++l.drop k=l:=List.take_append_drop k l
   have ih:∀ out us tt,z1 us=some tt→zcq Zd (Zt n (l.drop k)++34::rest) ⟨out,us,true⟩=some (⟨out++tt++l.drop k,[],true⟩,rest):=fun out us tt hj=>zjn n (l.drop k) out us tt rest hl hv2 hj
   have fin:∀ x:List UInt8,x=l.take k→out++tt++x++l.drop k=out++tt++l:=fun x hx=>by rw[hx,ZJ,hcat]
   rw[ZJ]
   unfold ZD
   by_cases h1:c=34∨c=92
   ·rw[if_pos h1]
    obtain⟨rfl,ht,_⟩:=zh2 hd (by omega)
    simp only[Al6,Zg]
    rcases h1 with rfl|rfl
    ·rw[zif (v:=34) (by decide) (by decide) (by decide) hj,ih _ [] [] rfl,List.append_nil]
     exact congrArg some (Prod.ext (by simp only[Sd.mk.injEq,and_self,and_true];exact fin [34] (by rw[ht];rfl)) rfl)
    ·rw[zif (v:=92) (by decide) (by decide) (by decide) hj,ih _ [] [] rfl,List.append_nil]
     exact congrArg some (Prod.ext (by simp only[Sd.mk.injEq,and_self,and_true];exact fin [92] (by rw[ht];rfl)) rfl)
   rw[if_neg h1]
   by_cases h2:c=10
   ·rw[if_pos h2]
    subst h2
    obtain⟨rfl,ht,_⟩:=zh2 hd (by omega)
    simp only[Al6,Zg]
    rw[zif (v:=10) (by decide) (by decide) (by decide) hj,ih _ [] [] rfl,List.append_nil]
    exact congrArg some (Prod.ext (by simp only[Sd.mk.injEq,and_self,and_true];exact fin [10] (by rw[ht];rfl)) rfl)
   rw[if_neg h2]
   by_cases h3:c<32
   ·rw[if_pos h3,zfB (by omega),ih out (us++[c]) (tt++ZF c) (by rw[zdB us [c] tt hj,zpK (by omega) (by omega)];rfl)]
    exact congrArg some (Prod.ext (by simp only[Sd.mk.injEq,and_self,and_true];rw[← ZJ];exact fin (ZF c) hen) rfl)
   rw[if_neg h3]
   by_cases h4:65536≤c
   ·rw[if_pos h4,ZJ,zfB (by omega),zfB (by omega),ih out (us++[_]++[_]) (tt++ZF c) (by rw[ZJ,zdB us _ tt hj,List.singleton_append,zpT h4 (by omega)];rfl)]
    exact congrArg some (Prod.ext (by simp only[Sd.mk.injEq,and_self,and_true];rw[← ZJ];exact fin (ZF c) hen) rfl)
   ·rw[if_neg h4]
    obtain⟨b,t,hbt⟩:∃ b t,l=b::t:=by cases l with|nil=>exact absurd rfl hne|cons a b=>exact⟨a,b,rfl⟩
    have hg:(l.take k++(Zt n (l.drop k)++34::rest)).getD 0 0=l.getD 0 0:=by
     rw[hbt];obtain⟨m,rfl⟩:∃ m,k=m+1:=⟨k-1,by omega⟩;simp
    have hd2:DecOk (l.take k++(Zt n (l.drop k)++34::rest)) c k:=by
     have htk:(l.take k++(Zt n (l.drop k)++34::rest)).take k=l.take k:=List.take_left' (by simp;omega)
     exact⟨by rw[htk];exact hen,hmax,hpos,by simp;omega,fun e=>by rw[hg];exact hd.one e,fun e=>by rw[htk];exact hd.high e⟩
    have hb:(l.getD 0 0).toNat=c∨128≤(l.getD 0 0).toNat:=by
     by_cases hk1:k=1
     ·exact .inl (hd.one hk1).1.symm
     ·right
      refine hd.high hk1 _ ?_
      rw[hbt];obtain⟨m,rfl⟩:∃ m,k=m+1:=⟨k-1,by omega⟩;simp
    have hne0:∀ m:UInt8,m.toNat<128→m.toNat≠c→l.getD 0 0≠m:=fun m hm hc e=>by rw[e] at hb;omega
    rw[zpt hj hd2 (by rw[hbt];obtain⟨m,rfl⟩:∃ m,k=m+1:=⟨k-1,by omega⟩;simp) (by rw[hg];exact hne0 34 (by decide) (by simp;omega)) (by rw[hg];exact hne0 92 (by decide) (by simp;omega))
     (by rw[hg];simp only[Zd,Al0,zL];exact⟨hne0 10 (by decide) (by simp;omega),hne0 13 (by decide) (by simp;omega)⟩)]
    rw[List.take_left' (by simp;omega),List.drop_left' (by simp;omega),ih _ [] [] rfl,List.append_nil]
    exact congrArg some (Prod.ext (by simp only[Sd.mk.injEq,and_self,and_true];exact fin _ rfl) rfl)
theorem zpL (s rest:List UInt8) (hv:validD s=true):YJ Zd (Zt s.length s++34::rest)=some (s,rest):=by
 rw[zvw,zjn s.length s [] [] [] rest (Al4 _) hv rfl]
 simp[zwn]
theorem zdF (u:Nat):(Zr u).length=6:=rfl
theorem zho {l:List UInt8} {c k:Nat} (h:DecOk l c k):(ZD c (l.take k)).length≤6*k:=by
 have hp:=h.pos
 have hl:=h.len
 have he:=h.enc
 unfold ZD
 split
 ·simp;omega
 split
 ·simp;omega
 split
 ·rw[zdF];omega
 split
 ·have:k=4:=by
   have e:=congrArg List.length he
   unfold ZF at e
   rw[if_neg (by omega),if_neg (by omega),if_neg (by omega)] at e
   simp at e;omega
  simp only[Al5,zdF];omega
 ·simp;omega
theorem za2 (n:Nat):Zt n []=[]:=by cases n<;>simp[Zt]
theorem zhu:∀(n m:Nat) (l:List UInt8),l.length≤n→l.length≤m→validD l=true→Zt n l=Zt m l
 | 0,m,l,h,_,_=>by rw[zap.1 (by omega:l.length=0),za2,za2]
 | n,0,l,_,h,_=>by rw[zap.1 (by omega:l.length=0),za2,za2]
 | n+1,m+1,l,h1,h2,hv=>by
  by_cases hne:l=[]
  ·subst hne;rw[za2,za2]
  ·obtain⟨hd,hv2⟩:=zaj hne hv
   have:=hd.pos
   have:=hd.len
   simp only[Zt,hne,if_false]
   rw[zhu n m _ (by simp;omega) (by simp;omega) hv2]
theorem zjx:∀(n:Nat) (l:List UInt8),validD l=true→(Zt n l).length≤6*l.length
 | 0,l,_=>by simp[Zt]
 | n+1,l,hv=>by
  by_cases hne:l=[]
  ·subst hne;simp[Zt]
  ·obtain⟨hd,hv2⟩:=zaj hne hv
   have h1:=zho hd
   have h2:=zjx n _ hv2
   have h3:=hd.len
   simp only[Zt,hne,if_false,Al5]
   simp only[Yv] at h2
   omega
def ziL (l:List UInt8):List UInt8:=Zt l.length l
theorem znb {l:List UInt8} (hne:l≠[]) (hv:validD l=true):ziL l=ZD (zJ l).1 (l.take (zJ l).2)++ziL (l.drop (zJ l).2):=by
 obtain⟨hd,hv2⟩:=zaj hne hv
 have:=hd.pos
 have:=hd.len
 unfold ziL
 obtain⟨n,hn⟩:∃ n,l.length=n+1:=⟨l.length-1,by omega⟩
 rw[hn,Zt,if_neg hne,zhu n _ _ (by simp;omega) (Al4 _) hv2]
theorem zqO (s:List UInt8) (hv:validD s=true):(zkb s).length≤6*s.length+2:=by
 have:=zjx s.length s hv
 simp only[zkb,Al2,Al5,Al3];omega
theorem zq2 {t:Tok} (h:zv t=true):(zas t).length≤6*t.s.length+2:=by
 unfold zas
 split
 ·rename_i h5
  unfold zv at h
  rw[h5] at h
  exact zqO _ (by simpa using h)
 ·omega
theorem fdN (u k:Nat) (hk:k≤64):(u:Int).fdiv (2 ^ min k IntKind.i64.bits)=((u / 2 ^ k:Nat):Int):=by
 have e:min k IntKind.i64.bits=k:=by show min k 64=k;omega
 rw[e,Int.fdiv_eq_ediv_of_nonneg _ (by exact_mod_cast Nat.zero_le _)]
 norm_cast
theorem zu3 (n:Nat):((n:Int)).tmod 16=((n % 16:Nat):Int):=by rw[Int.tmod_eq_emod_of_nonneg (by omega)];omega
theorem zuZ (u:Nat) (hu:u<65536) (acc:List UInt8) (H:za) (o:Own) (ho:yh H o acc.length 1) (hb:acc.length≤Lim) :
  zjE Tryz.prog 212 [.sl o 1 (bytesOf acc),.int .i64 u] H o 1 (bytesOf (acc++Zr u)):=by
 refine zj.goO ir212 ck212 (Al4 _) fun KP Q hQ hP=>?_
 have hal:=yd acc
 simp only[Lim] at hb
 simp(disch:=first|omega|assumption) only[ir212,steps,st2,pev,rev,oev,z8,yf,ym,yl,bound,zI,mm2,mk,zt,AV.cells,AV.boxable,AV.one,AV.strip1,zH,zE,Nat.reduceEqDiff,reduceCtorEq,↓reduceIte,Nat.reduceAdd,Int.reduceNeg,Nat.reduceLeDiff,Int.reduceToNat,Int.reduceEq,Int.reduceLT,Int.reduceLE,Int.reduceAdd,Io,Im,If,Il,Jt,Jf,AC.rg,Jm,Jl,Ja,Fm,Fl,Fa,Imv,Imb,Iai,Iei,Igi,Isi,Ipf,Ipt,Ilb,Iia,Ilt,Iap,Ink,Iln,Ils,Iad,Iex,Ibx,Ing]
 refine zx (by rw[hal];exact ho) (by simp[hal];omega) (by simp[hal,maxLen];omega) fun o1 H1 hs1=>?_
 have hs1':OwnS H o H1 o1 (acc++[92,117]).length 1:=by simpa[hal] using hs1
 have e1:bytesOf acc++[[AV.int .u8 92],[AV.int .u8 117]]=bytesOf (acc++[92,117]):=zc0 acc 92 117
 simp(disch:=first|omega|assumption) only[e1,steps,st2,pev,rev,oev,z8,yf,ym,yl,bound,zI,mm2,mk,zt,AV.cells,AV.boxable,AV.one,AV.strip1,zH,zE,Nat.reduceEqDiff,reduceCtorEq,↓reduceIte,Nat.reduceAdd,Int.reduceNeg,Nat.reduceLeDiff,Int.reduceToNat,Int.reduceEq,Int.reduceLT,Int.reduceLE,Int.reduceAdd]
 refine yK (fun x:Nat×Own=>[(0,.sl x.2 1 (bytesOf (acc++(Zr u).take (6-x.1)))),(5,.int .i64 ((x.1:Int)-1))]) (fun x H'=>x.1≤4∧OwnS H o H' x.2 (acc++(Zr u).take (6-x.1)).length 1) (fun x=>x.1) (4,o1) (by simp(disch:=first|omega|assumption) only[Zr,Int.reduceSub,steps,st2,pev,rev,oev,z8,yf,ym,yl,bound,zI,mm2,mk,zt,AV.cells,AV.boxable,AV.one,AV.strip1,zH,zE,Nat.reduceEqDiff,reduceCtorEq,↓reduceIte,Nat.reduceAdd,Int.reduceNeg,Nat.reduceLeDiff,Int.reduceToNat,Int.reduceEq,Int.reduceLT,Int.reduceLE,Int.reduceAdd]) ⟨by simp,by simpa[Zr] using hs1'⟩ ?_
 rintro⟨k,o2⟩ H2 J ⟨hk,hs⟩ hJ
 simp only at hk hs
 cases k with
 | zero =>
  have h0:¬ ((0:Int)≤-1):=by omega
  have e:(Zr u).take (6-0)=Zr u:=rfl
  rw[e] at hs
  simp(disch:=first|omega|assumption) only[h0,e,Int.reduceSub,steps,st2,pev,rev,oev,z8,yf,ym,yl,bound,zI,mm2,mk,zt,AV.cells,AV.boxable,AV.one,AV.strip1,zH,zE,Nat.reduceEqDiff,reduceCtorEq,↓reduceIte,Nat.reduceAdd,Int.reduceNeg,Nat.reduceLeDiff,Int.reduceToNat,Int.reduceEq,Int.reduceLT,Int.reduceLE,Int.reduceAdd]
  exact hQ _ _ H2 H2 [_] nofun rfl (Low.refl _) ⟨o2,rfl,by rw[yd];exact hs⟩
 | succ j =>
  have e0:((j+1:Nat):Int)-1=(j:Int):=by omega
  have h0:((0:Int)≤j)=True:=eq_true (by omega)
  have w1:IntKind.wrap .i64 (4*(j:Int))=((4*j:Nat):Int):=by rw[wrap64 (by omega) (by omega)];omega
  have w2:=fdN u (4*j) (by omega)
  have hlt:(((u / 2 ^ (4*j) % 16:Nat):Int)<16)=True:=eq_true (by omega)
  have w0:(((4*j:Nat):Int)<0)=False:=eq_false (by omega)
  have hm:((Zr u).take (6-(j+1)))++[hexL.getD (u / 2 ^ (4*j) % 16) 0]=(Zr u).take (6-j):=by
   have:j=0∨j=1∨j=2∨j=3:=by omega
   rcases this with rfl|rfl|rfl|rfl<;>simp[Zr]
  have hl2:=yd (acc++(Zr u).take (6-(j+1)))
  have hl3:(acc++(Zr u).take (6-(j+1))).length≤acc.length+6:=by simp[zdF];omega
  have e3:=zbv (acc++(Zr u).take (6-(j+1))) (hexL.getD (u / 2 ^ (4*j) % 16) 0)
  rw[ZJ,hm] at e3
  have hg:([48,49,50,51,52,53,54,55,56,57,97,98,99,100,101,102]:List UInt8).getD (u / 2 ^ (4*j) % 16) 0=hexL.getD (u / 2 ^ (4*j) % 16) 0:=rfl
  simp(disch:=first|omega|assumption) only[e0,h0,w1,w2,w0,zu3,hlt,hg,steps,st2,pev,rev,oev,z8,yf,ym,yl,bound,zI,mm2,mk,zt,AV.cells,AV.boxable,AV.one,AV.strip1,zH,zE,Nat.reduceEqDiff,reduceCtorEq,↓reduceIte,Nat.reduceAdd,Int.reduceNeg,Nat.reduceLeDiff,Int.reduceToNat,Int.reduceEq,Int.reduceLT,Int.reduceLE,Int.reduceAdd]
  refine zx (by rw[hl2];exact hs.own) (by simp only[hl2,Al2,Al3];omega) (by simp only[hl2,Al2,Al3,maxLen];omega) fun o3 H3 hs3=>?_
  have hs4:OwnS H o H3 o3 (acc++(Zr u).take (6-j)).length 1:=by
   have e:(acc++(Zr u).take (6-j)).length=(bytesOf (acc++(Zr u).take (6-(j+1)))).length+1:=by
    rw[hl2,← hm,← ZJ];simp only[Al5,Al2,Al3]
   rw[e];exact hs.trans hs3
  simp(disch:=first|omega|assumption) only[e3,wrap64,steps,st2,pev,rev,oev,z8,yf,ym,yl,bound,zI,mm2,mk,zt,AV.cells,AV.boxable,AV.one,AV.strip1,zH,zE,Nat.reduceEqDiff,reduceCtorEq,↓reduceIte,Nat.reduceAdd,Int.reduceNeg,Nat.reduceLeDiff,Int.reduceToNat,Int.reduceEq,Int.reduceLT,Int.reduceLE,Int.reduceAdd]
  exact goJ (hJ (j,o3) H3 (Nat.lt_succ_self j) ⟨by simp only;omega,hs4⟩) (by simp(disch:=first|omega|assumption) only[steps,st2,pev,rev,oev,z8,yf,ym,yl,bound,zI,mm2,mk,zt,AV.cells,AV.boxable,AV.one,AV.strip1,zH,zE,Nat.reduceEqDiff,reduceCtorEq,↓reduceIte,Nat.reduceAdd,Int.reduceNeg,Nat.reduceLeDiff,Int.reduceToNat,Int.reduceEq,Int.reduceLT,Int.reduceLE,Int.reduceAdd])
theorem zng {l:List UInt8} {c k:Nat} (hne:l≠[]) (hv:validD l=true) (hc:(zJ l).1=c) (hk:(zJ l).2=k) :
  validD (l.take k)=true∧(l.take k).length=k∧Yh (l.take k).length (l.take k)=if 65536≤c then [55296+(c-65536) / 1024,56320+(c-65536) % 1024] else [c]:=by
 obtain⟨hd,hv2⟩:=zaj hne hv
 subst hc;subst hk
 have hp:=hd.pos
 have hle:=hd.len
 have hlen:(l.take (zJ l).2).length=(zJ l).2:=by simp;omega
 have hne2:l.take (zJ l).2≠[]:=fun e=>by rw[e] at hlen;simp at hlen;omega
 have hcode:=zeq hne (by omega:(zJ l).2≠0) []
 rw[List.append_nil] at hcode
 have hdrop:(l.take (zJ l).2).drop (zJ l).2=[]:=by apply List.drop_eq_nil_of_le;omega
 refine⟨?_,hlen,?_⟩
 ·have:=(zhe hne2 (by rw[hcode];omega)).1
  rw[this,hcode,hdrop];rfl
 ·rw[hlen]
  obtain⟨n,hn⟩:∃ n,(zJ l).2=n+1:=⟨(zJ l).2-1,by omega⟩
  conv=>lhs;rw[show Yh (zJ l).2=Yh (n+1) by rw[hn]]
  rw[Yh,if_neg hne2,hcode,hdrop,Z3,List.append_nil]
theorem zw6 {n:Nat} (h:n<256):IntKind.wrap .u8 (n:Int)=((UInt8.ofNat n).toNat:Int):=by
 rw[wr8];simp
set_option maxHeartbeats 1000000 in
theorem ztt (s:List UInt8) (hv:validD s=true) (hs:6*s.length+2≤Lim):zu Tryz.prog 120 [.str s] (.str (zkb s)):=by
 refine zu.go ir120 ck120 (Al4 _) fun KP Q hQ=>?_
 have hs':s.length≤Lim:=by simp only[Lim] at hs ⊢;omega
 simp only[Lim] at hs
 simp(disch:=first|omega|assumption) only[ir120,go_sem]
 have e34:([[AV.int .u8 34]]:List (List AV))=bytesOf [34]:=rfl
 simp(disch:=first|omega|assumption) only[e34,go_sem]
 refine yK (fun x:Own×List UInt8×Nat=>[(3,.sl x.1 1 (bytesOf x.2.1)),(4,.int .i64 x.2.2)])
  (fun x H=>x.2.2≤s.length∧x.2.1.length≤6*x.2.2+1∧34::ziL s=x.2.1++ziL (s.drop x.2.2)∧validD (s.drop x.2.2)=true∧yh H x.1 x.2.1.length 1) (fun x=>s.length-x.2.2) (.full,[34],0) (by simp(disch:=first|omega|assumption) only[go_sem]) ⟨by simp,by simp,by simp,by simpa using hv,yh.full _ _ _⟩ ?_
 rintro⟨o,acc,i⟩ H J ⟨hi,hai,hc,hv,hs1⟩ hJ
 simp only at hi hai hc hv hs1
 have hal:=yd acc
 by_cases hlt:i<s.length
 case neg =>
  have hlt':¬ (i:Int)<s.length:=by omega
  rw[List.drop_of_length_le (by omega)] at hc
  have e0:ziL []=[]:=rfl
  rw[e0,List.append_nil] at hc
  have e3:bytesOf acc++[[AV.int .u8 34]]=bytesOf (acc++[34]):=zbv acc 34
  simp(disch:=first|omega|assumption) only[hlt',go_sem]
  refine zx (by rw[hal];exact hs1) (by simp only[hal,Al2,Al3];omega) (by simp only[hal,Al2,Al3,maxLen];omega) fun o3 H3 hs3=>?_
  simp(disch:=first|omega|assumption) only[e3,zg3,go_sem]
  have e4:zkb s=acc++[34]:=by rw[← hc];rfl
  exact hQ _ _ _ _ nofun rfl (by simp[zc,zf,AV.strip,AV.strip1,e4])
 have hlt':(i:Int)<s.length:=by omega
 have hne:s.drop i≠[]:=fun e=>by have:=congrArg List.length e;simp at this;omega
 obtain⟨hd,hv2⟩:=zaj hne hv
 have hst:=znb hne hv
 have hone:=zng hne hv rfl rfl
 have hpl:=zho hd
 have hp:=hd.pos
 have hle:=hd.len
 have hmax:=hd.le
 have h1b:=@zh2 _ _ _ hd
 rw[Yv] at hle
 simp(disch:=first|omega|assumption) only[hlt',go_sem]
 refine zb (zr1 s i hlt hs') ?_
 rw[hst] at hc
 rw[List.drop_drop] at hc hv2
 generalize (zJ (s.drop i)).1=c at *
 generalize (zJ (s.drop i)).2=k at *
 have hmax1:((1:Int) > (k:Int))=False:=eq_false (by omega)
 have wk:IntKind.wrap .i64 ((i:Int)+(k:Int))=((i+k:Nat):Int):=by rw[wrap64 (by omega) (by omega)];omega
 have hsub:(s.take (i+k)).drop i=(s.drop i).take k:=by rw[List.drop_take];congr 1;omega
 have hle2:(((i+k:Nat):Int)≤s.length)=True:=eq_true (by omega)
 have hle3:((i:Int)≤((i+k:Nat):Int))=True:=eq_true (by omega)
 have step:∀ o3 H3 (bs:List UInt8),bs=ZD c ((s.drop i).take k)→yh H3 o3 (acc++bs).length 1→J ((YT _ [(3,.sl o3 1 (bytesOf (acc++bs))),(4,.int .i64 ((i+k:Nat):Int))]).keep [0,3,4]) H3:=fun o3 H3 bs hbs ho3 =>
  hJ (o3,acc++bs,i+k) H3 (by simp only;omega) ⟨by simp only;omega,by simp only[Al5,hbs];omega,by rw[hc,hbs];simp,hv2,ho3⟩
 by_cases c1:c=34∨c=92
 ·have g:((c:Int)=34∨(c:Int)=92):=by omega
  have e3:bytesOf acc++[[AV.int .u8 92],[AV.int .u8 (UInt8.ofNat c).toNat]]=bytesOf (acc++[92,UInt8.ofNat c]):=zc0 acc 92 _
  have ep:[92,UInt8.ofNat c]=ZD c ((s.drop i).take k):=by unfold ZD;rw[if_pos c1]
  rcases c1 with c1|c1
  all_goals
   have w8:IntKind.wrap .u8 (c:Int)=((UInt8.ofNat c).toNat:Int):=zw6 (by omega)
   subst c1
   have gg:=w8
   simp only[Int.cast_ofNat_Int] at w8
   simp(disch:=first|omega|assumption) only[w8,go_sem]
   refine zx (by rw[hal];exact hs1) (by simp only[hal,Al2,Al3];omega) (by simp only[hal,Al2,Al3,maxLen];omega) fun o3 H3 hs3=>?_
   simp(disch:=first|omega|assumption) only[e3,hmax1,wk,go_sem]
   exact goJ (step o3 H3 _ ep (by simpa[hal] using hs3.own)) (by simp(disch:=first|omega|assumption) only[go_sem])
 have g34:¬ ((c:Int)=34):=by omega
 have g92:¬ ((c:Int)=92):=by omega
 by_cases c2:c=10
 ·subst c2
  have e3:bytesOf acc++[[AV.int .u8 92],[AV.int .u8 110]]=bytesOf (acc++[92,110]):=zc0 acc 92 110
  have ep:[92,110]=ZD 10 ((s.drop i).take k):=by unfold ZD;rw[if_neg (by decide),if_pos rfl]
  simp(disch:=first|omega|assumption) only[go_sem]
  refine zx (by rw[hal];exact hs1) (by simp only[hal,Al2,Al3];omega) (by simp only[hal,Al2,Al3,maxLen];omega) fun o3 H3 hs3=>?_
  simp(disch:=first|omega|assumption) only[e3,hmax1,wk,go_sem]
  exact goJ (step o3 H3 _ ep (by simpa[hal] using hs3.own)) (by simp(disch:=first|omega|assumption) only[go_sem])
 have g10:¬ ((c:Int)=10):=by omega
 by_cases c3:c<32∨65536≤c
 ·have hus:=hone.2.2
  have hvt:=hone.1
  have htl:=hone.2.1
  have hlim:((s.drop i).take k).length≤Lim:=by rw[htl];simp only[Lim];omega
  have loop:∀(ρ:Env) (us:List Nat),us=(if 65536≤c then [55296+(c-65536) / 1024,56320+(c-65536) % 1024] else [c])→(∀ u∈us,u<65536)∧us.flatMap Zr=ZD c ((s.drop i).take k):=fun ρ us hu=>by
   subst hu
   by_cases h6:65536≤c
   ·rw[if_pos h6]
    refine⟨fun u hu=>by simp at hu;omega,?_⟩
    unfold ZD;rw[if_neg c1,if_neg c2,if_neg (by omega),if_pos h6];simp
   ·rw[if_neg h6]
    refine⟨fun u hu=>by simp at hu;omega,?_⟩
    unfold ZD;rw[if_neg c1,if_neg c2,if_pos (by omega)];simp
  obtain⟨us,hus2⟩:∃ us,us=(if 65536≤c then [55296+(c-65536) / 1024,56320+(c-65536) % 1024] else [c]):=⟨_,rfl⟩
  rw[← hus2] at hus
  obtain⟨hu1,hu2⟩:=loop (fun _=>.any) us hus2
  have hul:us.length≤2:=by rw[hus2];split<;>simp
  have hcl:=zkg us
  by_cases c4:c<32
  case' pos =>
   have g32:((c:Int)<32)=True:=eq_true (by omega)
   simp(disch:=first|omega|assumption) only[g34,g92,g10,g32,wk,hle2,hle3,hsub,go_sem]
  case' neg =>
   have g32:¬ ((c:Int)<32):=by omega
   have g6:((65536:Int)≤c)=True:=eq_true (by omega)
   simp(disch:=first|omega|assumption) only[g34,g92,g10,g32,g6,wk,hle2,hle3,hsub,go_sem]
  all_goals
   refine zb (zvF _ hvt hlim) ?_
   rw[hus]
   simp(disch:=first|omega|assumption) only[hcl,go_sem]
   refine zG us 67 (fun x:Own×List UInt8=>[(3,.sl x.1 1 (bytesOf x.2))]) (fun done rest x H'=>x.2++rest.flatMap Zr=acc++ZD c ((s.drop i).take k)∧x.2.length≤acc.length+6*done.length∧yh H' x.1 x.2.length 1) (o,acc) (by simp(disch:=first|omega|assumption) only[go_sem]) ⟨by simp only;rw[hu2],by simp,hs1⟩ ?_ ?_
   ·rintro⟨o2,a⟩ H2 J2 ⟨hn,hle,hs2⟩ hlt
    simp only[List.flatMap_nil,List.append_nil] at hn hle hs2
    simp(disch:=first|omega|assumption) only[hcl,hlt,hmax1,wk,go_sem]
    subst hn
    exact goJ (step o2 H2 _ rfl hs2) (by simp(disch:=first|omega|assumption) only[go_sem])
   ·rintro done x rest ⟨o2,a⟩ H2 J2 hdn hlt hlt2 ⟨hn,hle,hs2⟩ hJ2
    simp only[List.flatMap_cons] at hn hle hs2
    have hg:(cU us).getD done.length []=[AV.int .i64 (x:Int)]:=Zz hdn
    simp(disch:=first|omega|assumption) only[hcl,hlt,hg,go_sem]
    refine ZB (zuZ x (hu1 x (by rw[hdn];simp)) a _ o2 hs2 (by simp only[Lim];omega)) fun o3 H3 hs3=>?_
    rw[yd] at hs3
    simp(disch:=first|omega|assumption) only[wrap64,go_sem]
    exact goJ (hJ2 (o3,a++Zr x) H3 ⟨by rw[← hn];simp,by simp only[Al5,zdF,Al2,Al3];omega,hs3.own⟩) (by simp(disch:=first|omega|assumption) only[go_sem])
 ·have g32:¬ ((c:Int)<32):=by omega
  have g6:¬ ((65536:Int)≤c):=by omega
  have ep:(s.drop i).take k=ZD c ((s.drop i).take k):=by unfold ZD;rw[if_neg c1,if_neg c2,if_neg (by omega),if_neg (by omega)]
  have htl:=hone.2.1
  have hbl:=yd ((s.drop i).take k)
  simp(disch:=first|omega|assumption) only[g34,g92,g10,g32,g6,wk,hle2,hle3,hsub,go_sem]
  refine zx (by rw[hal];exact hs1) (by rw[hal,hbl,htl];omega) (by rw[hal,hbl,htl];simp only[maxLen];omega) fun o3 H3 hs3=>?_
  simp(disch:=first|omega|assumption) only[ZO,y1,hmax1,wk,go_sem]
  exact goJ (step o3 H3 _ ep (by have:=hs3.own;rw[hal,hbl] at this;simpa using this)) (by simp(disch:=first|omega|assumption) only[go_sem])
theorem zkj {P:UInt8→Bool} (h:(List.range 256).all (fun n=>P (UInt8.ofNat n))=true) (c:UInt8):P c=true:=by
 have h1:=Zk.1 h c.toNat (List.mem_range.2 (UInt8.toNat_lt c))
 simpa using h1
def zbO (c:UInt8):Bool:=decide (0≤Lib.indexByte zci c)
def spB (c:UInt8):Bool:=decide (c=9∨c=10∨c=13∨c=32∨c=44)||decide (c=239)||decide (c=35)
theorem zhJ (c:UInt8):(!zbO c||(!(decide (c=34))&&(!(decide (c=46))&&(!(isL c)&&(!(isD c)&&(!(decide (c=45))&&(!(spB c)&&decide (32≤c.toNat∧c.toNat<128))))))))=true:=zkj (P:=fun c=>(!zbO c||(!(decide (c=34))&&(!(decide (c=46))&&(!(isL c)&&(!(isD c)&&(!(decide (c=45))&&(!(spB c)&&decide (32≤c.toNat∧c.toNat<128))))))))) (by decide +kernel) c
theorem zmx (c:UInt8):(!isL c||(!(decide (c=34))&&(!(decide (c=46))&&(!(zbO c)&&(!(isD c)&&(!(decide (c=45))&&(!(spB c)&&decide (32≤c.toNat∧c.toNat<128))))))))=true:=zkj (P:=fun c=>(!isL c||(!(decide (c=34))&&(!(decide (c=46))&&(!(zbO c)&&(!(isD c)&&(!(decide (c=45))&&(!(spB c)&&decide (32≤c.toNat∧c.toNat<128))))))))) (by decide +kernel) c
theorem zi3 (c:UInt8):(!(isD c||decide (c=45))||(!(decide (c=34))&&(!(decide (c=46))&&(!(zbO c)&&(!(isL c)&&(!(spB c)&&decide (32≤c.toNat∧c.toNat<128)))))))=true:=zkj (P:=fun c=>(!(isD c||decide (c=45))||(!(decide (c=34))&&(!(decide (c=46))&&(!(zbO c)&&(!(isL c)&&(!(spB c)&&decide (32≤c.toNat∧c.toNat<128)))))))) (by decide +kernel) c
theorem zfN {c:UInt8} (h:c≠34) (r:List UInt8):yx.isPrefixOf (c::r)=false:=by
 simp[yx,List.isPrefixOf];intro h2;exact absurd h2.symm h
theorem zhD {c:UInt8} (h:c≠46) (r:List UInt8):Z4.isPrefixOf (c::r)=false:=by
 simp[Z4,List.isPrefixOf];intro h2;exact absurd h2.symm h
theorem ztu {c:UInt8} (h:c≠239) (r:List UInt8):ziy.isPrefixOf (c::r)=false:=by
 simp[ziy,List.isPrefixOf];intro h2;exact absurd h2.symm h
theorem zky {c:UInt8} (h:spB c=false) (r:List UInt8):Yl (c::r)=0:=by
 simp only[spB,Bool.or_eq_false_iff,decide_eq_false_iff_not] at h
 simp only[Yl]
 rw[if_neg h.1.1,ztu h.1.2,if_neg h.2];simp
theorem zrM {r:List UInt8} (h:zfL r):(r.head?.any fun d=>isL d||isD d||decide (d=46))=false:=by
 rcases h with rfl|⟨c,t,rfl,rfl|rfl⟩
 ·rfl
 all_goals simp[isL,isD]
theorem zi0 {p:UInt8→Bool} {r:List UInt8} (h10:p 10=false) (h32:p 32=false) (h:zfL r):∀ s:List UInt8,(s++r).takeWhile p=s.takeWhile p
 | []=>by
  rcases h with rfl|⟨c,t,rfl,rfl|rfl⟩
  ·rfl
  ·simp[h32]
  ·simp[h10]
 | c::s=>by
  simp only[Al6,List.takeWhile_cons]
  split
  ·rw[zi0 h10 h32 h s]
  ·rfl
theorem zfV {p:UInt8→Bool}:∀ s:List UInt8,(∀ c∈s,p c=true)→s.takeWhile p=s
 | [],_=>rfl
 | c::s,h=>by
  simp only[List.takeWhile_cons,h c (.head _),if_true]
  rw[zfV s fun d hd=>h d (.tail _ hd)]
theorem zi5 (s:List UInt8) {r:List UInt8} (h:zfL r):y7 (s++r)=y7 s:=by
 unfold y7;rw[zi0 (by decide) (by decide) h s]
theorem zfP:∀(s:List UInt8) (i:Nat),zbQ s i=true→∀ c∈s,(isL c||isD c)=true
 | [],_,_=>fun c hc=>nomatch hc
 | c::r,i,h=>by
  simp only[zbQ] at h
  split at h
  ·rename_i h1
   have h2:=zfP r (i+1) h
   intro d hd
   rcases List.mem_cons.1 hd with rfl|hd
   ·simp only[Z0,Al0] at h1 ⊢
    exact h1.imp id fun x=>x.2
   ·exact h2 d hd
  ·cases h
theorem zph {c:UInt8} {r:List UInt8} (h:zZ (c::r)=true):isL c=true∧∀ d∈c::r,(isL d||isD d)=true:=by
 simp only[zZ,Al0] at h
 refine⟨?_,zfP _ _ h.1⟩
 have:=h.1
 simp only[zbQ] at this
 split at this
 ·rename_i h1;simpa using h1
 ·cases this
theorem zld {c:UInt8} (h:isL c=true) (r:List UInt8):Zv (c::r)=some (⟨2,(c::r).take (y7 (c::r))⟩,(c::r).drop (y7 (c::r))):=by
 have h1:=zmx c
 simp only[h,Bool.not_true,Bool.false_or,Al0,Bool.not_eq_true',decide_eq_false_iff_not,zL] at h1
 obtain⟨a1,a2,a3,_⟩:=h1
 simp only[zbO,decide_eq_false_iff_not] at a3
 simp only[Zv]
 rw[zfN a1,zhD a2,if_neg a1,if_neg a3,if_pos h];simp
theorem znQ {c:UInt8} (h:isL c=true) (r:List UInt8):Yl (c::r)=0:=by
 have h1:=zmx c
 simp only[h,Bool.not_true,Bool.false_or,Al0,Bool.not_eq_true'] at h1
 exact zky h1.2.2.2.2.2.1 r
theorem zmO {c:UInt8} (h:(isD c||decide (c=45))=true) (r:List UInt8):Zv (c::r)=(if (yB (c::r)).1=0 then none
  else if ((c::r).drop (yB (c::r)).1).head?.any fun d=>isL d||isD d||decide (d=46) then none
  else some (⟨(yB (c::r)).2,(c::r).take (yB (c::r)).1⟩,(c::r).drop (yB (c::r)).1)):=by
 have h1:=zi3 c
 simp only[h,Bool.not_true,Bool.false_or,Al0,Bool.not_eq_true',decide_eq_false_iff_not,zL] at h1
 obtain⟨a1,a2,a3,a4,_⟩:=h1
 simp only[zbO,decide_eq_false_iff_not] at a3
 simp only[Zv]
 rw[zfN a1,zhD a2,if_neg a1,if_neg a3,a4];simp
theorem znA {c:UInt8} (h:(isD c||decide (c=45))=true) (r:List UInt8):Yl (c::r)=0:=by
 have h1:=zi3 c
 simp only[h,Bool.not_true,Bool.false_or,Al0,Bool.not_eq_true'] at h1
 exact zky h1.2.2.2.2.1 r
theorem zmP {c:UInt8} {r:List UInt8} (h:zU (c::r)≠0):(isD c||decide (c=45))=true:=by
 by_cases hc:c=45
 ·simp[hc]
 ·rw[ZZ (s:=c::r) (by simp[hc])] at h
  unfold Ym at h
  have h2:yi (c::r)≠0:=fun e=>h (by rw[if_pos e])
  simp only[yi] at h2
  split at h2
  ·rename_i h3;simp[h3]
  ·exact absurd rfl h2
theorem zjl {s:List UInt8} (h:(yB s).1≠0):zU s≠0:=fun e=>h (by unfold yB;rw[if_pos e])
theorem zrW {s:List UInt8} (h:(yB s).1≠0):(yB s).2=3∨(yB s).2=4:=by
 have hw:=zjl h
 unfold yB
 rw[if_neg hw]
 simp only
 split<;>simp
theorem znd {l:List UInt8} {c k:Nat} (h:DecOk l c k) (hc:c=(zJ l).1):∀ t,(ZD c (l.take k)++t).head?≠some 34∧ZD c (l.take k)≠[]:=by
 intro t
 have hpos:=h.pos
 have hlen:=h.len
 unfold ZD
 repeat' split
 ·simp
 ·simp
 ·simp[Zr]
 ·simp[Zr]
 ·rename_i h1 h2 h3 h4
  cases l with
  | nil=>simp at hlen;omega
  | cons b r =>
   obtain⟨m,rfl⟩:∃ m,k=m+1:=⟨k-1,by omega⟩
   simp only[zbV,Al6,List.head?_cons,ne_eq,Al1]
   refine⟨fun e=>?_,by simp⟩
   subst e
   by_cases hk:m+1=1
   ·have:=(h.one hk).1
    simp at this
    omega
   ·have:=h.high hk 34 (by simp)
    simp at this
theorem znj {s:List UInt8} (hv:validD s=true) (hne:s≠[]) (n:Nat) (hn:s.length≤n) (t:List UInt8):(Zt n s++t).head?≠some 34:=by
 cases n with
 | zero=>exact absurd (zap.1 (by omega)) hne
 | succ n =>
  simp only[Zt,if_neg hne,ZJ]
  exact(znd (zaj hne hv).1 rfl _).1
theorem zpf (s r:List UInt8) (hv:validD s=true) (hr:zfL r):yx.isPrefixOf (34::(Zt s.length s++34::r))=false:=by
 by_cases hs:s=[]
 ·subst hs
  simp only[Zt,Zg,Al3]
  rcases hr with rfl|⟨c,t,rfl,rfl|rfl⟩<;>simp[yx,List.isPrefixOf]
 ·have h:=znj hv hs s.length (Al4 _) (34::r)
  cases hx:Zt s.length s++34::r with
  | nil=>simp[yx,List.isPrefixOf]
  | cons c t =>
   rw[hx] at h
   simp only[List.head?_cons,ne_eq,Al1] at h
   simp[yx,List.isPrefixOf]
   intro e
   exact absurd e.symm h
theorem zlU (x:Tok) (hx:zv x=true) {r:List UInt8} (hr:zfL r):Zv (zas x++r)=some (x,r)∧Yl (zas x++r)=0∧zas x≠[]:=by
 obtain⟨k,s⟩:=x
 unfold zv at hx
 simp only at hx
 by_cases h1:k=1
 ·subst h1
  simp only[if_true,Z0,zL] at hx
  simp only[zas,show ¬ ((1:Int)=5) by decide,if_false]
  rcases hx with rfl|hx
  ·refine⟨?_,?_,by simp[Z4]⟩
   ·simp[Z4,Zv,yx,List.isPrefixOf]
   ·simp[Z4,Yl,ziy,List.isPrefixOf]
  ·cases s with
   | nil=>cases hx
   | cons c t =>
    cases t with
    | cons d t=>cases hx
    | nil =>
     have h1:=zhJ c
     have hm:zbO c=true:=hx
     simp only[hm,Bool.not_true,Bool.false_or,Al0,Bool.not_eq_true',decide_eq_false_iff_not,zL] at h1
     obtain⟨a1,a2,a3,a4,a5,a6,_⟩:=h1
     simp only[zbO,zL] at hm
     refine⟨?_,?_,by simp⟩
     ·simp only[Al6,Zg,Zv]
      rw[zfN a1,zhD a2,if_neg a1,if_pos hm];simp
     ·exact zky a6 r
 rw[if_neg h1] at hx
 by_cases h2:k=2
 ·subst h2
  simp only[if_true] at hx
  simp only[zas,show ¬ ((2:Int)=5) by decide,if_false]
  cases s with
  | nil=>simp[zZ,zbQ] at hx
  | cons c t =>
   obtain⟨g1,g2⟩:=zph hx
   have hw:y7 (c::t++r)=(c::t).length:=by rw[zi5 (c::t) hr];unfold y7;rw[zfV _ g2]
   refine⟨?_,znQ g1 _,by simp⟩
   rw[Al6,zld g1,← Al6,hw,List.take_left,List.drop_left]
 rw[if_neg h2] at hx
 by_cases h3:k=3∨k=4
 ·rw[if_pos h3] at hx
  simp only[zL] at hx
  have hk5:¬ (k=5):=by omega
  simp only[zas,hk5,if_false]
  unfold Z1 at hx
  split at hx
  case isFalse=>omega
  rename_i hl
  cases s with
  | nil =>
   have:yB []=(0,0):=rfl
   rw[this] at hx;simp only at hx;omega
  | cons c t =>
   have hn0:(yB (c::t)).1≠0:=by rw[hl];simp
   have hw:=zjl hn0
   have hd:=zmP hw
   refine⟨?_,znA hd _,by simp⟩
   rw[Al6,zmO hd,← Al6,zlM hr,if_neg hn0,hl,List.drop_left,zrM hr,List.take_left,hx];simp
 rw[if_neg h3] at hx
 by_cases h5:k=5
 ·subst h5
  simp only[if_true] at hx
  simp only[zas,if_true,zkb,Al6,ZJ,Zg]
  refine⟨?_,by simp[Yl,ziy,List.isPrefixOf],by simp⟩
  simp only[Zv]
  rw[zpf s r hx hr]
  simp only[Al7,if_false,if_true]
  rw[zpL s r hx];rfl
 ·rw[if_neg h5] at hx;cases hx
theorem zim (x y:Tok) (L:List Tok):ZT (x::y::L)=zas x++32::ZT (y::L):=by simp[ZT,Lib.join]
theorem zjo (x:Tok):ZT [x]=zas x:=by simp[ZT,Lib.join]
theorem zih:∀(L:List Tok),L.all zv=true→∀(n:Nat) (l:List Tok),(ZT L).length<n→Z5 n l (ZT L)=.ok (l++L)
 | [],_,n,l,hn=>by
  cases n with
  | zero=>omega
  | succ n=>simp[ZT,Lib.join,Z5]
 | [x],h,n,l,hn=>by
  simp only[List.all_cons,List.all_nil,Bool.and_true] at h
  obtain⟨g1,g2,g3⟩:=zlU x h (r:=[]) (.inl rfl)
  rw[List.append_nil] at g1 g2
  rw[zjo] at hn ⊢
  have hl:0<(zas x).length:=List.length_pos_iff.2 g3
  obtain⟨m,rfl⟩:∃ m,n=m+2:=⟨n-2,by omega⟩
  rw[Z5,if_neg g3,if_neg (by rw[g2];simp),g1]
  simp[Z5]
 | x::y::L,h,n,l,hn=>by
  have h':=h
  rw[List.all_cons,Al0] at h'
  obtain⟨g1,g2,g3⟩:=zlU x h'.1 (r:=32::ZT (y::L)) (.inr ⟨32,_,rfl,.inl rfl⟩)
  rw[zim] at hn ⊢
  have hl:0<(zas x).length:=List.length_pos_iff.2 g3
  simp only[Al5,Al2] at hn
  obtain⟨m,rfl⟩:∃ m,n=m+2:=⟨n-2,by omega⟩
  rw[Z5,if_neg (by simp[g3]),if_neg (by rw[g2];simp),g1]
  simp only
  rw[Z5,if_neg (by simp),if_pos (by simp[Yl])]
  have e1:(32::ZT (y::L)).drop (Yl (32::ZT (y::L)))=ZT (y::L):=by simp[Yl]
  rw[e1,zih (y::L) h'.2 m (l++[x]) (by omega)]
  simp
theorem zjI:∀(n m:Nat) (l:List UInt8),l.length≤n→l.length≤m→zlO n l=zlO m l
 | 0,m,l,h,_=>by
  obtain rfl:l=[]:=zap.1 (by omega)
  cases m<;>simp[zlO]
 | n+1,0,l,_,h=>by
  obtain rfl:l=[]:=zap.1 (by omega)
  simp[zlO]
 | n+1,m+1,l,h1,h2=>by
  simp only[zlO]
  split
  ·rfl
  ·by_cases hp:0<(zJ l).2
   ·rw[zjI n m (l.drop (zJ l).2) (by simp;omega) (by simp;omega)]
   ·simp[hp]
theorem zdI {l:List UInt8} (hne:l≠[]):zeR l=(decide (0<(zJ l).2)&&(zbt (zJ l).1&&zeR (l.drop (zJ l).2))):=by
 unfold zeR
 have hl:0<l.length:=List.length_pos_iff.2 hne
 obtain⟨m,hm⟩:∃ m,l.length=m+1:=⟨l.length-1,by omega⟩
 rw[hm,zlO,if_neg hne]
 by_cases hp:0<(zJ l).2
 ·rw[zjI m (l.drop (zJ l).2).length (l.drop (zJ l).2) (by simp;omega) (Al4 _)]
 ·simp[hp]
theorem zlF:zeR []=true:=rfl
def Zl (a:List UInt8):Prop:=∀ t,zeR t=true→zeR (a++t)=true
theorem Zl.nil:Zl []:=fun t h=>h
theorem Zl.app {a b:List UInt8} (ha:Zl a) (hb:Zl b):Zl (a++b):=fun t h=>by rw[ZJ];exact ha _ (hb _ h)
theorem Zl.here {a:List UInt8} (ha:Zl a):zeR a=true:=by have:=ha [] zlF;simpa using this
theorem Zl.ascii {b:UInt8} (h:b.toNat<128) (hs:zbt b.toNat=true):Zl [b]:=fun t ht=>by
 rw[zdI (by simp)]
 simp only[List.singleton_append,zmf b t h,hs,List.drop_succ_cons,List.drop_zero,ht]
 rfl
theorem Zl.asciis:∀ s:List UInt8,(∀ b∈s,32≤b.toNat∧b.toNat<128)→Zl s
 | [],_=>.nil
 | b::s,h=>by
  have h1:=h b (.head _)
  exact Zl.app (a:=[b]) (.ascii h1.2 (by simp[zbt];omega)) (Zl.asciis s fun c hc=>h c (.tail _ hc))
theorem Zl.code {l:List UInt8} (hne:l≠[]) (h:(zJ l).2≠0) (hk:(zJ l).2≤l.length) (hs:zbt (zJ l).1=true):Zl (l.take (zJ l).2):=fun t ht=>by
 have hp:=zeq hne h t
 have hl:(l.take (zJ l).2).length=(zJ l).2:=by simp;omega
 rw[zdI (by intro e;have:=congrArg List.length e;rw[Al5,hl] at this;simp at this;omega),hp,hs]
 rw[List.drop_left' hl,ht]
 simp;omega
theorem znm (n:Nat):32≤(hexL.getD (n % 16) 0).toNat∧(hexL.getD (n % 16) 0).toNat<128:=by
 have:∀ x:Fin 16,32≤(hexL.getD x.val 0).toNat∧(hexL.getD x.val 0).toNat<128:=by decide +kernel
 exact this ⟨n % 16,Nat.mod_lt _ (by decide)⟩
theorem Zl.unit (u:Nat):Zl (Zr u):=Zl.asciis _ fun b hb=>by
 simp only[Zr,List.mem_cons,List.not_mem_nil,or_false] at hb
 rcases hb with rfl|rfl|rfl|rfl|rfl|rfl
 ·decide
 ·decide
 all_goals exact znm _
theorem Zl.quo:∀(n:Nat) (l:List UInt8),l.length≤n→validD l=true→Zl (Zt n l)
 | 0,l,_,_=>.nil
 | n+1,l,hn,hv=>by
  rw[Zt]
  by_cases hne:l=[]
  ·subst hne;exact .nil
  ·rw[if_neg hne]
   obtain⟨hd,hv2⟩:=zaj hne hv
   have hpos:=hd.pos
   refine Zl.app ?_ (Zl.quo n _ (by simp;omega) hv2)
   unfold ZD
   by_cases h1:(zJ l).1=34∨(zJ l).1=92
   ·rw[if_pos h1]
    refine Zl.asciis _ fun b hb=>?_
    simp only[List.mem_cons,List.not_mem_nil,or_false] at hb
    rcases hb with rfl|rfl
    ·decide
    ·rcases h1 with h1|h1<;>rw[h1]<;>decide
   rw[if_neg h1]
   by_cases h2:(zJ l).1=10
   ·rw[if_pos h2]
    exact Zl.asciis _ fun b hb=>by
     simp only[List.mem_cons,List.not_mem_nil,or_false] at hb
     rcases hb with rfl|rfl<;>decide
   rw[if_neg h2]
   by_cases h3:(zJ l).1<32
   ·rw[if_pos h3];exact .unit _
   rw[if_neg h3]
   by_cases h4:65536≤(zJ l).1
   ·rw[if_pos h4];exact Zl.app (.unit _) (.unit _)
   ·rw[if_neg h4]
    exact Zl.code hne (by omega) hd.len (by simp[zbt];omega)
theorem zpF (c:UInt8):nch c=true→32≤c.toNat∧c.toNat<128:=zeH (P:=fun c=>nch c=true→32≤c.toNat∧c.toNat<128) (by decide +kernel) c
theorem zjb {s:List UInt8} (h:Z1 s≠0):∀ b∈s,32≤b.toNat∧b.toNat<128:=fun b hb=>zpF b ((zbK h).1 b hb)
theorem Zl.tok (x:Tok) (hx:zv x=true):Zl (zas x):=by
 obtain⟨k,s⟩:=x
 unfold zv at hx
 simp only at hx
 by_cases h1:k=1
 ·subst h1
  simp only[if_true,Z0,zL] at hx
  simp only[zas,show ¬ ((1:Int)=5) by decide,if_false]
  rcases hx with rfl|hx
  ·exact Zl.asciis _ (by decide)
  ·cases s with
   | nil=>cases hx
   | cons c t =>
    cases t with
    | cons d t=>cases hx
    | nil =>
     have h1:=zhJ c
     have hm:zbO c=true:=hx
     simp only[hm,Bool.not_true,Bool.false_or,Al0,Bool.not_eq_true',decide_eq_false_iff_not,zL] at h1
     exact Zl.asciis _ fun b hb=>by simp only[List.mem_singleton] at hb;subst hb;exact h1.2.2.2.2.2.2
 rw[if_neg h1] at hx
 by_cases h2:k=2
 ·subst h2
  simp only[if_true] at hx
  simp only[zas,show ¬ ((2:Int)=5) by decide,if_false]
  simp only[zZ,Al0] at hx
  have:=zfP _ _ hx.1
  refine Zl.asciis _ fun b hb=>?_
  have hb2:=this b hb
  simp only[Z0] at hb2
  simp only[isL,isD,Z0,Al0,zL] at hb2
  omega
 rw[if_neg h2] at hx
 by_cases h3:k=3∨k=4
 ·rw[if_pos h3] at hx
  have hk5:¬ (k=5):=by omega
  simp only[zas,hk5,if_false]
  simp only[zL] at hx
  exact Zl.asciis _ (zjb (by omega))
 rw[if_neg h3] at hx
 by_cases h5:k=5
 ·subst h5
  simp only[if_true] at hx
  simp only[zas,if_true,zkb]
  have h34:Zl [34]:=Zl.asciis _ (by decide)
  exact Zl.app (a:=[34]) h34 (Zl.app (Zl.quo _ _ (Al4 _) hx) h34)
 ·rw[if_neg h5] at hx;cases hx
theorem Zl.join:∀ L:List Tok,L.all zv=true→Zl (ZT L)
 | [],_=>.nil
 | [x],h=>by rw[zjo];exact .tok x (by simpa using h)
 | x::y::L,h=>by
  rw[List.all_cons,Al0] at h
  rw[zim]
  exact Zl.app (.tok x h.1) (Zl.app (a:=[32]) (Zl.asciis _ (by decide)) (Zl.join (y::L) h.2))
theorem zm0 (L:List Tok) (h:L.all zv=true) (hl:(ZT L).length≤8192):Ye (ZT L)=.ok L:=by
 unfold Ye
 rw[if_neg (by omega),(Zl.join L h).here,if_pos rfl,zih L h _ _ (by omega)]
 simp
theorem zby:∀(p s t:List UInt8),(∀ x∈p,x≠10)→p.isPrefixOf (s++10::t)=p.isPrefixOf s
 | [],s,t,_=>by cases s<;>simp
 | x::p,[],t,h=>by
  have h1:=h x (.head _)
  simp[List.isPrefixOf,h1]
 | x::p,c::s,t,h=>by
  simp only[Al6,List.isPrefixOf]
  rw[zby p s t fun y hy=>h y (.tail _ hy)]
theorem Yn:∀(p s:List UInt8),p.isPrefixOf s=true→p.length≤s.length
 | [],s,_=>Nat.zero_le _
 | x::p,[],h=>by simp[List.isPrefixOf] at h
 | x::p,c::s,h=>by
  simp only[List.isPrefixOf,Al0] at h
  have:=Yn p s h.2
  simp only[Al2];omega
theorem zul (t:List UInt8):zfL (10::t):=.inr ⟨10,t,rfl,.inr rfl⟩
theorem zhM:∀(n:Nat) (raw s:List UInt8) (b s':List UInt8),Z6 n raw s=some (b,s')→s'.length<s.length∧∀(m:Nat) (t:List UInt8),n≤m→Z6 m raw (s++10::t)=some (b,s'++10::t)
 | 0,_,_,_,_,h=>by cases h
 | n+1,raw,[],_,_,h=>by simp[Z6] at h
 | n+1,raw,c::r,b,s',h=>by
  simp only[Z6] at h
  by_cases h1:yx.isPrefixOf (c::r)=true
  ·rw[if_pos h1] at h
   have hl:=Yn _ _ h1
   simp only[yx,Al2,Al3] at hl
   simp only[Al1,Al8] at h
   obtain⟨rfl,rfl⟩:=h
   refine⟨by simp;omega,fun m t hm=>?_⟩
   obtain⟨k,rfl⟩:∃ k,m=k+1:=⟨m-1,by omega⟩
   have e:=zby yx (c::r) t (by decide)
   rw[Al6] at e
   simp only[Z6,Al6]
   rw[e,if_pos h1,zf9 (by omega)]
  ·rw[if_neg h1] at h
   by_cases h2:zkc.isPrefixOf (c::r)=true
   ·rw[if_pos h2] at h
    have hl:=Yn _ _ h2
    simp only[zkc,Al2,Al3] at hl
    obtain⟨g1,g2⟩:=zhM n _ _ _ _ h
    refine⟨by simp at g1 ⊢;omega,fun m t hm=>?_⟩
    obtain⟨k,rfl⟩:∃ k,m=k+1:=⟨m-1,by omega⟩
    have e:=zby yx (c::r) t (by decide)
    have e2:=zby zkc (c::r) t (by decide)
    rw[Al6] at e e2
    simp only[Z6,Al6]
    rw[e,if_neg h1,e2,if_pos h2,zf9 (by omega)]
    exact g2 k t (by omega)
   ·rw[if_neg h2] at h
    obtain⟨g1,g2⟩:=zhM n _ _ _ _ h
    refine⟨by simp;omega,fun m t hm=>?_⟩
    obtain⟨k,rfl⟩:∃ k,m=k+1:=⟨m-1,by omega⟩
    have e:=zby yx (c::r) t (by decide)
    have e2:=zby zkc (c::r) t (by decide)
    rw[Al6] at e e2
    simp only[Z6,Al6]
    rw[e,if_neg h1,e2,if_neg h2]
    exact g2 k t (by omega)
theorem zjp:∀(n:Nat) (s:List UInt8) (u v:Nat) (t:List UInt8),YL n s u=some v→n≤s.length∧YL n (s++t) u=some v
 | 0,s,u,v,t,h=>by
  simp only[YL] at h ⊢
  exact⟨Nat.zero_le _,h⟩
 | n+1,[],u,v,t,h=>by simp[YL] at h
 | n+1,c::s,u,v,t,h=>by
  simp only[YL,Al6] at h ⊢
  cases hx:hexD c with
  | none=>rw[hx] at h;cases h
  | some k =>
   rw[hx] at h
   simp only at h ⊢
   have:=zjp n s _ v t h
   exact⟨by simp;omega,this.2⟩
theorem zq3 {q q':Sd} {s s':List UInt8} (t:List UInt8) (h:Ys q s=some (q',s')):Ys q (s++t)=some (q',s'++t):=by
 cases s with
 | nil=>cases h
 | cons c r =>
  simp only[Ys,Al6] at h ⊢
  by_cases h1:c=117
  ·rw[if_pos h1] at h ⊢
   cases hu:Y2 r with
   | none=>rw[hu] at h;cases h
   | some u =>
    obtain⟨g1,g2⟩:=zjp 4 r 0 u t hu
    rw[hu] at h
    simp only[yU,Al1,Al8] at h
    obtain⟨rfl,rfl⟩:=h
    rw[Y2,g2]
    simp only[yU,Al1,Al8,true_and]
    exact zf9 g1
  ·rw[if_neg h1] at h ⊢
   split at h
   ·cases h
   ·rename_i h2
    rw[if_neg h2]
    simp only[Al1,Al8] at h ⊢
    obtain⟨rfl,rfl⟩:=h
    exact⟨rfl,rfl⟩
theorem zhf {may:UInt8→Bool} (t:List UInt8):∀(n:Nat) (s:List UInt8) (q q':Sd) (s':List UInt8),YZ may n s q=some (q',s')→∀ m,n≤m→YZ may m (s++t) q=some (q',s'++t)
 | 0,_,_,_,_,h=>by cases h
 | n+1,[],_,_,_,h=>by cases h
 | n+1,c::s,q,q',s',h=>fun m hm=>by
  obtain⟨k,rfl⟩:∃ k,m=k+1:=⟨m-1,by omega⟩
  simp only[YZ,Al6] at h ⊢
  by_cases h1:c=34
  ·rw[if_pos h1] at h ⊢
   simp only[Al1,Al8] at h ⊢
   exact⟨h.1,by rw[h.2]⟩
  rw[if_neg h1] at h ⊢
  by_cases h2:c=92
  ·rw[if_pos h2] at h ⊢
   cases he:Ys q s with
   | none=>rw[he] at h;cases h
   | some x =>
    rw[he] at h
    rw[zq3 t (q':=x.1) (s':=x.2) he]
    exact zhf t n _ _ _ _ h k (by omega)
  rw[if_neg h2] at h ⊢
  split at h
  ·rename_i h3
   rw[if_pos h3]
   exact zhf t n _ _ _ _ h k (by omega)
  ·cases h
theorem zr4 {may:UInt8→Bool} {s s' b:List UInt8} (t:List UInt8) (h:YJ may s=some (b,s')):YJ may (s++t)=some (b,s'++t):=by
 unfold YJ at h ⊢
 cases hq:YZ may (s.length+1) s ⟨[],[],true⟩ with
 | none=>rw[hq] at h;cases h
 | some x =>
  rw[hq] at h
  rw[zhf t _ _ _ x.1 x.2 hq _ (by simp)]
  simp only at h ⊢
  split at h
  ·rename_i h1
   simp only[Al1,Al8] at h
   rw[if_pos h1]
   simp[h.1,h.2]
  ·cases h
theorem zhi (s:List UInt8):y7 s≤s.length:=by unfold y7;exact(List.takeWhile_sublist _).length_le
theorem ze7 (s:List UInt8):(yB s).1≤s.length:=by
 unfold yB
 split
 ·simp
 ·have h1:=zfC s
  have h2:=zlE (s.drop (zU s))
  have h3:=zkm (s.drop (zU s+Zi (s.drop (zU s))))
  simp only[Yv] at h2 h3
  simp only;omega
theorem zrt {s s':List UInt8} {x:Tok} (h:Zv s=some (x,s')) (t:List UInt8):s'.length<s.length∧Zv (s++10::t)=some (x,s'++10::t):=by
 cases s with
 | nil=>cases h
 | cons c r =>
  have e3:=zby yx (c::r) t (by decide)
  have ed:=zby Z4 (c::r) t (by decide)
  rw[Al6] at e3 ed
  have hw:=zi5 (c::r) (zul t)
  have hn:=zlM (a:=c::r) (zul t)
  simp only[Zv] at h
  simp only[Zv,Al6]
  rw[e3,ed]
  by_cases h1:yx.isPrefixOf (c::r)=true
  ·rw[if_pos h1] at h ⊢
   have hl:=Yn _ _ h1
   simp only[yx,Al2,Al3] at hl
   cases hr:Z6 (r.length+1) [] (r.drop 2) with
   | none=>rw[hr] at h;cases h
   | some y =>
    rw[hr] at h
    simp only[yU,Al1,Al8] at h
    obtain⟨rfl,rfl⟩:=h
    obtain⟨g1,g2⟩:=zhM _ _ _ y.1 y.2 hr
    simp only[Yv] at g1
    rw[zf9 (by omega),g2 _ t (by simp)]
    exact⟨by simp only[Al2];omega,rfl⟩
  rw[if_neg h1] at h ⊢
  by_cases h2:c=34
  ·rw[if_pos h2] at h ⊢
   cases hr:YJ Zd r with
   | none=>rw[hr] at h;cases h
   | some y =>
    rw[hr] at h
    simp only[yU,Al1,Al8] at h
    obtain⟨rfl,rfl⟩:=h
    have g1:=zlB (t':=y.2) (b:=y.1) hr
    rw[zr4 (10::t) (b:=y.1) (s':=y.2) hr]
    exact⟨by simp only[Al2];omega,rfl⟩
  rw[if_neg h2] at h ⊢
  by_cases h3:Z4.isPrefixOf (c::r)=true
  ·rw[if_pos h3] at h ⊢
   have hl:=Yn _ _ h3
   simp only[Z4,Al2,Al3] at hl
   simp only[Al1,Al8] at h ⊢
   obtain⟨rfl,rfl⟩:=h
   exact⟨by simp;omega,rfl,zf9 (by omega)⟩
  rw[if_neg h3] at h ⊢
  by_cases h4:0≤Lib.indexByte zci c
  ·rw[if_pos h4] at h ⊢
   simp only[Al1,Al8] at h ⊢
   obtain⟨rfl,rfl⟩:=h
   exact⟨by simp,rfl,rfl⟩
  rw[if_neg h4] at h ⊢
  by_cases h5:isL c=true
  ·rw[if_pos h5] at h ⊢
   have hl:=zhi (c::r)
   have hp:0<y7 (c::r):=by unfold y7;simp[h5]
   simp only[Al1,Al8] at h ⊢
   obtain⟨rfl,rfl⟩:=h
   rw[← Al6,hw,List.take_append_of_le_length hl,zf9 hl]
   exact⟨by rw[Yv];simp only[Al2] at hl ⊢;omega,rfl,rfl⟩
  rw[if_neg h5] at h ⊢
  rw[← Al6,hn]
  by_cases h6:(yB (c::r)).1=0
  ·rw[if_pos h6] at h;cases h
  rw[if_neg h6] at h ⊢
  have hl:=ze7 (c::r)
  rw[List.take_append_of_le_length hl,zf9 hl]
  have hh:(((c::r).drop (yB (c::r)).1++10::t).head?.any fun d=>isL d||isD d||decide (d=46))=(((c::r).drop (yB (c::r)).1).head?.any fun d=>isL d||isD d||decide (d=46)):=by
   cases (c::r).drop (yB (c::r)).1 with
   | nil=>simp[isL,isD]
   | cons d t=>rfl
  rw[hh]
  split at h
  ·cases h
  ·rename_i h7
   rw[if_neg h7]
   simp only[Al1,Al8] at h ⊢
   obtain⟨rfl,rfl⟩:=h
   exact⟨by rw[Yv];simp only[Al2] at hl ⊢;omega,rfl,rfl⟩
theorem zj8 (s:List UInt8):Yl s≤s.length:=by
 cases s with
 | nil=>simp[Yl]
 | cons c r =>
  simp only[Yl]
  split
  ·simp
  ·split
   ·rename_i h;have:=Yn _ _ h;simpa[ziy] using this
   ·split
    ·have:=(List.takeWhile_sublist y5 (l:=r)).length_le;simp only[Al2];omega
    ·simp
theorem zeM {s s':List UInt8} {x:Tok} (h:Zv s=some (x,s')):s'.length<s.length:=(zrt h []).1
theorem zcc:∀(n m:Nat) (l:List Tok) (s:List UInt8),s.length<n→s.length<m→Z5 n l s=Z5 m l s
 | 0,_,_,_,h,_=>by omega
 | _,0,_,_,_,h=>by omega
 | n+1,m+1,l,s,h1,h2=>by
  simp only[Z5]
  split
  ·rfl
  ·rename_i hne
   split
   ·rename_i hg
    have hl:0<s.length:=List.length_pos_iff.2 hne
    exact zcc n m _ _ (by rw[Yv];omega) (by rw[Yv];omega)
   ·cases ho:Zv s with
    | none=>rfl
    | some x =>
     have:=zeM (x:=x.1) (s':=x.2) ho
     exact zcc n m _ _ (by omega) (by omega)
theorem zln {s:List UInt8} {l:List Tok} (h:Ye s=.ok l):s.length≤8192∧zeR s=true∧Z5 (s.length+1) [] s=.ok l:=by
 unfold Ye at h
 split at h
 ·cases h
 ·split at h
  ·rename_i h1 h2;exact⟨by omega,h2,h⟩
  ·cases h
theorem zdi:∀(l:List UInt8) (m:Nat),yi (l.take m)=min m (yi l)
 | [],m=>by simp[yi]
 | c::l,0=>by simp[yi]
 | c::l,m+1=>by
  simp only[zbV,yi]
  split
  ·rw[zdi l m];omega
  ·simp
theorem zml (s:List UInt8) (m:Nat) (h:Ym s≤m):Ym (s.take m)=Ym s:=by
 unfold Ym at h ⊢
 rw[zdi]
 by_cases h1:yi s=0
 ·rw[h1];simp
 rw[if_neg h1] at h ⊢
 by_cases h2:s.getD 0 0=48
 ·rw[if_pos h2] at h ⊢
  have e:(s.take m).getD 0 0=s.getD 0 0:=by
   cases s with
   | nil=>simp
   | cons c r=>obtain⟨k,rfl⟩:∃ k,m=k+1:=⟨m-1,by omega⟩;simp
  rw[e,if_pos h2,if_neg (by omega)]
 ·rw[if_neg h2] at h ⊢
  have e:(s.take m).getD 0 0=s.getD 0 0:=by
   cases s with
   | nil=>simp
   | cons c r=>obtain⟨k,rfl⟩:∃ k,m=k+1:=⟨m-1,by omega⟩;simp
  rw[e,if_neg h2,if_neg (by omega)]
  omega
theorem zhp (s:List UInt8) (m:Nat) (h:zU s≤m):zU (s.take m)=zU s:=by
 cases s with
 | nil=>simp
 | cons c r =>
  cases m with
  | zero =>
   have:zU (c::r)=0:=by omega
   rw[this];rfl
  | succ m =>
   by_cases hc:c=45
   ·subst hc
    rw[zbV]
    rw[zab] at h ⊢
    rw[zab,zdi]
    by_cases h1:yi r=0
    ·rw[h1];simp
    ·rw[if_neg h1] at h ⊢
     have h2:Ym r≠0:=by unfold Ym;rw[if_neg h1];split<;>omega
     rw[if_neg (by omega),zml r m (by omega)]
   ·rw[ZZ (s:=c::r) (by simp[hc])] at h ⊢
    rw[ZZ (s:=(c::r).take (m+1)) (by simp[hc]),zml _ _ h]
theorem zef (c:UInt8) (r:List UInt8):Zi (c::r)=if c=46∧0<yi r then 1+yi r else 0:=by simp[Zi]
theorem zpr (s:List UInt8) (m:Nat) (h:Zi s≤m):Zi (s.take m)=Zi s:=by
 cases s with
 | nil=>simp
 | cons c r =>
  cases m with
  | zero =>
   have:Zi (c::r)=0:=by omega
   rw[this];rfl
  | succ m =>
   rw[zbV,zef,zef,zdi]
   rw[zef] at h
   by_cases h1:c=46∧0<yi r
   ·rw[if_pos h1] at h ⊢
    rw[if_pos ⟨h1.1,by omega⟩];omega
   ·rw[if_neg h1]
    rw[if_neg]
    rintro⟨g1,g2⟩
    exact h1 ⟨g1,by omega⟩
theorem zsP (r:List UInt8) (m:Nat) (h:m≠0):sgN (r.take m)=sgN r:=by
 cases r with
 | nil=>simp
 | cons c r =>
  obtain⟨k,rfl⟩:∃ k,m=k+1:=⟨m-1,by omega⟩
  simp[sgN]
theorem zq4 (s:List UInt8) (m:Nat) (h:zaa s≤m):zaa (s.take m)=zaa s:=by
 cases s with
 | nil=>simp
 | cons c r =>
  cases m with
  | zero =>
   have:zaa (c::r)=0:=by omega
   rw[this];rfl
  | succ m =>
   simp only[zbV,zaa] at h ⊢
   by_cases h1:isE c=true
   case neg=>rw[if_neg h1,if_neg h1]
   rw[if_pos h1] at h ⊢
   rw[if_pos h1]
   by_cases hm:m=0
   ·subst hm
    have h2:yi (r.drop (sgN r))=0:=by
     by_cases h2:yi (r.drop (sgN r))=0
     ·exact h2
     ·rw[if_neg h2] at h;omega
    rw[if_pos h2]
    simp[yi]
   ·rw[zsP r m hm,List.drop_take,zdi]
    by_cases h2:yi (r.drop (sgN r))=0
    ·rw[if_pos h2,if_pos (by omega)]
    ·rw[if_neg h2] at h ⊢
     rw[if_neg (by omega)];omega
theorem zlV (s:List UInt8) (m:Nat) (h:(yB s).1≤m):yB (s.take m)=yB s:=by
 by_cases hw:zU s=0
 ·unfold yB
  rw[zhp s m (by omega),if_pos hw,if_pos hw]
 ·have h':=h
  unfold yB at h
  rw[if_neg hw] at h
  simp only at h
  unfold yB
  rw[zhp s m (by omega),if_neg hw,if_neg hw,List.drop_take,List.drop_take,zpr _ _ (by omega),zq4 _ _ (by omega)]
theorem zpJ {s:List UInt8} (h:(yB s).1≠0):zv ⟨(yB s).2,s.take (yB s).1⟩=true:=by
 have h2:=zrW h
 have hl:=ze7 s
 unfold zv
 simp only
 rw[if_neg (by omega),if_neg (by omega),if_pos h2]
 unfold Z1
 rw[zlV s _ (Al4 _),List.length_take,Nat.min_eq_left hl,if_pos rfl]
 simp
theorem zl3:∀(s:List UInt8) (i:Nat),i≠0→(∀ c∈s,(isL c||isD c)=true)→zbQ s i=true
 | [],_,_,_=>rfl
 | c::r,i,hi,h=>by
  have h1:=h c (.head _)
  simp only[zbQ]
  rw[if_pos (by simpa[hi] using h1)]
  exact zl3 r (i+1) (by omega) fun d hd=>h d (.tail _ hd)
theorem zkU {p:UInt8→Bool}:∀(s:List UInt8),∀ c∈s.takeWhile p,p c=true
 | [],c,h=>by simp at h
 | d::s,c,h=>by
  simp only[List.takeWhile_cons] at h
  split at h
  ·rename_i hd
   rcases List.mem_cons.1 h with rfl|h
   ·exact hd
   ·exact zkU s c h
  ·simp at h
theorem ziq (p:UInt8→Bool) (s:List UInt8):s.take (s.takeWhile p).length=s.takeWhile p:=by
 induction s with
 | nil=>rfl
 | cons c s ih =>
  simp only[List.takeWhile_cons]
  split
  ·simp[ih]
  ·rfl
theorem zme {c:UInt8} {r:List UInt8} (h:isL c=true):zv ⟨2,(c::r).take (y7 (c::r))⟩=true:=by
 unfold zv
 simp only
 rw[if_neg (by decide),if_pos trivial]
 unfold y7
 rw[ziq]
 have h1:=zkU (p:=fun c=>isL c||isD c) (c::r)
 simp only[List.takeWhile_cons,h,Bool.true_or,if_true] at h1 ⊢
 simp only[zZ,zbQ,h,Bool.true_or,if_true,Al0,zL]
 exact⟨zl3 _ 1 (by decide) fun d hd=>h1 d (.tail _ hd),by simp⟩
theorem YQ {c:UInt8} (hc:c.toNat<128) {b:List UInt8} (h:validD (c::b)=true):validD b=true:=(zda hc (a:=[]) h).2
theorem zqI {c:UInt8} (hc:c.toNat<128) {b:List UInt8} (h:validD b=true):validD (c::b)=true:=zbp (a:=[c]) (zgb fun d hd=>by simp only[List.mem_singleton] at hd;subst hd;exact hc) h
theorem za3:∀ {p s:List UInt8},p.isPrefixOf s=true→s=p++s.drop p.length
 | [],s,_=>rfl
 | x::p,[],h=>by simp[List.isPrefixOf] at h
 | x::p,c::s,h=>by
  simp only[List.isPrefixOf,Al0,beq_iff_eq] at h
  have:=za3 h.2
  rw[h.1]
  simp only[Al6,Al2,List.drop_succ_cons,List.cons.injEq,true_and]
  exact this
theorem zeh:∀(n:Nat) (raw t b s':List UInt8),Z6 n raw t=some (b,s')→validD (raw++t)=true→validD b=true∧validD s'=true
 | 0,_,_,_,_,h,_=>by cases h
 | n+1,raw,[],_,_,h,_=>by simp[Z6] at h
 | n+1,raw,c::r,b,s',h,hv=>by
  simp only[Z6] at h
  split at h
  ·rename_i h1
   simp only[Al1,Al8] at h
   obtain⟨rfl,rfl⟩:=h
   have e:=za3 h1
   simp only[yx,Al6,Zg,Al2,Al3,List.drop_succ_cons,Nat.zero_add,Nat.reduceAdd] at e
   rw[e] at hv
   have g:=zda (c:=34) (by decide) hv
   exact⟨g.1,YQ (c:=34) (by decide) (YQ (c:=34) (by decide) g.2)⟩
  ·split at h
   ·rename_i h2
    have e:=za3 h2
    simp only[zkc,Al6,Zg,Al2,Al3,List.drop_succ_cons,Nat.zero_add,Nat.reduceAdd] at e
    rw[e] at hv
    have g:=zda (c:=92) (by decide) hv
    refine zeh n _ _ _ _ h ?_
    rw[ZJ]
    exact zbp g.1 g.2
   ·exact zeh n _ _ _ _ h (by rw[ZJ];exact hv)
theorem YH:∀(s cur:List UInt8),validD (cur++s)=true→∀ x∈yJ cur s,validD x=true
 | [],cur,h,x,hx=>by
  simp only[yJ,List.mem_singleton] at hx
  subst hx;simpa using h
 | [c],cur,h,x,hx=>by
  simp only[yJ] at hx
  split at hx
  ·rename_i hc
   have hc2:c.toNat<128:=by rcases hc with rfl|rfl<;>decide
   have g:=zda hc2 h
   simp only[List.mem_cons,List.not_mem_nil,or_false] at hx
   rcases hx with rfl|rfl
   ·exact g.1
   ·rfl
  ·simp only[List.mem_singleton] at hx
   subst hx;exact h
 | c::d::r,cur,h,x,hx=>by
  simp only[yJ] at hx
  split at hx
  ·rename_i hc
   subst hc
   have g:=zda (c:=10) (by decide) h
   rcases List.mem_cons.1 hx with rfl|hx
   ·exact g.1
   ·exact YH (d::r) [] g.2 x hx
  ·split at hx
   ·rename_i hc
    subst hc
    have g:=zda (c:=13) (by decide) h
    split at hx
    ·rename_i hd
     subst hd
     rcases List.mem_cons.1 hx with rfl|hx
     ·exact g.1
     ·exact YH r [] (YQ (c:=10) (by decide) g.2) x hx
    ·rcases List.mem_cons.1 hx with rfl|hx
     ·exact g.1
     ·exact YH (d::r) [] g.2 x hx
   ·exact YH (d::r) (cur++[c]) (by rw[ZJ];exact h) x hx
termination_by s=>s.length
theorem zqU {c:UInt8} (h:zgG c=true):c.toNat<128:=by
 simp only[zgG,Z0,zL] at h
 rcases h with rfl|rfl<;>decide
theorem zoJ:∀(s:List UInt8) (n:Nat),n≤YU s→validD s=true→validD (s.drop n)=true
 | [],n,_,_=>by simp;rfl
 | c::s,0,_,h=>h
 | c::s,n+1,hn,h=>by
  unfold YU at hn
  simp only[List.takeWhile_cons] at hn
  split at hn
  ·rename_i hc
   simp only[Al2] at hn
   exact zoJ s n (by unfold YU;omega) (YQ (zqU hc) h)
  ·simp at hn
theorem zkH:∀(L:List (List UInt8)) (a:Int),(0≤a→zd0 L a≤a∧0≤zd0 L a)∧(∀ s∈L,yY s=false→zd0 L a≤YU s∧0≤zd0 L a)
 | [],a=>⟨fun h=>⟨Int.le_refl _,h⟩,fun s hs=>nomatch hs⟩
 | s::r,a=>by
  simp only[zd0]
  have ih:=zkH r
  by_cases hb:yY s=true
  ·rw[if_pos hb]
   refine⟨(ih a).1,fun x hx hxb=>?_⟩
   rcases List.mem_cons.1 hx with rfl|hx
   ·rw[hb] at hxb;cases hxb
   ·exact(ih a).2 x hx hxb
  ·rw[if_neg hb]
   by_cases hc:a<0∨(YU s:Int)<a
   ·rw[if_pos hc]
    have h1:=(ih (YU s)).1 (by omega)
    refine⟨fun h=>⟨by omega,h1.2⟩,fun x hx hxb=>?_⟩
    rcases List.mem_cons.1 hx with rfl|hx
    ·exact h1
    ·exact(ih _).2 x hx hxb
   ·rw[if_neg hc]
    have h1:=(ih a).1 (by omega)
    refine⟨fun _=>h1,fun x hx hxb=>?_⟩
    rcases List.mem_cons.1 hx with rfl|hx
    ·exact⟨by omega,h1.2⟩
    ·exact(ih _).2 x hx hxb
theorem zj6 {s:List UInt8} (h:yY s=true):YU s=s.length:=by
 unfold yY at h
 unfold YU
 rw[zfV s (Zk.1 h)]
theorem zmI {l:List (List UInt8)} (h:∀ x∈l,validD x=true):∀ x∈zcJ l,validD x=true:=by
 cases l with
 | nil=>exact fun x hx=>nomatch hx
 | cons y r =>
  intro x hx
  simp only[zcJ] at hx
  rcases List.mem_cons.1 hx with rfl|hx
  ·exact h _ (.head _)
  ·obtain⟨s,hs,rfl⟩:=List.mem_map.1 hx
   have hv:=h s (.tail _ hs)
   by_cases hl:(indM (y::r)).toNat≤YU s
   ·exact zoJ s _ hl hv
   ·cases hb:yY s with
    | true =>
     have:=zj6 hb
     rw[List.drop_eq_nil_of_le (by omega)];rfl
    | false =>
     have:=(zkH r (-1)).2 s hs hb
     have e:indM (y::r)=zd0 r (-1):=rfl
     rw[e] at hl
     omega
theorem zfp:∀ l:List (List UInt8),(∀ x∈l,validD x=true)→validD (Lib.join l [10])=true
 | [],_=>rfl
 | [x],h=>by simpa[Lib.join] using h x (.head _)
 | x::y::r,h=>by
  have e:Lib.join (x::y::r) [10]=x++10::Lib.join (y::r) [10]:=by simp[Lib.join]
  rw[e]
  exact zbp (h x (.head _)) (zqI (by decide) (zfp (y::r) fun z hz=>h z (.tail _ hz)))
theorem zrT {l:List (List UInt8)}:∀ x∈zcO l,x∈l:=fun x hx=>by
 unfold zcO at hx
 have h1:=List.mem_reverse.1 hx
 exact List.mem_reverse.1 ((List.dropWhile_sublist _).subset h1)
theorem zkE {raw:List UInt8} (h:validD raw=true):validD (Zm raw)=true:=by
 unfold Zm
 refine zfp _ fun x hx=>?_
 exact zmI (YH raw [] h) x ((List.dropWhile_sublist _).subset (zrT x hx))
theorem zp4 {s s':List UInt8} {x:Tok} (hv:validD s=true) (h:Zv s=some (x,s')):zv x=true∧validD s'=true:=by
 cases s with
 | nil=>cases h
 | cons c r =>
  simp only[Zv] at h
  by_cases h1:yx.isPrefixOf (c::r)=true
  ·rw[if_pos h1] at h
   have e:=za3 h1
   simp only[yx,Al6,Zg,Al2,Al3,List.drop_succ_cons,Nat.zero_add,Nat.reduceAdd] at e
   cases hr:Z6 (r.length+1) [] (r.drop 2) with
   | none=>rw[hr] at h;cases h
   | some y =>
    rw[hr] at h
    simp only[yU,Al1,Al8] at h
    obtain⟨rfl,rfl⟩:=h
    rw[e] at hv
    have g:=zeh _ _ _ y.1 y.2 hr (YQ (c:=34) (by decide) (YQ (c:=34) (by decide) (YQ (c:=34) (by decide) hv)))
    refine⟨?_,g.2⟩
    simp[zv,zkE g.1]
  rw[if_neg h1] at h
  by_cases h2:c=34
  ·rw[if_pos h2] at h
   cases hr:YJ Zd r with
   | none=>rw[hr] at h;cases h
   | some y =>
    rw[hr] at h
    simp only[yU,Al1,Al8] at h
    obtain⟨rfl,rfl⟩:=h
    have g:=zmZ (b:=y.1) (t':=y.2) hr (YQ (by rw[h2];decide) hv)
    exact⟨by simp[zv,g.1],g.2⟩
  rw[if_neg h2] at h
  by_cases h3:Z4.isPrefixOf (c::r)=true
  ·rw[if_pos h3] at h
   have e:=za3 h3
   simp only[Z4,Al6,Zg,Al2,Al3,List.drop_succ_cons,Nat.zero_add,Nat.reduceAdd] at e
   simp only[Al1,Al8] at h
   obtain⟨rfl,rfl⟩:=h
   rw[e] at hv
   exact⟨by decide,YQ (c:=46) (by decide) (YQ (c:=46) (by decide) (YQ (c:=46) (by decide) hv))⟩
  rw[if_neg h3] at h
  by_cases h4:0≤Lib.indexByte zci c
  ·rw[if_pos h4] at h
   simp only[Al1,Al8] at h
   obtain⟨rfl,rfl⟩:=h
   have hm:=zhJ c
   have hm2:zbO c=true:=by simpa[zbO] using h4
   simp only[hm2,Bool.not_true,Bool.false_or,Al0,zL] at hm
   exact⟨by simp[zv,zfT,h4],YQ hm.2.2.2.2.2.2.2 hv⟩
  rw[if_neg h4] at h
  by_cases h5:isL c=true
  ·rw[if_pos h5] at h
   simp only[Al1,Al8] at h
   obtain⟨rfl,rfl⟩:=h
   refine⟨zme h5,?_⟩
   have ht:validD ((c::r).take (y7 (c::r)))=true:=zgb fun d hd=>by
    unfold y7 at hd
    rw[ziq] at hd
    have:=zkU (p:=fun c=>isL c||isD c) _ d hd
    simp only[isL,isD,Z0,Al0,zL] at this
    omega
   rw[← zk2 ht,List.take_append_drop];exact hv
  rw[if_neg h5] at h
  by_cases h6:(yB (c::r)).1=0
  ·rw[if_pos h6] at h;cases h
  rw[if_neg h6] at h
  split at h
  ·cases h
  ·simp only[Al1,Al8] at h
   obtain⟨rfl,rfl⟩:=h
   have hr:=zpJ h6
   refine⟨hr,?_⟩
   have hk:Z1 ((c::r).take (yB (c::r)).1)≠0:=by
    unfold Z1
    rw[zlV _ _ (Al4 _),List.length_take,Nat.min_eq_left (ze7 _),if_pos rfl]
    have:=zrW h6
    omega
   have ht:validD ((c::r).take (yB (c::r)).1)=true:=zgb fun d hd=>(zjb hk d hd).2
   rw[← zk2 ht,List.take_append_drop];exact hv
theorem zhz (p:UInt8→Bool):∀ r:List UInt8,r.drop (r.takeWhile p).length=r.dropWhile p
 | []=>rfl
 | c::r=>by
  simp only[List.takeWhile_cons,List.dropWhile_cons]
  split
  ·simp[zhz p r]
  ·rfl
theorem zrJ {s:List UInt8} (hv:validD s=true):validD (s.drop (Yl s))=true:=by
 cases s with
 | nil=>rfl
 | cons c r =>
  simp only[Yl]
  split
  ·rename_i h
   have hc:c.toNat<128:=by rcases h with rfl|rfl|rfl|rfl|rfl<;>decide
   exact YQ hc hv
  ·split
   ·rename_i h
    have e:=za3 h
    rw[e] at hv
    have hb:validD ziy=true:=by decide
    rw[zk2 hb] at hv
    exact hv
   ·split
    ·rename_i h
     subst h
     have hr:=YQ (c:=35) (by decide) hv
     rw[show 1+(r.takeWhile y5).length=(r.takeWhile y5).length+1 by omega,List.drop_succ_cons]
     have ec:r.takeWhile y5++r.dropWhile y5=r:=List.takeWhile_append_dropWhile
     rw[zhz]
     cases hd:r.dropWhile y5 with
     | nil=>rfl
     | cons d t =>
      have hnd:y5 d=false:=by
       have:=List.head_dropWhile_not y5 (l:=r) (by rw[hd];simp)
       simpa[hd] using this
      have hdl:d.toNat<128:=by
       simp only[y5,Bool.not_eq_false',Z0,zL] at hnd
       rcases hnd with rfl|rfl<;>decide
      rw[hd] at ec
      rw[← ec] at hr
      exact zqI hdl (zda hdl hr).2
    ·exact hv
theorem zcQ:∀(n:Nat) (l:List Tok) (s:List UInt8) (l':List Tok),Z5 n l s=.ok l'→validD s=true→l.all zv=true→l'.all zv=true
 | 0,_,_,_,h,_,_=>by cases h
 | n+1,l,s,l',h,hv,hl=>by
  simp only[Z5] at h
  split at h
  ·cases h;exact hl
  ·split at h
   ·exact zcQ n _ _ _ h (zrJ hv) hl
   ·cases ho:Zv s with
    | none=>rw[ho] at h;cases h
    | some x =>
     rw[ho] at h
     obtain⟨g1,g2⟩:=zp4 (x:=x.1) (s':=x.2) hv ho
     exact zcQ n _ _ _ h g2 (by simp[hl,g1])
theorem zhC:∀(n:Nat) (s:List UInt8),s.length≤n→zeR s=true→validD s=true
 | 0,s,hn,_=>by
  obtain rfl:s=[]:=zap.1 (by omega)
  rfl
 | n+1,s,hn,h=>by
  by_cases hne:s=[]
  ·subst hne;rfl
  ·rw[zdI hne] at h
   simp only[Al0,zL] at h
   rw[(zhe hne (by omega)).1]
   exact zhC n _ (by rw[Yv];omega) h.2.2
theorem zlj {s:List UInt8} {l:List Tok} (h:Ye s=.ok l):l.all zv=true:=by
 obtain⟨_,h2,h3⟩:=zln h
 exact zcQ _ _ _ _ h3 (zhC _ s (Al4 _) h2) rfl
theorem zp8 {s:List UInt8} (h:s.length≠1):zfT s=false:=by
 match s,h with
 | [],_=>rfl
 | [_],h=>exact absurd rfl h
 | _::_::_,_=>rfl
theorem ztc (t:Tok) (ht:t.s.length≤Lim):zu Tryz.prog 119 [.agg (cK t)] (.bool (zv t)):=by
 refine zu.go ir119 ck119 (Al4 _) fun KP Q hQ=>?_
 obtain⟨k,s⟩:=t
 simp only at ht
 by_cases k1:k=1
 ·subst k1
  by_cases hd:s=[46,46,46]
  ·simp(disch:=first|omega|assumption) only[ir119,cK,hd,go_sem]
   exact hQ _ _ _ _ nofun rfl (by simp[zc,zf,AV.strip,AV.strip1,zv,hd,Z4])
  by_cases hl:s.length=1
  ·obtain⟨c,rfl⟩:=List.length_eq_one_iff.1 hl
   simp(disch:=first|omega|assumption) only[ir119,cK,hd,go_sem]
   have e:zv ⟨1,[c]⟩=decide (0≤Lib.indexByte zci c):=by simp[zv,Z4,zfT]
   refine zb (znf _ c) ?_
   simp(disch:=first|omega|assumption) only[go_sem]
   exact hQ _ _ _ [_] nofun rfl (by rw[e];rfl)
  ·have hl':¬ ((s.length:Int)=1):=by omega
   simp(disch:=first|omega|assumption) only[ir119,cK,hd,hl',go_sem]
   exact hQ _ _ _ _ nofun rfl (by simp[zc,zf,AV.strip,AV.strip1,zv,hd,Z4,zp8 hl])
 by_cases k2:k=2
 ·subst k2
  simp(disch:=first|omega|assumption) only[ir119,cK,go_sem]
  refine zb (zjY s ht) ?_
  simp(disch:=first|omega|assumption) only[go_sem]
  exact hQ _ _ _ _ nofun rfl (by simp[zc,zf,AV.strip,AV.strip1,zv])
 by_cases k3:k=3
 ·subst k3
  simp(disch:=first|omega|assumption) only[ir119,cK,go_sem]
  refine zb (zeX s ht) ?_
  simp(disch:=first|omega|assumption) only[go_sem]
  exact hQ _ _ _ _ nofun rfl (by simp[zc,zf,AV.strip,AV.strip1,zv])
 by_cases k4:k=4
 ·subst k4
  simp(disch:=first|omega|assumption) only[ir119,cK,go_sem]
  refine zb (zeX s ht) ?_
  simp(disch:=first|omega|assumption) only[go_sem]
  exact hQ _ _ _ _ nofun rfl (by simp[zc,zf,AV.strip,AV.strip1,zv])
 by_cases k5:k=5
 ·subst k5
  simp(disch:=first|omega|assumption) only[ir119,cK,go_sem]
  refine zb (zuh s ht) ?_
  simp(disch:=first|omega|assumption) only[go_sem]
  exact hQ _ _ _ _ nofun rfl (by simp[zc,zf,AV.strip,AV.strip1,zv])
 ·simp(disch:=first|omega|assumption) only[ir119,cK,k1,k2,k3,k4,k5,go_sem]
  exact hQ _ _ _ _ nofun rfl (by simp[zc,zf,AV.strip,AV.strip1,zv,k1,k2,k3,k4,k5])
theorem ztn:∀ l:List (List UInt8),(Lib.join l [32]).length≤(l.map fun s=>s.length+1).sum
 | []=>by simp[Lib.join_nil]
 | x::r=>by
  rw[Lib.join_length]
  have:∀ l:List (List UInt8),lens l+l.length=(l.map fun s=>s.length+1).sum:=fun l=>by
   induction l with
   | nil=>rfl
   | cons y l ih=>simp only[lens,List.map_cons,List.sum_cons,Al2] at ih ⊢;omega
  have h:=this (x::r)
  simp only[Al2,Al3] at h ⊢
  omega
theorem zr9 (l:List Tok) (h:l.all zv=true):(ZT l).length≤6*wT l:=by
 refine Nat.le_trans (ztn _) ?_
 induction l with
 | nil=>simp[wT]
 | cons t l ih =>
  simp only[List.all_cons,Al0] at h
  have h1:=zq2 h.1
  have h2:=ih h.2
  rw[y0]
  simp only[List.map_cons,List.sum_cons,wK] at h2 ⊢
  omega
theorem zuJ {l:List Tok} {t:Tok} (h:t∈l):t.s.length+4≤wT l:=by
 induction l with
 | nil=>cases h
 | cons y l ih =>
  rw[y0]
  rcases List.mem_cons.1 h with rfl|h
  ·unfold wK;omega
  ·have:=ih h;omega
theorem zvg (l:List Tok):4*l.length≤wT l:=by
 induction l with
 | nil=>simp
 | cons y l ih=>rw[y0];simp only[Al2,wK];omega
theorem zot (L:List Tok) (hb:8*wT L≤Lim):zu Tryz.prog 56 [.sl .no 2 (cKs L)] (.tup [.str (YG L).1,.bool (YG L).2]):=by
 refine zu.go ir56 ck56 (Al4 _) fun KP Q hQ=>?_
 have hkl:=yM L
 have hwl:=zvg L
 simp only[Lim] at hb
 simp(disch:=first|omega|assumption) only[ir56,hkl,go_sem]
 refine zG L 9 (fun x:Own×List (List UInt8)=>[(4,.sl x.1 1 (cT x.2))]) (fun done rest x H=>x.2=done.map zas∧done.all zv=true∧yh H x.1 x.2.length 1) (.nil,[]) (by simp(disch:=first|omega|assumption) only[cT,go_sem]) ⟨rfl,rfl,yh.nil _ _⟩ ?_ ?_
 ·rintro⟨o,l⟩ H J ⟨hl,hr,ho⟩ hlt
  simp only at hl hr ho
  subst hl
  have hj:=zr9 L hr
  have hcl:=zax (L.map zas)
  simp(disch:=first|omega|assumption) only[hkl,hlt,go_sem]
  refine zb (zu.low (za8 (L.map zas) [32] (by show (ZT L).length≤_;omega) (by simp;omega))) ?_
  simp(disch:=first|omega|assumption) only[go_sem]
  exact hQ _ _ _ _ nofun rfl (by simp[zc,zf,AV.strip,AV.strip1,YG,hr,ZT])
 ·rintro done x rest ⟨o,l⟩ H J hd hlt hlt2 ⟨hl,hr,ho⟩ hJ
  simp only at hl hr ho
  have hg:=zs8 hd
  have hmem:x∈L:=by rw[hd];simp
  have hx:=zuJ hmem
  have hlen:l.length=done.length:=by rw[hl];simp
  have hcl:=zax l
  simp(disch:=first|omega|assumption) only[hkl,hlt,hg,go_sem]
  refine zm fun b hb=>?_
  simp(disch:=first|omega|assumption) only[go_sem]
  refine zb (ztc x (by simp only[Lim];omega)) ?_
  cases hrx:zv x with
  | false =>
   have e:L.all zv=false:=by rw[hd];simp[hrx]
   simp(disch:=first|omega|assumption) only[go_sem]
   exact hQ _ _ _ _ nofun rfl (by simp[zc,zf,AV.strip,AV.strip1,YG,e])
  | true =>
   by_cases k5:x.k=5
   ·have hv:validD x.s=true:=by unfold zv at hrx;rw[k5] at hrx;simpa using hrx
    simp(disch:=first|omega|assumption) only[k5,go_sem]
    refine zb (ztt x.s hv (by simp only[Lim];omega)) ?_
    simp(disch:=first|omega|assumption) only[go_sem]
    refine zx (by rw[hcl];exact ho.upd hb) (by simp only[hcl,Al2,Al3];omega) (by simp only[hcl,Al2,Al3,maxLen];omega) fun o3 H3 hs3=>?_
    have et:zas x=zkb x.s:=by unfold zas;rw[if_pos k5]
    simp(disch:=first|omega|assumption) only[wrap64,go_sem]
    exact goJ (hJ (o3,l++[zkb x.s]) H3 ⟨by rw[hl];simp[et],by simp[hr,hrx],by simpa[hcl] using hs3.own⟩) (by simp(disch:=first|omega|assumption) only[cT,List.map_append,go_sem])
   ·have et:zas x=x.s:=by unfold zas;rw[if_neg k5]
    simp(disch:=first|omega|assumption) only[k5,go_sem]
    refine zx (by rw[hcl];exact ho.upd hb) (by simp only[hcl,Al2,Al3];omega) (by simp only[hcl,Al2,Al3,maxLen];omega) fun o3 H3 hs3=>?_
    simp(disch:=first|omega|assumption) only[wrap64,go_sem]
    exact goJ (hJ (o3,l++[x.s]) H3 ⟨by rw[hl];simp[et],by simp[hr,hrx],by simpa[hcl] using hs3.own⟩) (by simp(disch:=first|omega|assumption) only[cT,List.map_append,go_sem])
end Go.Proofs.YticbbfbpeimkbaaGreatDoor
namespace Go.Proofs.YticbbfbpeimkbaaGreatDoor
open Go.Ab
structure WAt (H:za) (w:Nat) (o:Own) (l:List Tok) (ok:Bool) (dp:Int):Prop where
 cell:H w=some (.cells [.sl o 2 (cKs l),.bool ok,.int .i64 dp])
 own:yh H o l.length 2
structure WStep (H:za) (o:Own) (w:Nat) (H':za) (o':Own):Prop where
 keep:∀ c x,c≠w→(∀ d,o≠.tip c d)→H c=some x→H' c=some x
 new:∀ b d,o'=.tip b d→H b=none∨∃ d0,o=.tip b d0
theorem WStep.refl (H:za) (o:Own) (w:Nat):WStep H o w H o:=⟨fun _ _ _ _ h=>h,fun b d e=>.inr ⟨d,e⟩⟩
theorem WStep.trans {H H1 H2:za} {o o1 o2:Own} {w:Nat} {x:AObj} (h:WStep H o w H1 o1) (hw:H1 w=some x) (h':WStep H1 o1 w H2 o2):WStep H o w H2 o2:=by
 refine⟨fun c y hc hn hy=>h'.keep c y hc (fun d e=>?_) (h.keep c y hc hn hy),fun b d e=>?_⟩
 ·rcases h.new c d e with h1|⟨d0,h1⟩
  ·rw[hy] at h1;cases h1
  ·exact hn d0 h1
 ·rcases h'.new b d e with h1|⟨d0,h1⟩
  ·cases hb:H b with
   | none=>exact .inl rfl
   | some y =>
    by_cases e2:∃ d,o=.tip b d
    ·exact .inr e2
    ·have hbw:b≠w:=fun e3=>by subst e3;rw[hw] at h1;cases h1
     have:=h.keep b y hbw (fun d e3=>e2 ⟨d,e3⟩) hb
     rw[h1] at this;cases this
  ·exact h.new b d0 h1
theorem WStep.box {H H':za} {o o':Own} {w b n:Nat} {cs:List AV} (h:WStep H o w H' o') (ho:yh H o n 2) (hb:H b=some (.cells cs)) (hw:b≠w):H' b=some (.cells cs) :=
 h.keep b _ hw (fun d e=>by subst e;exact own_ne ho hb rfl) hb
theorem WStep.upd {H H':za} {o o':Own} {w:Nat} {x:AObj} (h:WStep H o w H' o'):WStep H o w (H'.upd w x) o' :=
 ⟨fun c y hc hn hy=>by rw[upd_ne hc];exact h.keep c y hc hn hy,h.new⟩
theorem WStep.alloc {H H':za} {o o':Own} {w b:Nat} {x:AObj} (h:WStep H o w H' o') (hb:H' b=none):WStep H o w (H'.upd b x) o' :=
 ⟨fun c y hc hn hy=>by have:=h.keep c y hc hn hy;rw[upd_ne (fun e=>by subst e;rw[hb] at this;cases this)];exact this,h.new⟩
theorem WAt.alloc {H:za} {w b:Nat} {o:Own} {l:List Tok} {ok:Bool} {dp:Int} {x:AObj} (h:WAt H w o l ok dp) (hb:H b=none):WAt (H.upd b x) w o l ok dp :=
 ⟨by rw[upd_ne (fun e=>by subst e;rw[h.cell] at hb;cases hb)];exact h.cell,h.own.upd hb⟩
theorem WAt.put {H:za} {w:Nat} {o:Own} {l:List Tok} {ok ok':Bool} {dp dp':Int} (h:WAt H w o l ok dp):WAt (H.upd w (.cells [.sl o 2 (cKs l),.bool ok',.int .i64 dp'])) w o l ok' dp' :=
 ⟨upd_same ..,Zw h.own h.cell⟩
theorem WAt.app {H H1:za} {w:Nat} {o o1:Own} {l ts:List Tok} {ok:Bool} {dp:Int} {n:Nat} (h:WAt H w o l ok dp) (hs:OwnS H o H1 o1 n 2) (hn:n=(l++ts).length) :
  H1 w=some (.cells [.sl o 2 (cKs l),.bool ok,.int .i64 dp])∧WAt (H1.upd w (.cells [.sl o1 2 (cKs (l++ts)),.bool ok,.int .i64 dp])) w o1 (l++ts) ok dp∧WStep H o w (H1.upd w (.cells [.sl o1 2 (cKs (l++ts)),.bool ok,.int .i64 dp])) o1:=by
 subst hn
 have hc:=Ze h.own h.cell hs.kept
 exact⟨hc,⟨upd_same ..,Zw hs.own hc⟩,fun c y hcw hn hy=>by rw[upd_ne hcw];exact hs.kept c y hy hn,hs.new⟩
abbrev ztk (R:AV→za→Prop):AEnd→za→Prop:=fun e H'=>∃ v,e=.ret v∧R v H'
def WC (f:FuncId) (args:List AV) (B:Nat) (lo hi:Int) (r:Int→Bool) (tk:List Tok):Prop :=
 ∀(H:za) (w:Nat) (o:Own) (l:List Tok) (ok:Bool) (dp:Int),WAt H w o l ok dp→lo≤dp→dp≤hi→l.length+B≤Lim →
  zj Tryz.prog f (.ptr w 0::args) H (ztk fun v H'=>v=.tup []∧∃ o' l',WAt H' w o' l' (ok&&r dp) dp∧WStep H o w H' o'∧l'.length≤l.length+B∧((ok&&r dp)=true→l'=l++tk))
structure WR (H0:za) (o0:Own) (w:Nat) (l0:List Tok) (ok0:Bool) (dp:Int) (B:Nat) (r:Bool) (tk:List Tok) (H:za) (o:Own) (l:List Tok):Prop where
 here:WAt H w o l (ok0&&r) dp
 st:WStep H0 o0 w H o
 len:l.length≤l0.length+B
 eq:(ok0&&r)=true→l=l0++tk
theorem WR.refl {H:za} {o:Own} {w:Nat} {l:List Tok} {ok:Bool} {dp:Int} (h:WAt H w o l ok dp):WR H o w l ok dp 0 true [] H o l :=
 ⟨by rw[Bool.and_true];exact h,.refl _ _ _,Al4 _,fun _=>by simp⟩
theorem WR.alloc {H0 H:za} {o0 o:Own} {w b B:Nat} {l0 l tk:List Tok} {ok0 r:Bool} {dp:Int} {x:AObj} (h:WR H0 o0 w l0 ok0 dp B r tk H o l) (hb:H b=none):WR H0 o0 w l0 ok0 dp B r tk (H.upd b x) o l :=
 ⟨h.here.alloc hb,h.st.alloc hb,h.len,h.eq⟩
theorem WR.fin {H0 H:za} {o0 o:Own} {w B B':Nat} {l0 l tk tk':List Tok} {ok0 r r':Bool} {dp:Int} (h:WR H0 o0 w l0 ok0 dp B r tk H o l) (hr:r=r') (ht:r'=true→tk=tk') (hB:B≤B') :
  ∃ o' l',WAt H w o' l' (ok0&&r') dp∧WStep H0 o0 w H o'∧l'.length≤l0.length+B'∧((ok0&&r')=true→l'=l0++tk'):=by
 subst hr
 refine⟨o,l,h.here,h.st,by have:=h.len;omega,fun e=>?_⟩
 rw[h.eq e,ht (by simp only[Al0] at e;exact e.2)]
section
variable {KP:AV→za→Prop} {Q:AExit→Env→za→Prop} {st:List Fr} {ρ:Env} {H:za} {all items:List AItem} {d:Option Nat} {R:List Chk}
theorem zbh {f:FuncId} {args:List AV} {B:Nat} {lo hi:Int} {r:Int→Bool} {tk:List Tok} (hc:WC f args B lo hi r tk) {w:Nat} {o:Own} {l:List Tok} {ok:Bool} {dp:Int} (h:WAt H w o l ok dp) (h0:lo≤dp) (h1:dp≤hi) (hb:l.length+B≤Lim)
  (k:∀ o' l' H',WAt H' w o' l' (ok&&r dp) dp→WStep H o w H' o'→l'.length≤l.length+B→((ok&&r dp)=true→l'=l++tk)→goR Tryz.prog KP Q all items st R (ρ.set d (.tup [])) H') :
  goK Tryz.prog KP Q all items st d R ρ f (.ptr w 0::args) H:=by
 refine zK (hc H w o l ok dp h h0 h1 hb) fun v H' ⟨hv,o',l',h2,h3,h4,h5⟩=>?_
 subst hv
 exact k o' l' H' h2 h3 h4 h5
theorem zi {f:FuncId} {args:List AV} {B':Nat} {lo hi:Int} {r':Int→Bool} {tk':List Tok} (hc:WC f args B' lo hi r' tk') {H0:za} {o0 o:Own} {w B:Nat} {l0 l tk:List Tok} {ok0 r:Bool} {dp:Int} (h:WR H0 o0 w l0 ok0 dp B r tk H o l) (h0:lo≤dp) (h1:dp≤hi)
  (hb:l0.length+(B+B')≤Lim) (k:∀ o' l' H',WR H0 o0 w l0 ok0 dp (B+B') (r&&r' dp) (tk++tk') H' o' l'→WStep H o w H' o'→goR Tryz.prog KP Q all items st R (ρ.set d (.tup [])) H') :
  goK Tryz.prog KP Q all items st d R ρ f (.ptr w 0::args) H:=by
 have hlen:=h.len
 refine zbh hc h.here h0 h1 (by omega) fun o' l' H' h2 h3 h4 h5=>k o' l' H' ⟨by rw[← Za];exact h2,h.st.trans h.here.cell h3,by omega,fun e=>?_⟩ h3
 rw[← Za] at e
 rw[h5 e,h.eq (by simp only[Al0] at e ⊢;exact e.1),ZJ]
end
theorem zw3:zj Tryz.prog 69 [] za.emp (ztk fun v H'=>∃ w,v=.ptr w 0∧WAt H' w .nil [] true 0):=by
 refine zj.go ir69 ck69 (Al4 _) fun KP Q hQ=>?_
 simp(disch:=first|omega|assumption) only[ir69,go_sem]
 refine zm fun b hb=>?_
 simp(disch:=first|omega|assumption) only[go_sem]
 exact hQ _ _ _ _ [_] nofun rfl (Low.refl _) ⟨b,rfl,upd_same ..,rfl⟩
theorem Zu (b:Bool):WC 70 [.bool b] 0 (-1000) 1000 (fun _=>b) []:=by
 intro H w o l ok dp h h0 h1 hb
 refine zj.go ir70 ck70 (Al4 _) fun KP Q hQ=>?_
 have hc:=h.cell
 cases ok
 ·simp(disch:=first|omega|assumption) only[ir70,hc,go_sem]
  exact hQ _ _ _ _ [] nofun rfl (Low.refl _) ⟨rfl,o,l,h.put,(WStep.refl ..).upd,by simp,fun _=>by simp⟩
 ·simp(disch:=first|omega|assumption) only[ir70,hc,go_sem]
  exact hQ _ _ _ _ [] nofun rfl (Low.refl _) ⟨rfl,o,l,by rw[Bool.true_and];exact h.put,(WStep.refl ..).upd,by simp,fun _=>by simp⟩
theorem yk (s:List UInt8) (hs:s.length≤Lim):WC 139 [.str s] 1 (-1000) 1000 (fun _=>zZ s) [wk s]:=by
 intro H w o l ok dp h h0 h1 hb
 refine zj.go ir139 ck139 (Al4 _) fun KP Q hQ=>?_
 have hkl:=yM l
 simp only[Lim] at hb
 simp(disch:=first|omega|assumption) only[ir139,go_sem]
 refine zb (zjY s hs) ?_
 simp(disch:=first|omega|assumption) only[go_sem]
 refine zbh (Zu _) h h0 h1 (by simp only[Lim];omega) fun o1 l1 H1 h2 h3 h4 h5=>?_
 have hkl1:=yM l1
 have hc:=h2.cell
 simp(disch:=first|omega|assumption) only[hc,go_sem]
 refine zx (by rw[hkl1];exact h2.own) (by simp only[hkl1,Al2,Al3];omega) (by simp only[hkl1,Al2,Al3,maxLen];omega) fun o2 H2 hs2=>?_
 obtain⟨g1,g2,g3⟩:=h2.app (ts:=[wk s]) hs2 (by simp[hkl1])
 have ek:cKs l1++[[AV.int .i64 2,AV.str s]]=cKs (l1++[wk s]):=zbl l1 (wk s)
 simp(disch:=first|omega|assumption) only[g1,ek,go_sem]
 exact hQ _ _ _ _ [] nofun rfl (Low.refl _) ⟨rfl,o2,l1++[wk s],g2,h3.trans h2.cell g3,by simp;omega,fun e=>by rw[h5 e];simp⟩
theorem yq (m:List UInt8) (o9:Own):WC 140 [.sl o9 1 [[.str m]]] 1 (-1000) 1000 (fun _=>true) [pk m]:=by
 intro H w o l ok dp h h0 h1 hb
 refine zj.go ir140 ck140 (Al4 _) fun KP Q hQ=>?_
 simp only[Lim] at hb
 simp(disch:=first|omega|assumption) only[ir140,go_sem]
 refine zG [m] 8 (fun x:Own×List Tok=>[]) (fun done rest x H'=>WAt H' w x.1 x.2 ok dp∧WStep H o w H' x.1∧x.2=l++done.map pk) (o,l) (by simp(disch:=first|omega|assumption) only[go_sem]) ⟨h,.refl _ _ _,by simp⟩ ?_ ?_
 ·rintro⟨o1,l1⟩ H1 J ⟨h2,h3,h4⟩ hlt
  simp only at h2 h3 h4
  simp(disch:=first|omega|assumption) only[go_sem]
  refine hQ _ _ H1 H1 [] nofun rfl (Low.refl _) ⟨rfl,o1,l1,by simpa using h2,h3,by rw[h4];simp,fun _=>by rw[h4];simp⟩
 ·rintro done x rest ⟨o1,l1⟩ H1 J hd hlt hlt2 ⟨h2,h3,h4⟩ hJ
  simp only at h2 h3 h4
  have hl1:l1.length≤l.length+1:=by rw[h4];simp only[Al5,List.length_map];have:=congrArg List.length hd;simp at this;omega
  have hg:([[AV.str m]]:List (List AV)).getD done.length []=[.str x]:=by
   have:([m].map fun k=>[AV.str k]).getD done.length []=[.str x]:=Zz hd
   exact this
  have hkl1:=yM l1
  have hc:=h2.cell
  have hlt1:((done.length:Int)<1)=True:=eq_true (by simpa using hlt)
  have hdl:done.length<1:=by simpa using hlt2
  simp(disch:=first|omega|assumption) only[hlt1,hg,hc,go_sem]
  refine zx (by rw[hkl1];exact h2.own) (by simp only[hkl1,Al2,Al3];omega) (by simp only[hkl1,Al2,Al3,maxLen];omega) fun o2 H2 hs2=>?_
  obtain⟨g1,g2,g3⟩:=h2.app (ts:=[pk x]) hs2 (by simp[hkl1])
  have ek:cKs l1++[[AV.int .i64 1,AV.str x]]=cKs (l1++[pk x]):=zbl l1 (pk x)
  simp(disch:=first|omega|assumption) only[g1,ek,wrap64,go_sem]
  exact goJ (hJ (o2,l1++[pk x]) _ ⟨g2,h3.trans h2.cell g3,by rw[h4];simp⟩) (by simp(disch:=first|omega|assumption) only[go_sem])
open Go.Lib
def Ya (l:List (List UInt8)):List AV:=l.map AV.str
theorem YW (l:List (List UInt8)):(Ya l).length=l.length:=by simp[Ya]
def MsT (H:za) (b cap:Nat) (l:List (List UInt8)):Prop:=∃ tl,H b=some (.cells (Ya l++tl))∧l.length+tl.length=cap
theorem znu (z:AV):∀ n,(YS [z] n).length=n
 | 0=>rfl
 | n+1=>by simp[YS,znu z n]
section
variable {KP:AV→za→Prop} {Q:AExit→Env→za→Prop} {st:List Fr} {ρ:Env} {H:za} {all items:List AItem} {d:Option Nat} {R:List Chk}
theorem zvk {b cap:Nat} {l:List (List UInt8)} {x:List UInt8} {o2:Own} (h:MsT H b cap l) (h1:(l.length+1)*16≤140737488355328) (h2:l.length+1≤maxLen)
  (k:∀ b' cap' H',MsT H' b' cap' (l++[x])→goR Tryz.prog KP Q all items st R (ρ.set d (.ms b' 0 (l.length+1) cap')) H') :
  zp0 Tryz.prog KP Q all items st d R ρ 1 16 [.str []] (.ms b 0 l.length cap) (.sl o2 1 [[.str x]]) H:=by
 obtain⟨tl,hb,hc⟩:=h
 refine zsO hb rfl (by simpa using h1) (by simpa using h2) (fun hfit=>⟨?_,?_⟩) (fun hnf=>⟨?_,fun b' cap' hb' hcap' hm'=>?_⟩)
 ·have hfit:l.length+1≤cap:=hfit
  simp[YW];omega
 ·have hfit:l.length+1≤cap:=hfit
  obtain⟨t0,tl,rfl⟩:∃ t0 t1,tl=t0::t1:=by
   cases tl with
   | nil=>simp at hc;omega
   | cons a b=>exact⟨a,b,rfl⟩
  refine k b cap _ ⟨tl,?_,by simp at hc ⊢;omega⟩
  rw[upd_same]
  simp only[splice,List.flatten_cons,List.flatten_nil,List.append_nil,List.map_cons,List.map_nil,AV.strip1,Al2,Al3,Nat.zero_add,Nat.mul_one]
  rw[List.take_left' (YW l),List.drop_append,List.drop_eq_nil_of_le (by rw[YW];omega),YW,Nat.add_sub_cancel_left]
  simp[Ya]
 ·simp[YW]
 ·refine k b' cap' _ ⟨YS [.str []] (cap'-(l.length+1)),?_,?_⟩
  ·rw[upd_same]
   simp only[List.drop_zero,Nat.mul_one,List.flatten_cons,List.flatten_nil,List.append_nil,List.map_cons,List.map_nil,AV.strip1,Al2,Al3,Nat.zero_add]
   rw[List.take_left' (YW l)]
   simp[Ya]
  ·have hcap':l.length+1≤cap':=hcap'
   rw[znu];simp;omega
theorem zsx {x:List UInt8} {o2:Own} (k:∀ b' cap' H',MsT H' b' cap' [x]→goR Tryz.prog KP Q all items st R (ρ.set d (.ms b' 0 1 cap')) H') :
  zp0 Tryz.prog KP Q all items st d R ρ 1 16 [.str []] (.sl .nil 1 []) (.sl o2 1 [[.str x]]) H:=by
 refine zqZ rfl (by simp) (by simp[maxLen]) (fun h=>by simp at h) fun _ b cap hb h1 h2=>?_
 have h1:1≤cap:=h1
 refine k b cap _ ⟨YS [.str []] (cap-1),?_,by rw[znu];simp;omega⟩
 rw[upd_same]
 simp[Ya,AV.strip1]
end
theorem zeS {cur r:List UInt8} {c:UInt8} (h:¬ (c=10∨c=13)):yJ cur (c::r)=yJ (cur++[c]) r:=by
 have h10:c≠10:=fun e=>h (.inl e)
 have h13:c≠13:=fun e=>h (.inr e)
 cases r with
 | nil=>simp[yJ,h10,h13]
 | cons d r=>simp[yJ,h10,h13]
theorem zjh (cur r:List UInt8):yJ cur (10::r)=cur::yJ [] r:=by cases r<;>simp[yJ]
theorem zi1 {cur r:List UInt8} (h:r.head?≠some 10):yJ cur (13::r)=cur::yJ [] r:=by
 cases r with
 | nil=>simp[yJ]
 | cons d r =>
  have:d≠10:=by simpa using h
  simp[yJ,this]
theorem zhW (cur r:List UInt8):yJ cur (13::10::r)=cur::yJ [] r:=by simp[yJ]
def zti (b cap:Nat) (l:List (List UInt8)):AV:=if l=[] then .sl .nil 1 [] else .ms b 0 l.length cap
theorem zlL (b cap:Nat):zti b cap []=.sl .nil 1 []:=rfl
theorem ze4 {b cap:Nat} {l:List (List UInt8)} (h:l≠[]):zti b cap l=.ms b 0 l.length cap:=if_neg h
def zuK (s:List UInt8):AEnd→za→Prop:=ztk fun v H'=>∃ b cap,v=.ms b 0 (yp s).length cap∧MsT H' b cap (yp s)
section
variable {KP:AV→za→Prop} {Q:AExit→Env→za→Prop} {st:List Fr} {ρ:Env} {H:za} {all items:List AItem} {d:Option Nat} {R:List Chk}
theorem zhB {b cap:Nat} {l:List (List UInt8)} {x:List UInt8} {o2:Own} (h:l≠[]→MsT H b cap l) (h1:(l.length+1)*16≤140737488355328) (h2:l.length+1≤maxLen)
  (k:∀ b' cap' H',MsT H' b' cap' (l++[x])→goR Tryz.prog KP Q all items st R (ρ.set d (.ms b' 0 (l.length+1) cap')) H') :
  zp0 Tryz.prog KP Q all items st d R ρ 1 16 [.str []] (zti b cap l) (.sl o2 1 [[.str x]]) H:=by
 by_cases hl:l=[]
 ·subst hl
  rw[zlL]
  exact zsx fun b' cap' H' hm=>k b' cap' H' hm
 ·rw[ze4 hl]
  exact zvk (h hl) h1 h2 k
end
theorem ztF (s:List UInt8) (hs:s.length≤Lim):zj Tryz.prog 323 [.str s] za.emp (zuK s):=by
 refine zj.go ir323 ck323 (Al4 _) fun KP Q hQ=>?_
 have hs':=hs
 simp only[Lim] at hs'
 simp(disch:=first|omega|assumption) only[ir323,go_sem]
 refine yK (fun x:Nat×Nat×List (List UInt8)×Nat×Nat=>[(3,zti x.2.2.2.1 x.2.2.2.2 x.2.2.1),(4,.int .i64 x.2.1),(5,.int .i64 x.1)]) (fun x H'=>x.2.1≤x.1∧x.1≤s.length∧x.2.2.1.length≤x.1∧x.2.2.1++yJ ((s.take x.1).drop x.2.1) (s.drop x.1)=yp s∧(x.2.2.1≠[]→MsT H' x.2.2.2.1 x.2.2.2.2 x.2.2.1)) (fun x=>s.length-x.1) (0,0,[],0,0) (by simp(disch:=first|omega|assumption) only[zlL,go_sem]) ⟨Al4 _,Nat.zero_le _,Al4 _,by simp[yp],fun h=>absurd rfl h⟩ ?_
 rintro⟨i,fr,l,b,cap⟩ H1 J ⟨h1,h2,h3,h4,h5⟩ hJ
 simp only at h1 h2 h3 h4 h5
 by_cases hlt:i<s.length
 case neg =>
  obtain rfl:i=s.length:=by omega
  have hlt':¬ ((s.length:Int)<s.length):=by omega
  have hb1:((fr:Int)≤s.length)=True:=eq_true (by omega)
  rw[List.drop_length,List.take_length] at h4
  simp only[yJ] at h4
  simp(disch:=first|omega|assumption) only[hlt',hb1,go_sem]
  refine zhB h5 (by omega) (by simp only[maxLen];omega) fun b' cap' H2 hm=>?_
  simp(disch:=first|omega|assumption) only[go_sem]
  exact hQ _ _ H2 H2 [_] nofun rfl (Low.refl _) ⟨b',cap',by rw[← h4];simp[zc,zf,AV.strip,AV.strip1],by rw[← h4];exact hm⟩
 have hlt':((i:Int)<s.length)=True:=eq_true (by omega)
 obtain⟨c,r,hd⟩:∃ c r,s.drop i=c::r:=by
  cases hx:s.drop i with
  | nil=>have:=congrArg List.length hx;simp at this;omega
  | cons c r=>exact⟨c,r,rfl⟩
 have hc:s.getD i 0=c:=by
  have:(s.drop i).getD 0 0=c:=by rw[hd];rfl
  simpa[List.getD_eq_getElem?_getD] using this
 have hr:s.drop (i+1)=r:=by rw[← List.drop_drop,hd];rfl
 have htk:s.take (i+1)=s.take i++[c]:=by
  rw[List.take_add,hd];rfl
 have hcur:((s.take (i+1)).drop fr)=(s.take i).drop fr++[c]:=by
  rw[htk,zf9 (by simp;omega)]
 rw[hd] at h4
 have hb1:((fr:Int)≤(i:Int))=True:=eq_true (by omega)
 have hne9:l++[(s.take i).drop fr]≠[]:=by simp
 have hb2:((i:Int)≤s.length)=True:=eq_true (by omega)
 by_cases e10:c=10
 case pos =>
  subst e10
  rw[zjh] at h4
  have hcn:((10:UInt8).toNat:Int)=10:=rfl
  simp(disch:=first|omega|assumption) only[hlt',hc,hcn,hb1,hb2,go_sem]
  refine zhB h5 (by omega) (by simp only[maxLen];omega) fun b' cap' H2 hm=>?_
  simp(disch:=first|omega|assumption) only[hc,hcn,wrap64,go_sem]
  refine goJ (hJ (i+1,i+1,l++[(s.take i).drop fr],b',cap') H2 (by simp only;omega) ⟨Al4 _,by simp only;omega,by simp;omega,?_,fun _=>hm⟩) (by simp(disch:=first|omega|assumption) only[ze4 hne9,Al5,Al2,Al3,Nat.zero_add,Int.natCast_add,go_sem])
  rw[hr]
  simpa using h4
 by_cases e13:c=13
 case neg =>
  rw[zeS (by simp[e10,e13])] at h4
  have c10:¬ ((c.toNat:Int)=10):=fun e=>e10 (UInt8.toNat_inj.1 (by simpa using (by omega:c.toNat=10)))
  have c13:¬ ((c.toNat:Int)=13):=fun e=>e13 (UInt8.toNat_inj.1 (by simpa using (by omega:c.toNat=13)))
  simp(disch:=first|omega|assumption) only[hlt',hc,c10,c13,wrap64,go_sem]
  refine goJ (hJ (i+1,fr,l,b,cap) H1 (by simp only;omega) ⟨by simp only;omega,by simp only;omega,by simp only;omega,?_,h5⟩) (by simp(disch:=first|omega|assumption) only[Int.natCast_add,go_sem])
  rw[hr,hcur];exact h4
 subst e13
 have hcn:((13:UInt8).toNat:Int)=13:=rfl
 by_cases h10:r.head?=some 10
 case neg =>
  rw[zi1 h10] at h4
  by_cases hi2:i+1<s.length
  case neg =>
   have hi2':¬ ((i:Int)+1<s.length):=by omega
   simp(disch:=first|omega|assumption) only[hlt',hc,hcn,hb1,hb2,go_sem]
   refine zhB h5 (by omega) (by simp only[maxLen];omega) fun b' cap' H2 hm=>?_
   simp(disch:=first|omega|assumption) only[hc,hcn,wrap64,hi2',go_sem]
   refine goJ (hJ (i+1,i+1,l++[(s.take i).drop fr],b',cap') H2 (by simp only;omega) ⟨Al4 _,by simp only;omega,by simp;omega,?_,fun _=>hm⟩) (by simp(disch:=first|omega|assumption) only[ze4 hne9,Al5,Al2,Al3,Nat.zero_add,Int.natCast_add,go_sem])
   rw[hr]
   simpa using h4
  have hi2':((i:Int)+1<s.length)=True:=eq_true (by omega)
  obtain⟨e,r',hre⟩:∃ e r',r=e::r':=by
   cases r with
   | nil=>have:=congrArg List.length hr;simp at this;omega
   | cons e r'=>exact⟨e,r',rfl⟩
  have hge:s.getD (i+1) 0=e:=by
   have:(s.drop (i+1)).getD 0 0=e:=by rw[hr,hre];rfl
   simpa[List.getD_eq_getElem?_getD] using this
  have hne:e≠10:=by rw[hre] at h10;simpa using h10
  have hgn:¬ ((e.toNat:Int)=10):=fun x=>hne (UInt8.toNat_inj.1 (by simpa using (by omega:e.toNat=10)))
  have hg1:((i:Int)+1).toNat=i+1:=by omega
  simp(disch:=first|omega|assumption) only[hlt',hc,hcn,hb1,hb2,go_sem]
  refine zhB h5 (by omega) (by simp only[maxLen];omega) fun b' cap' H2 hm=>?_
  simp(disch:=first|omega|assumption) only[hc,hcn,wrap64,hi2',hg1,hge,hgn,go_sem]
  refine goJ (hJ (i+1,i+1,l++[(s.take i).drop fr],b',cap') H2 (by simp only;omega) ⟨Al4 _,by simp only;omega,by simp;omega,?_,fun _=>hm⟩) (by simp(disch:=first|omega|assumption) only[ze4 hne9,Al5,Al2,Al3,Nat.zero_add,Int.natCast_add,go_sem])
  rw[hr]
  simpa using h4
 obtain⟨r',hre⟩:∃ r',r=10::r':=by
  cases r with
  | nil=>cases h10
  | cons e r'=>simp only[List.head?_cons,Al1] at h10;subst h10;exact⟨r',rfl⟩
 rw[hre,zhW] at h4
 have hi2:i+1<s.length:=by
  have:=congrArg List.length hr;rw[hre] at this;simp at this;omega
 have hi2':((i:Int)+1<s.length)=True:=eq_true (by omega)
 have hge:s.getD (i+1) 0=10:=by
  have:(s.drop (i+1)).getD 0 0=10:=by rw[hr,hre];rfl
  simpa[List.getD_eq_getElem?_getD] using this
 have hgn:((10:UInt8).toNat:Int)=10:=rfl
 have hg1:((i:Int)+1).toNat=i+1:=by omega
 have hr2:s.drop (i+1+1)=r':=by rw[← List.drop_drop,hr,hre];rfl
 simp(disch:=first|omega|assumption) only[hlt',hc,hcn,hb1,hb2,go_sem]
 refine zhB h5 (by omega) (by simp only[maxLen];omega) fun b' cap' H2 hm=>?_
 simp(disch:=first|omega|assumption) only[hc,hcn,wrap64,hi2',hg1,hge,hgn,go_sem]
 refine goJ (hJ (i+1+1,i+1+1,l++[(s.take i).drop fr],b',cap') H2 (by simp only;omega) ⟨Al4 _,by simp only;omega,by simp;omega,?_,fun _=>hm⟩) (by simp(disch:=first|omega|assumption) only[ze4 hne9,Al5,Al2,Al3,Nat.zero_add,Int.natCast_add,go_sem])
 rw[hr2]
 simpa using h4
theorem zmj (c:UInt8):zgG c=true↔(c.toNat:Int)=9∨(c.toNat:Int)=32:=by
 simp only[zgG,Z0,zL]
 constructor
 ·rintro(rfl|rfl)
  ·exact .inl rfl
  ·exact .inr rfl
 ·rintro(h|h)
  ·exact .inl (UInt8.toNat_inj.1 (by simpa using (by omega:c.toNat=9)))
  ·exact .inr (UInt8.toNat_inj.1 (by simpa using (by omega:c.toNat=32)))
theorem zp5 {a r:List UInt8} {c:UInt8} (ha:∀ x∈a,zgG x=true) (hc:zgG c=false):YU (a++c::r)=a.length∧yY (a++c::r)=false:=by
 refine⟨?_,?_⟩
 ·unfold YU
  induction a with
  | nil=>simp[hc]
  | cons x a ih=>simp[ha x (.head _),ih fun y hy=>ha y (.tail _ hy)]
 ·simp[yY,hc]
theorem zqX {a:List UInt8} (ha:∀ x∈a,zgG x=true):YU a=a.length∧yY a=true:=by
 have hb:yY a=true:=Zk.2 ha
 exact⟨zj6 hb,hb⟩
theorem zbS (s:List UInt8) (hs:s.length≤Lim):zu Tryz.prog 345 [.str s] (.tup [.int .i64 (YU s),.bool (!yY s)]):=by
 refine zu.go ir345 ck345 (Al4 _) fun KP Q hQ=>?_
 have hs':=hs
 simp only[Lim] at hs'
 simp(disch:=first|omega|assumption) only[ir345,go_sem]
 refine zG s 7 (fun _:AV=>[]) (fun done rest _ H'=>∀ x∈done,zgG x=true) (.int .i64 0) (by simp(disch:=first|omega|assumption) only[go_sem]) (fun x hx=>nomatch hx) ?_ ?_
 ·rintro y H1 J hdn hlt
  obtain⟨g1,g2⟩:=zqX hdn
  simp(disch:=first|omega|assumption) only[hlt,go_sem]
  exact hQ _ _ _ _ nofun rfl (by simp[zc,zf,AV.strip,AV.strip1,g1,g2])
 ·rintro done c rest y H1 J hd hlt hlt2 hdn hJ
  have hc:s.getD done.length 0=c:=by rw[hd];simp
  cases hb:zgG c with
  | false =>
   obtain⟨g1,g2⟩:=zp5 (r:=rest) hdn hb
   rw[← hd] at g1 g2
   have hn:¬ ((c.toNat:Int)=9∨(c.toNat:Int)=32):=fun h=>by rw[(zmj c).2 h] at hb;cases hb
   have n9:¬ ((c.toNat:Int)=9):=fun h=>hn (.inl h)
   have n32:¬ ((c.toNat:Int)=32):=fun h=>hn (.inr h)
   simp(disch:=first|omega|assumption) only[hlt,hc,n9,n32,go_sem]
   exact hQ _ _ _ _ nofun rfl (by simp[zc,zf,AV.strip,AV.strip1,g1,g2])
  | true =>
   have hall:∀ x∈done++[c],zgG x=true:=fun x hx=>by
    rcases List.mem_append.1 hx with h|h
    ·exact hdn x h
    ·simp at h;subst h;exact hb
   rcases(zmj c).1 hb with h9|h32
   ·simp(disch:=first|omega|assumption) only[hlt,hc,h9,wrap64,go_sem]
    exact goJ (hJ (.int .i64 0) _ hall) (by simp(disch:=first|omega|assumption) only[go_sem])
   ·have n9:¬ ((c.toNat:Int)=9):=by omega
    simp(disch:=first|omega|assumption) only[hlt,hc,n9,h32,wrap64,go_sem]
    exact goJ (hJ (.int .i64 0) _ hall) (by simp(disch:=first|omega|assumption) only[go_sem])
theorem zds (s:List UInt8) (hs:s.length≤Lim):zu Tryz.prog 325 [.str s] (.bool (yY s)):=by
 refine zu.go ir325 ck325 (Al4 _) fun KP Q hQ=>?_
 simp(disch:=first|omega|assumption) only[ir325,go_sem]
 refine zb (zbS s hs) ?_
 simp(disch:=first|omega|assumption) only[go_sem]
 exact hQ _ _ _ _ nofun rfl (by simp[zc,zf,AV.strip,AV.strip1])
theorem zlX {l a:List (List UInt8)} {x:List UInt8} {b:List (List UInt8)} (h:l=a++x::b) (tl:List AV):((Ya l++tl).drop (0+a.length*1)).take 1=[.str x]:=by
 subst h;simp[Ya]
theorem zn9 {l a:List (List UInt8)} {x:List UInt8} {b:List (List UInt8)} (h:l=a++x::b) (tl:List AV):0+a.length*1+1≤(Ya l++tl).length:=by
 subst h;simp[Ya]
theorem zre {H:za} {b cap:Nat} {l:List (List UInt8)} (h:MsT H b cap l) (hx:∀ s∈l,s.length≤Lim) (hl:l.length≤Lim) :
  zj Tryz.prog 324 [.ms b 0 l.length cap] H (ztk fun v H'=>v=.int .i64 (indM l)∧H'=H):=by
 obtain⟨tl,hb,hc⟩:=h
 refine zj.go ir324 ck324 (Al4 _) fun KP Q hQ=>?_
 have hl':=hl
 simp only[Lim] at hl'
 simp(disch:=first|omega|assumption) only[ir324,go_sem]
 refine zG l 10 (fun n:Int=>[(3,.int .i64 n)]) (fun done rest n H'=>H'=H∧((done=[]∧n=-1)∨(done≠[]∧zd0 rest n=indM l))) (-1) (by simp(disch:=first|omega|assumption) only[go_sem]) ⟨rfl,.inl ⟨rfl,rfl⟩⟩ ?_ ?_
 ·rintro n H1 J ⟨rfl,hi⟩ hlt
  have e:n=indM l:=by
   rcases hi with ⟨h1,h2⟩|⟨_,h2⟩
   ·subst h1;subst h2;rfl
   ·simpa[zd0] using h2
  simp(disch:=first|omega|assumption) only[hlt,go_sem]
  exact hQ _ _ _ _ [_] nofun rfl (Low.refl _) ⟨by simp[zc,zf,AV.strip,AV.strip1,e],rfl⟩
 ·rintro done x rest n H1 J hd hlt hlt2 ⟨rfl,hi⟩ hJ
  have hg:=zlX hd tl
  have hle:=zn9 hd tl
  have hxl:=hx x (by rw[hd];simp)
  have hne:done++[x]≠[]:=by simp
  by_cases h0:done.length=0
  ·have h0':((done.length:Int)=0)=True:=eq_true (by omega)
   have hdn:=zap.1 h0
   have e1:n=-1:=by
    rcases hi with ⟨_,h2⟩|⟨h1,_⟩
    ·exact h2
    ·exact absurd hdn h1
   have e2:rest=l.tail:=by rw[hd,hdn];rfl
   simp(disch:=first|omega|assumption) only[hlt,hb,hg,hle,go_sem]
   refine zb (zbS x hxl) ?_
   simp(disch:=first|omega|assumption) only[h0',wrap64,go_sem]
   exact goJ (hJ n _ ⟨rfl,.inr ⟨hne,by rw[e1,e2];rfl⟩⟩) (by simp(disch:=first|omega|assumption) only[go_sem])
  have h0':¬ ((done.length:Int)=0):=by omega
  have e1:zd0 (x::rest) n=indM l:=by
   rcases hi with ⟨h1,_⟩|⟨_,h2⟩
   ·rw[h1] at h0;exact absurd rfl h0
   ·exact h2
  simp only[zd0] at e1
  cases hbr:yY x with
  | true =>
   rw[hbr,if_pos rfl] at e1
   simp(disch:=first|omega|assumption) only[hlt,hb,hg,hle,go_sem]
   refine zb (zbS x hxl) ?_
   simp(disch:=first|omega|assumption) only[h0',hbr,wrap64,go_sem]
   exact goJ (hJ n _ ⟨rfl,.inr ⟨hne,e1⟩⟩) (by simp(disch:=first|omega|assumption) only[go_sem])
  | false =>
   rw[hbr,if_neg (by decide)] at e1
   by_cases hn:n<0
   ·rw[if_pos (.inl hn)] at e1
    simp(disch:=first|omega|assumption) only[hlt,hb,hg,hle,go_sem]
    refine zb (zbS x hxl) ?_
    simp(disch:=first|omega|assumption) only[h0',hbr,hn,wrap64,go_sem]
    exact goJ (hJ (YU x) _ ⟨rfl,.inr ⟨hne,e1⟩⟩) (by simp(disch:=first|omega|assumption) only[go_sem])
   ·by_cases hn2:(YU x:Int)<n
    ·rw[if_pos (.inr hn2)] at e1
     simp(disch:=first|omega|assumption) only[hlt,hb,hg,hle,go_sem]
     refine zb (zbS x hxl) ?_
     simp(disch:=first|omega|assumption) only[h0',hbr,hn,hn2,wrap64,go_sem]
     exact goJ (hJ (YU x) _ ⟨rfl,.inr ⟨hne,e1⟩⟩) (by simp(disch:=first|omega|assumption) only[go_sem])
    ·rw[if_neg (by rintro(h|h)<;>contradiction)] at e1
     simp(disch:=first|omega|assumption) only[hlt,hb,hg,hle,go_sem]
     refine zb (zbS x hxl) ?_
     simp(disch:=first|omega|assumption) only[h0',hbr,hn,hn2,wrap64,go_sem]
     exact goJ (hJ n _ ⟨rfl,.inr ⟨hne,e1⟩⟩) (by simp(disch:=first|omega|assumption) only[go_sem])
theorem zlk (s cur:List UInt8):yJ cur s≠[]:=by
 cases s with
 | nil=>simp[yJ]
 | cons c s =>
  by_cases h:c=10∨c=13
  ·rcases h with rfl|rfl
   ·rw[zjh];simp
   ·by_cases h10:s.head?=some 10
    ·cases s with
     | nil=>cases h10
     | cons d s=>simp only[List.head?_cons,Al1] at h10;subst h10;rw[zhW];simp
    ·rw[zi1 h10];simp
  ·rw[zeS h];exact zlk s _
termination_by s.length
theorem zdQ:∀(s cur:List UInt8),((yJ cur s).map fun x=>x.length+1).sum≤cur.length+s.length+1
 | [],cur=>by simp[yJ]
 | [c],cur=>by simp only[yJ];split<;>simp
 | c::d::r,cur=>by
  have h1:=zdQ (d::r)
  have h2:=zdQ r
  simp only[yJ]
  repeat' split
  all_goals simp only[Al2,List.map_cons,List.sum_cons] at h1 ⊢
  ·have:=h1 [];simp only[Al3] at this;omega
  ·have:=h2 [];simp only[Al3] at this;omega
  ·have:=h1 [];simp only[Al3] at this;omega
  ·have:=h1 (cur++[c]);simp only[Al5,Al2,Al3] at this;omega
termination_by s=>s.length
theorem zsK {l:List (List UInt8)} {x:List UInt8} (h:x∈l):x.length+1≤(l.map fun x=>x.length+1).sum:=by
 obtain⟨a,b,rfl⟩:=List.append_of_mem h
 simp;omega
def AtR (cells:List AV) (off:Nat) (cur:List (List UInt8)):Prop:=∃ pre post,cells=pre++(Ya cur++post)∧pre.length=off
theorem AtR.get {cells:List AV} {off:Nat} {cur a:List (List UInt8)} {x:List UInt8} {r:List (List UInt8)} (h:AtR cells off cur) (hc:cur=a++x::r):(cells.drop (off+a.length*1)).take 1=[.str x]∧off+a.length*1+1≤cells.length:=by
 obtain⟨pre,post,rfl,rfl⟩:=h
 subst hc
 refine⟨?_,by simp[Ya];omega⟩
 rw[Nat.mul_one,← List.drop_drop,List.drop_left]
 simp[Ya]
theorem AtR.le {cells:List AV} {off:Nat} {cur:List (List UInt8)} (h:AtR cells off cur):off+cur.length≤cells.length:=by
 obtain⟨pre,post,rfl,rfl⟩:=h
 simp[Ya]
theorem AtR.front {cells:List AV} {b off cap:Nat} {x:List UInt8} {r:List (List UInt8)} (h:AtR cells off (x::r)) (hc:r.length+1≤cap) :
  ∃ off2,zff 1 b off (r.length+1) cap (some 1) (some ((r.length+1:Nat):Int))=some (.ms b off2 r.length (cap-1))∧AtR cells off2 r:=by
 obtain⟨pre,post,rfl,rfl⟩:=h
 have e:(((r.length+1:Nat):Int)).toNat-(1:Int).toNat=r.length:=by omega
 by_cases h1:cap=1
 ·obtain rfl:r=[]:=zap.1 (by omega)
  exact⟨pre.length,by simp[zff,h1],pre,.str x::post,by simp[Ya],rfl⟩
 ·refine⟨pre.length+1,?_,pre++[.str x],post,by simp[Ya],by simp⟩
  unfold zff
  simp only
  rw[if_pos (by omega),if_neg (by simpa using h1),e]
  simp
theorem zhL {b off cap len k:Nat} (h:k≤len):zff 1 b off len cap (some 0) (some (k:Int))=some (.ms b off k cap):=by
 unfold zff
 simp only
 rw[if_pos (by omega)]
 simp
theorem AtR.back {cells:List AV} {off:Nat} {x:List UInt8} {r:List (List UInt8)} (h:AtR cells off (r++[x])):AtR cells off r:=by
 obtain⟨pre,post,rfl,rfl⟩:=h
 exact⟨pre,.str x::post,by simp[Ya],rfl⟩
theorem zjv:∀(cur:List (List UInt8)) (post:List AV),zaL 1 cur.length (Ya cur++post)=cT cur
 | [],_=>rfl
 | x::r,post=>by
  have:=zjv r post
  simp only[Ya] at this
  simp[zaL,Ya,cT,AV.strip1,this]
theorem AtR.rows {cells:List AV} {off:Nat} {cur:List (List UInt8)} (h:AtR cells off cur):zaL 1 cur.length (cells.drop off)=cT cur:=by
 obtain⟨pre,post,rfl,rfl⟩:=h
 rw[List.drop_left,zjv]
def wL (l:List (List UInt8)):Nat:=(l.map fun x=>x.length+1).sum
theorem zf2 {l:List (List UInt8)} {x:List UInt8} (h:x∈l):x.length+1≤wL l:=zsK h
theorem zfR:∀ l:List (List UInt8),l.length≤wL l
 | []=>by simp
 | x::r=>by have:=zfR r;simp only[wL,List.map_cons,List.sum_cons,Al2] at this ⊢;omega
theorem znD (a b:List (List UInt8)):wL (a++b)=wL a+wL b:=by simp[wL]
theorem YY (x:List UInt8) (b:List (List UInt8)):wL (x::b)=x.length+1+wL b:=by simp[wL]
theorem zka (n:Nat):∀ l:List (List UInt8),wL (l.map fun s=>s.drop n)≤wL l
 | []=>by simp[wL]
 | x::r=>by have:=zka n r;simp only[List.map_cons,YY,Yv];omega
theorem zgY:∀ l:List (List UInt8),(Lib.join l [10]).length≤wL l
 | []=>by simp[Lib.join]
 | [x]=>by simp[Lib.join,wL]
 | x::y::r=>by
  have:=zgY (y::r)
  have e:Lib.join (x::y::r) [10]=x++10::Lib.join (y::r) [10]:=by simp[Lib.join]
  rw[e,YY]
  simp only[Al5,Al2];omega
theorem zcu (r:List (List UInt8)) (x:List UInt8):zcO (r++[x])=if yY x then zcO r else r++[x]:=by
 unfold zcO
 rw[List.reverse_append,List.reverse_singleton,List.singleton_append,List.dropWhile_cons]
 split
 ·rfl
 ·simp
theorem znW {α:Type} {l:List α} (h:l≠[]):∃ r x,l=r++[x]:=⟨l.dropLast,l.getLast h,(List.dropLast_concat_getLast h).symm⟩
theorem zrd (a:List (List UInt8)) (x y:List UInt8) (r:List (List UInt8)) (tl:List AV):splice (Ya (a++x::r)++tl) (0+a.length*1) [.str y]=Ya (a++y::r)++tl:=by
 have e:Ya (a++x::r)++tl=Ya a++(.str x::(Ya r++tl)):=by simp[Ya]
 rw[e]
 simp only[splice,Al2,Al3,Nat.zero_add,Nat.mul_one]
 rw[List.take_left' (YW a),List.drop_append,List.drop_eq_nil_of_le (by rw[YW];omega),YW,Nat.add_sub_cancel_left]
 simp[Ya]
theorem ztH (raw:List UInt8) (hs:raw.length≤1099511600000):zu Tryz.prog 280 [.str raw] (.str (Zm raw)):=by
 refine zu.go ir280 ck280 (Al4 _) fun KP Q hQ=>?_
 have hw0:wL (yp raw)≤raw.length+1:=by have:=zdQ raw [];simpa[wL,yp] using this
 obtain⟨x0,T,hL⟩:∃ x T,yp raw=x::T:=by
  cases hx:yp raw with
  | nil=>exact absurd hx (zlk raw [])
  | cons x T=>exact⟨x,T,rfl⟩
 have hLl:=zfR (yp raw)
 simp(disch:=first|omega|assumption) only[ir280,go_sem]
 refine zK (ztF raw (by simp only[Lim];omega)) fun v H1 ⟨b,cap,hv,hm⟩=>?_
 subst hv
 have hm0:=hm
 obtain⟨tl,hb,hcap⟩:=hm
 simp(disch:=first|omega|assumption) only[go_sem]
 refine zK (zre hm0 (fun s hsm=>by have:=zf2 hsm;simp only[Lim];omega) (by simp only[Lim];omega)) fun v H2 ⟨hv,hH⟩=>?_
 subst hv;subst hH
 by_cases hn:0<indM (yp raw)
 case neg =>
  have hn0:(indM (yp raw)).toNat=0:=by omega
  obtain⟨D,hDd⟩:∃ D,D=yp raw:=⟨_,rfl⟩
  have hDM:zcJ (yp raw)=D:=by
   rw[hDd]
   conv=>lhs;rw[hL]
   simp only[zcJ]
   rw[← hL,hn0]
   simp[hL]
  have hDl:D.length=(yp raw).length:=by rw[hDd]
  have hbX:H2 b=some (.cells (Ya D++tl)):=by rw[hDd];exact hb
  obtain⟨cells,hcells⟩:∃ cells,cells=Ya D++tl:=⟨_,rfl⟩
  rw[← hcells] at hbX
  have hwD:wL D≤1099511627777:=by rw[hDd];omega
  rw[← hDd] at hcap
  simp(disch:=first|omega|assumption) only[hn,go_sem]
  refine yK (fun x:Nat×Nat×List (List UInt8)=>[(3,.ms b x.1 x.2.2.length x.2.1)]) (fun x H'=>H'=H2∧AtR cells x.1 x.2.2∧x.2.2.length≤x.2.1∧x.2.2.dropWhile yY=D.dropWhile yY∧wL x.2.2≤wL D) (fun x=>x.2.2.length) (0,cap,D) (by simp(disch:=first|omega|assumption) only[hDl,go_sem]) ⟨rfl,⟨[],tl,by rw[hcells,Zg],rfl⟩,by simp only;omega,rfl,Al4 _⟩ ?_
  rintro⟨off,cp,cur⟩ H3 J ⟨rfl,ha,hcp,hdw,hw⟩ hJ
  simp only at ha hcp hdw hw
  have stage2:∀ K:Unit,cur=D.dropWhile yY→True:=fun _ _=>trivial
  by_cases hcur:cur=[]
  case pos =>
   subst hcur
   have hD:D.dropWhile yY=[]:=by rw[← hdw];rfl
   simp(disch:=first|omega|assumption) only[Al3,go_sem]
   refine yK (fun x:Unit=>[]) (fun x H'=>H'=H3) (fun x=>0) () (by simp(disch:=first|omega|assumption) only[Al3,go_sem]) rfl ?_
   rintro⟨⟩ H4 J4 rfl hJ4
   simp(disch:=first|omega|assumption) only[Al3,go_sem]
   refine zfQ hbX (by decide) (by have:=ha.le;simpa using this) ?_
   have hr:=ha.rows
   simp only[Al3] at hr
   simp(disch:=first|omega|assumption) only[hr,go_sem]
   refine zb (za8 [] [10] (by simp[Lib.join]) (by simp)) ?_
   have e:Zm raw=Lib.join [] [10]:=by
    unfold Zm;rw[hDM,hD];rfl
   simp(disch:=first|omega|assumption) only[go_sem]
   exact hQ _ _ _ _ nofun rfl (by simp[zc,zf,AV.strip,AV.strip1,e])
  obtain⟨x,r,hxr⟩:∃ x r,cur=x::r:=by cases cur with|nil=>exact absurd rfl hcur|cons x r=>exact⟨x,r,rfl⟩
  have hxl:x.length≤Lim:=by have:=zf2 (l:=cur) (x:=x) (by rw[hxr];simp);simp only[Lim];omega
  obtain⟨hg,hle⟩:=ha.get (a:=[]) (x:=x) (r:=r) hxr
  simp only[Al3,Nat.zero_mul,Nat.add_zero] at hg hle
  have hcl:cur.length=r.length+1:=by rw[hxr];rfl
  have hpos:((0:Int)<(cur.length:Int))=True:=eq_true (by omega)
  have h1l:((1:Int)≤(cur.length:Int))=True:=eq_true (by omega)
  cases hbr:yY x with
  | true =>
   obtain⟨off2,hcut,hat⟩:=AtR.front (b:=b) (cap:=cp) (by rw[← hxr];exact ha) (by omega)
   rw[← hcl] at hcut
   simp(disch:=first|omega|assumption) only[hpos,hbX,hg,hle,Nat.zero_mul,Nat.add_zero,go_sem]
   refine zb (zds x hxl) ?_
   simp(disch:=first|omega|assumption) only[hbr,hpos,h1l,hcut,go_sem]
   refine goJ (hJ (off2,cp-1,r) H3 (by simp only;omega) ⟨rfl,hat,by simp only;omega,by rw[← hdw,hxr];simp[hbr],by rw[hxr,YY] at hw;simp only;omega⟩) (by simp(disch:=first|omega|assumption) only[go_sem])
  | false =>
   have hDc:D.dropWhile yY=cur:=by rw[← hdw,hxr];simp[hbr]
   simp(disch:=first|omega|assumption) only[hpos,hbX,hg,hle,Nat.zero_mul,Nat.add_zero,go_sem]
   refine zb (zds x hxl) ?_
   simp(disch:=first|omega|assumption) only[hbr,go_sem]
   refine yK (fun x:List (List UInt8)=>[(3,.ms b off x.length cp)]) (fun x H'=>H'=H3∧AtR cells off x∧zcO x=zcO cur∧wL x≤wL D∧x.length≤cp) (fun x=>x.length) cur (by simp(disch:=first|omega|assumption) only[go_sem]) ⟨rfl,ha,rfl,hw,hcp⟩ ?_
   rintro u H4 J4 ⟨rfl,ha4,ht4,hw4,hc4⟩ hJ4
   by_cases hu:u=[]
   ·subst hu
    simp(disch:=first|omega|assumption) only[Al3,go_sem]
    refine zfQ hbX (by decide) (by have:=ha4.le;simpa using this) ?_
    have hr:=ha4.rows
    simp only[Al3] at hr
    simp(disch:=first|omega|assumption) only[hr,go_sem]
    refine zb (za8 [] [10] (by simp[Lib.join]) (by simp)) ?_
    have e:Zm raw=Lib.join [] [10]:=by
     unfold Zm;rw[hDM,hDc,← ht4];rfl
    simp(disch:=first|omega|assumption) only[go_sem]
    exact hQ _ _ _ _ nofun rfl (by simp[zc,zf,AV.strip,AV.strip1,e])
   obtain⟨q,y,hqy⟩:=znW hu
   have hyl:y.length≤Lim:=by have:=zf2 (l:=u) (x:=y) (by rw[hqy];simp);simp only[Lim];omega
   obtain⟨hg4,hle4⟩:=ha4.get (a:=q) (x:=y) (r:=[]) hqy
   have hul:u.length=q.length+1:=by rw[hqy];simp
   have hpos4:((0:Int)<(u.length:Int))=True:=eq_true (by omega)
   have wq:IntKind.wrap .i64 ((u.length:Int)-1)=(q.length:Int):=by rw[wrap64 (by omega) (by have:=zfR u;omega)];omega
   have h1q:((q.length:Int)<(u.length:Int))=True:=eq_true (by omega)
   have h2q:((q.length:Int)≤(u.length:Int))=True:=eq_true (by omega)
   cases hby:yY y with
   | true =>
    simp(disch:=first|omega|assumption) only[hpos4,wq,h1q,hbX,hg4,hle4,go_sem]
    refine zb (zds y hyl) ?_
    have hcut:=zhL (b:=b) (off:=off) (cap:=cp) (show q.length≤u.length by omega)
    simp(disch:=first|omega|assumption) only[hby,wq,h1q,h2q,hcut,go_sem]
    refine goJ (hJ4 q H4 (by omega) ⟨rfl,AtR.back (x:=y) (by rw[← hqy];exact ha4),by rw[← ht4,hqy,zcu,hby];rfl,by rw[hqy,znD] at hw4;omega,by omega⟩) (by simp(disch:=first|omega|assumption) only[go_sem])
   | false =>
    have hlen:=zfR u
    simp(disch:=first|omega|assumption) only[hpos4,wq,h1q,hbX,hg4,hle4,go_sem]
    refine zb (zds y hyl) ?_
    simp(disch:=first|omega|assumption) only[hby,go_sem]
    refine zfQ hbX (by decide) (by have:=ha4.le;omega) ?_
    have hr:=ha4.rows
    have hj:=zgY u
    simp(disch:=first|omega|assumption) only[hr,go_sem]
    refine zb (za8 u [10] (by omega) (by omega)) ?_
    have e:Zm raw=Lib.join u [10]:=by
     unfold Zm;rw[hDM,hDc,← ht4,hqy,zcu,hby];rfl
    simp(disch:=first|omega|assumption) only[go_sem]
    exact hQ _ _ _ _ nofun rfl (by simp[zc,zf,AV.strip,AV.strip1,e])
 case pos =>
  obtain⟨n,hne⟩:∃ n:Nat,indM (yp raw)=n:=⟨(indM (yp raw)).toNat,by omega⟩
  have hnl:n≤1099511627777:=by
   by_cases hall:∀ s∈(yp raw).tail,yY s=true
   ·have:∀(l:List (List UInt8)),(∀ s∈l,yY s=true)→zd0 l (-1)=-1:=by
     intro l
     induction l with
     | nil=>intro _;rfl
     | cons a l ih=>intro h;simp only[zd0,h a (.head _),if_true];exact ih fun s hs=>h s (.tail _ hs)
    have:=this _ hall
    have e:indM (yp raw)=zd0 (yp raw).tail (-1):=rfl
    omega
   ·obtain⟨s,hs⟩:=Classical.not_forall.1 hall
    obtain⟨hs,hb2⟩:=Classical.not_imp.1 hs
    have h1:=(zkH (yp raw).tail (-1)).2 s hs (by simpa using hb2)
    have h2:=zf2 (List.mem_of_mem_tail hs)
    have h3:YU s≤s.length:=(List.takeWhile_sublist _).length_le
    have e:indM (yp raw)=zd0 (yp raw).tail (-1):=rfl
    omega
  have hL2:=hL
  rw[hL] at hLl hw0
  have hcap0:=hcap
  rw[hL] at hb hcap0
  have hn':((0:Int)<(n:Int))=True:=eq_true (by omega)
  rw[hne]
  simp(disch:=first|omega|assumption) only[hn',go_sem]
  refine yK (fun x:List (List UInt8)×List (List UInt8)=>[(5,.int .i64 ((x.1.length:Int)+1))]) (fun x H'=>T=x.1++x.2∧H' b=some (.cells (Ya (x0::(x.1.map (fun s=>s.drop n)++x.2))++tl))) (fun x=>x.2.length) ([],T) (by simp(disch:=first|omega|assumption) only[Al3,go_sem]) ⟨rfl,by simpa using hb⟩ ?_
  rintro⟨dn,rest⟩ H3 J3 ⟨hT,hb3⟩ hJ3
  simp only at hT hb3
  have hll:(yp raw).length=dn.length+rest.length+1:=by rw[hL,hT];simp
  cases rest with
  | nil =>
   have hlt:¬ ((dn.length:Int)+1<((yp raw).length:Int)):=by simp at hll;omega
   obtain⟨D,hDd⟩:∃ D,D=x0::T.map fun s=>s.drop n:=⟨_,rfl⟩
   have hDM:zcJ (yp raw)=D:=by
    conv=>lhs;rw[hL]
    simp only[zcJ]
    rw[← hL,hne,hDd];rfl
   have hDl:D.length=(yp raw).length:=by rw[hDd,hL];simp
   have hbX:H3 b=some (.cells (Ya D++tl)):=by
    rw[hb3,hDd,hT];simp
   obtain⟨cells,hcells⟩:∃ cells,cells=Ya D++tl:=⟨_,rfl⟩
   rw[← hcells] at hbX
   have hwD:wL D≤1099511627777:=by
    have:=zka n T
    rw[hDd,YY];rw[YY] at hw0;omega
   have hcap:D.length+tl.length=cap:=by rw[hDl];exact hcap
   clear hJ3 hb3
   simp(disch:=first|omega|assumption) only[hlt,go_sem]
   refine yK (fun x:Nat×Nat×List (List UInt8)=>[(3,.ms b x.1 x.2.2.length x.2.1)]) (fun x H'=>H'=H3∧AtR cells x.1 x.2.2∧x.2.2.length≤x.2.1∧x.2.2.dropWhile yY=D.dropWhile yY∧wL x.2.2≤wL D) (fun x=>x.2.2.length) (0,cap,D) (by simp(disch:=first|omega|assumption) only[hDl,go_sem]) ⟨rfl,⟨[],tl,by rw[hcells,Zg],rfl⟩,by simp only;omega,rfl,Al4 _⟩ ?_
   rintro⟨off,cp,cur⟩ H5 J5 ⟨rfl,ha,hcp,hdw,hw⟩ hJ5
   simp only at ha hcp hdw hw
   have stage2:∀ K:Unit,cur=D.dropWhile yY→True:=fun _ _=>trivial
   by_cases hcur:cur=[]
   case pos =>
    subst hcur
    have hD:D.dropWhile yY=[]:=by rw[← hdw];rfl
    simp(disch:=first|omega|assumption) only[Al3,go_sem]
    refine yK (fun x:Unit=>[]) (fun x H'=>H'=H5) (fun x=>0) () (by simp(disch:=first|omega|assumption) only[Al3,go_sem]) rfl ?_
    rintro⟨⟩ H4 J4 rfl hJ4
    simp(disch:=first|omega|assumption) only[Al3,go_sem]
    refine zfQ hbX (by decide) (by have:=ha.le;simpa using this) ?_
    have hr:=ha.rows
    simp only[Al3] at hr
    simp(disch:=first|omega|assumption) only[hr,go_sem]
    refine zb (za8 [] [10] (by simp[Lib.join]) (by simp)) ?_
    have e:Zm raw=Lib.join [] [10]:=by
     unfold Zm;rw[hDM,hD];rfl
    simp(disch:=first|omega|assumption) only[go_sem]
    exact hQ _ _ _ _ nofun rfl (by simp[zc,zf,AV.strip,AV.strip1,e])
   obtain⟨x,r,hxr⟩:∃ x r,cur=x::r:=by cases cur with|nil=>exact absurd rfl hcur|cons x r=>exact⟨x,r,rfl⟩
   have hxl:x.length≤Lim:=by have:=zf2 (l:=cur) (x:=x) (by rw[hxr];simp);simp only[Lim];omega
   obtain⟨hg,hle⟩:=ha.get (a:=[]) (x:=x) (r:=r) hxr
   simp only[Al3,Nat.zero_mul,Nat.add_zero] at hg hle
   have hcl:cur.length=r.length+1:=by rw[hxr];rfl
   have hpos:((0:Int)<(cur.length:Int))=True:=eq_true (by omega)
   have h1l:((1:Int)≤(cur.length:Int))=True:=eq_true (by omega)
   cases hbr:yY x with
   | true =>
    obtain⟨off2,hcut,hat⟩:=AtR.front (b:=b) (cap:=cp) (by rw[← hxr];exact ha) (by omega)
    rw[← hcl] at hcut
    simp(disch:=first|omega|assumption) only[hpos,hbX,hg,hle,Nat.zero_mul,Nat.add_zero,go_sem]
    refine zb (zds x hxl) ?_
    simp(disch:=first|omega|assumption) only[hbr,hpos,h1l,hcut,go_sem]
    refine goJ (hJ5 (off2,cp-1,r) H5 (by simp only;omega) ⟨rfl,hat,by simp only;omega,by rw[← hdw,hxr];simp[hbr],by rw[hxr,YY] at hw;simp only;omega⟩) (by simp(disch:=first|omega|assumption) only[go_sem])
   | false =>
    have hDc:D.dropWhile yY=cur:=by rw[← hdw,hxr];simp[hbr]
    simp(disch:=first|omega|assumption) only[hpos,hbX,hg,hle,Nat.zero_mul,Nat.add_zero,go_sem]
    refine zb (zds x hxl) ?_
    simp(disch:=first|omega|assumption) only[hbr,go_sem]
    refine yK (fun x:List (List UInt8)=>[(3,.ms b off x.length cp)]) (fun x H'=>H'=H5∧AtR cells off x∧zcO x=zcO cur∧wL x≤wL D∧x.length≤cp) (fun x=>x.length) cur (by simp(disch:=first|omega|assumption) only[go_sem]) ⟨rfl,ha,rfl,hw,hcp⟩ ?_
    rintro u H4 J4 ⟨rfl,ha4,ht4,hw4,hc4⟩ hJ4
    by_cases hu:u=[]
    ·subst hu
     simp(disch:=first|omega|assumption) only[Al3,go_sem]
     refine zfQ hbX (by decide) (by have:=ha4.le;simpa using this) ?_
     have hr:=ha4.rows
     simp only[Al3] at hr
     simp(disch:=first|omega|assumption) only[hr,go_sem]
     refine zb (za8 [] [10] (by simp[Lib.join]) (by simp)) ?_
     have e:Zm raw=Lib.join [] [10]:=by
      unfold Zm;rw[hDM,hDc,← ht4];rfl
     simp(disch:=first|omega|assumption) only[go_sem]
     exact hQ _ _ _ _ nofun rfl (by simp[zc,zf,AV.strip,AV.strip1,e])
    obtain⟨q,y,hqy⟩:=znW hu
    have hyl:y.length≤Lim:=by have:=zf2 (l:=u) (x:=y) (by rw[hqy];simp);simp only[Lim];omega
    obtain⟨hg4,hle4⟩:=ha4.get (a:=q) (x:=y) (r:=[]) hqy
    have hul:u.length=q.length+1:=by rw[hqy];simp
    have hpos4:((0:Int)<(u.length:Int))=True:=eq_true (by omega)
    have wq:IntKind.wrap .i64 ((u.length:Int)-1)=(q.length:Int):=by rw[wrap64 (by omega) (by have:=zfR u;omega)];omega
    have h1q:((q.length:Int)<(u.length:Int))=True:=eq_true (by omega)
    have h2q:((q.length:Int)≤(u.length:Int))=True:=eq_true (by omega)
    cases hby:yY y with
    | true =>
     simp(disch:=first|omega|assumption) only[hpos4,wq,h1q,hbX,hg4,hle4,go_sem]
     refine zb (zds y hyl) ?_
     have hcut:=zhL (b:=b) (off:=off) (cap:=cp) (show q.length≤u.length by omega)
     simp(disch:=first|omega|assumption) only[hby,wq,h1q,h2q,hcut,go_sem]
     refine goJ (hJ4 q H4 (by omega) ⟨rfl,AtR.back (x:=y) (by rw[← hqy];exact ha4),by rw[← ht4,hqy,zcu,hby];rfl,by rw[hqy,znD] at hw4;omega,by omega⟩) (by simp(disch:=first|omega|assumption) only[go_sem])
    | false =>
     have hlen:=zfR u
     simp(disch:=first|omega|assumption) only[hpos4,wq,h1q,hbX,hg4,hle4,go_sem]
     refine zb (zds y hyl) ?_
     simp(disch:=first|omega|assumption) only[hby,go_sem]
     refine zfQ hbX (by decide) (by have:=ha4.le;omega) ?_
     have hr:=ha4.rows
     have hj:=zgY u
     simp(disch:=first|omega|assumption) only[hr,go_sem]
     refine zb (za8 u [10] (by omega) (by omega)) ?_
     have e:Zm raw=Lib.join u [10]:=by
      unfold Zm;rw[hDM,hDc,← ht4,hqy,zcu,hby];rfl
     simp(disch:=first|omega|assumption) only[go_sem]
     exact hQ _ _ _ _ nofun rfl (by simp[zc,zf,AV.strip,AV.strip1,e])
  | cons y r =>
   have hlt:((dn.length:Int)+1<((yp raw).length:Int))=True:=eq_true (by simp at hll;omega)
   have hcur:x0::(dn.map (fun s=>s.drop n)++y::r)=(x0::dn.map (fun s=>s.drop n))++y::r:=rfl
   have hg:=zlX hcur tl
   have hle:=zn9 hcur tl
   have hal:(x0::dn.map (fun s=>s.drop n)).length=dn.length+1:=by simp
   have hst:∀ z,splice (Ya (x0::(dn.map (fun s=>s.drop n)++y::r))++tl) (0+(dn.length+1)*1) [.str z]=Ya (x0::(dn.map (fun s=>s.drop n)++z::r))++tl:=fun z=>by
    have:=zrd (x0::dn.map (fun s=>s.drop n)) y z r tl
    rw[hal] at this
    exact this
   rw[hal] at hg hle
   have h1:((dn.length:Int)+1).toNat=dn.length+1:=by omega
   have hy0:((0:Int)≤(y.length:Int))=True:=eq_true (by omega)
   have hln:dn.length≤1099511627777:=by omega
   by_cases hmin:(y.length:Int)<(n:Int)
   ·have hdr:y.drop y.length=y.drop n:=by rw[List.drop_length,List.drop_eq_nil_of_le (by omega)]
    simp(disch:=first|omega|assumption) only[hlt,h1,hb3,hg,hle,hst,hmin,hy0,List.drop_length,go_sem]
    refine goJ (hJ3 (dn++[y],r) _ (by simp) ⟨by rw[hT];simp,?_⟩) (by simp(disch:=first|omega|assumption) only[wrap64,Al5,Al2,Al3,Int.natCast_add,go_sem])
    rw[upd_same]
    simp[List.drop_eq_nil_of_le (show y.length≤n by omega)]
   ·have hny:((n:Int)≤(y.length:Int))=True:=eq_true (by omega)
    have hn0:((0:Int)≤(n:Int))=True:=eq_true (by omega)
    simp(disch:=first|omega|assumption) only[hlt,h1,hb3,hg,hle,hst,hmin,hny,hn0,go_sem]
    refine goJ (hJ3 (dn++[y],r) _ (by simp) ⟨by rw[hT];simp,?_⟩) (by simp(disch:=first|omega|assumption) only[wrap64,Al5,Al2,Al3,Int.natCast_add,go_sem])
    rw[upd_same]
    simp
end Go.Proofs.YticbbfbpeimkbaaGreatDoor
