import Derived.Test.YtbcocdloklbkjaaGreatDoorM1
import Derived.Test.YtbcocdloklbkjaaGreatDoorM2
import Derived.Test.YtbcocdloklbkjaaGreatDoorM3
import Derived.Test.YtbcocdloklbkjaaGreatDoorM4
import Derived.Test.YtbcocdloklbkjaaGreatDoorM5
import Derived.Test.YtbcocdloklbkjaaGreatDoorM6
import Derived.Test.YtbcocdloklbkjaaGreatDoorM7
import Derived.Test.YtbcocdloklbkjaaGreatDoorM8
set_option maxRecDepth 100000
set_option linter.all false
namespace Go.Proofs.YtbcocdloklbkjaaGreatDoor
open Go.Ab
noncomputable def tgB (s:SchD) (fr:List (List UInt8×List ItD)) (g:ItD→ItD→yi→Bool×yi) (x y:ItD) (S:yi):Bool×yi :=
 match Yl S.2 (x.no,y.no) with
 | some r=>(r,S)
 | none =>
  if (shF s fr 64 x y S).1=true then
   if ze8 s x y=true then (true,((shF s fr 64 x y S).2.1,ZC (shF s fr 64 x y S).2.2 (x.no,y.no) true))
   else if (decide (x.x.nm=y.x.nm)&&zbQ x.args y.args)=true then
    ((Y7 g (yT fr x) (yT fr y) (shF s fr 64 x y S).2).1,((Y7 g (yT fr x) (yT fr y) (shF s fr 64 x y S).2).2.1,ZC (Y7 g (yT fr x) (yT fr y) (shF s fr 64 x y S).2).2.2 (x.no,y.no) (Y7 g (yT fr x) (yT fr y) (shF s fr 64 x y S).2).1))
   else (false,((shF s fr 64 x y S).2.1,ZC (shF s fr 64 x y S).2.2 (x.no,y.no) false))
  else (false,((shF s fr 64 x y S).2.1,ZC (shF s fr 64 x y S).2.2 (x.no,y.no) false))
noncomputable def tgF (s:SchD) (fr:List (List UInt8×List ItD)):Nat→ItD→ItD→yi→Bool×yi
 | 0=>tgB s fr fun _ _ S=>(true,S)
 | n+1=>tgB s fr (tgF s fr n)
theorem tgG (s : SchD) (fr : List (List UInt8 × List ItD)) (b bf bs bp no : Nat) (hs : zJ s ≤ Lim) (n m : Nat) (g : ItD → ItD → yi → Bool × yi) (x y : ItD) (hx : Ex fr n x.sub) (hn : n ≤ 64) (hy : Ex fr m y.sub) (hm : m ≤ 64) (hxa : bMs x.args ≤ Lim) (hya : bMs y.args ≤ Lim)
    (hg : ∀ u ∈ yT fr x, ∀ v ∈ yT fr y, zfw s fr b bf bs bp no 115 g u v) : zfw s fr b bf bs bp no 115 (tgB s fr g) x y := by
  intro S H hH
  have hac := zl8 s fr b bf bs bp no 115 g x y n m (by kernel_rfl) hx hn hy hm hg
  have hkx := zcx s x.typ [1] (yc hs) (by simp [Lim])
  have hky := zcx s y.typ [1] (yc hs) (by simp [Lim])
  have hsh := shC s fr b bf bs bp no hs 64 m x y (Al4 _) hm (hx.mono hn) hy S
  have hal := zuf x.args y.args hxa hya
  have hgx := ziB x.no y.no S.2
  have hst := fun v l => ziu x.no y.no v l
  have eap : ze8 s x y = (!decide (x.typ = y.typ) && y8 s x.typ [1] && y8 s y.typ [1]) := rfl
  have e0 : tgB s fr g x y S = match Yl S.2 (x.no, y.no) with
    | some r => (r, S)
    | none =>
      if (shF s fr 64 x y S).1 = true then
        if ze8 s x y = true then (true, ((shF s fr 64 x y S).2.1, ZC (shF s fr 64 x y S).2.2 (x.no, y.no) true))
        else if (decide (x.x.nm = y.x.nm) && zbQ x.args y.args) = true then
          ((Y7 g (yT fr x) (yT fr y) (shF s fr 64 x y S).2).1, ((Y7 g (yT fr x) (yT fr y) (shF s fr 64 x y S).2).2.1, ZC (Y7 g (yT fr x) (yT fr y) (shF s fr 64 x y S).2).2.2 (x.no, y.no) (Y7 g (yT fr x) (yT fr y) (shF s fr 64 x y S).2).1))
        else (false, ((shF s fr 64 x y S).2.1, ZC (shF s fr 64 x y S).2.2 (x.no, y.no) false))
      else (false, ((shF s fr 64 x y S).2.1, ZC (shF s fr 64 x y S).2.2 (x.no, y.no) false)) := rfl
  generalize hF : tgB s fr g x y S = F at *
  generalize shF s fr 64 x y S = A at *
  replace hac := hac A.2
  generalize Y7 g (yT fr x) (yT fr y) A.2 = B at *
  have hb := hH.look
  have hbp := hH.pr
  have hfit : ∀ i j : Nat, KT.fits kPr (.agg [.int .i64 i, .int .i64 j]) = true := fun _ _ => rfl
  have fin : ∀ r S' H', F = (r, S') → LkH s fr b bf bs bp no S' H' → LkK bs bp H H' → (AV.bool r = .bool F.1 ∧ LkH s fr b bf bs bp no F.2 H' ∧ LkK bs bp H H') := fun r S' H' e h1 h2 => by rw [e]; exact ⟨rfl, h1, h2⟩
  have setS : ∀ S' H' v, LkH s fr b bf bs bp no S' H' → LkK bs bp H H' → LkH s fr b bf bs bp no (S'.1, ZC S'.2 (x.no, y.no) v) (H'.upd bp (.map kPr (cPr (ZC S'.2 (x.no, y.no) v)))) ∧ LkK bs bp H (H'.upd bp (.map kPr (cPr (ZC S'.2 (x.no, y.no) v)))) := fun S' H' v h hk => by
    have n1 : b ≠ bp := fun e => by have := h.look; rw [e, h.pr] at this; cases this
    have n2 : bf ≠ bp := fun e => by have := h.frs; rw [e, h.pr] at this; cases this
    refine ⟨⟨by simp only [zc.upd, n1, if_false]; exact h.look, by simp only [zc.upd, n2, if_false]; exact h.frs, by simp only [zc.upd, h.ne, if_false]; exact h.sh, upd_same .., h.ne⟩, fun c z hc h1 h2 => ?_⟩
    simp only [zc.upd, h2, if_false]; exact hk c z hc h1 h2
  generalize ze8 s x y = ap at *
  generalize y8 s x.typ [1] = kx at *
  generalize y8 s y.typ [1] = ky at *
  generalize zbQ x.args y.args = lk at *
  obtain ⟨xno, xk, xal, xnm, xargs, xdirs, xon, xsels, xtyp, xsub, rfl⟩ := zcZ x
  obtain ⟨yno, yk, yal, ynm, yargs, ydirs, yon, ysels, ytyp, ysub, rfl⟩ := zcZ y
  simp only [ItD.no, ItD.x, ItD.typ, SelD.nm, ItD.args] at hkx hky hgx hst e0 setS hal eap
  obtain ⟨sd, sq, sm⟩ := s
  have hcs : zq ⟨sd, sq, sm⟩ = [.sl .no 6 (cEs sd), .str sq, .str sm] := rfl
  simp only [hcs, Al6, zc8] at hkx hky hb
  rw [ZF, ZF] at hac hsh ⊢
  have nbp : b ≠ bp := fun e => by subst e; rw [hb] at hbp; cases hbp
  refine zj.goO ir115 ck115 (Al4 _) fun KP Q hQ hP => ?_
  simp (disch := omega) only [ir115, go_sem]
  refine zb fun b7 hb7 => ?_
  have n7 : b ≠ b7 := fun e => by subst e; rw [hb] at hb7; cases hb7
  have n7p : bp ≠ b7 := fun e => by subst e; rw [hbp] at hb7; cases hb7
  have n7s : b7 ≠ bs := fun e => by subst e; rw [hH.sh] at hb7; cases hb7
  have hH7 := hH.keep (Zz (x := .cells [.int .i64 xno, .int .i64 yno]) hb7)
  have hK7 : LkK bs bp H (H.upd b7 (.cells [.int .i64 xno, .int .i64 yno])) := LkK.upd (fun c z hc _ _ => hc) hb7
  cases hpg : Yl S.2 (xno, yno) with
  | some r =>
    rw [hpg] at hgx e0
    simp only [zaF] at hgx
    simp (disch := omega) only [n7, Ne.symm n7, n7p, Ne.symm n7p, nbp, Ne.symm nbp, hb, hbp, hgx, hfit, YB, Option.getD_some, Option.isSome_some, go_sem]
    exact hQ _ _ _ _ [.bool r] nofun rfl (Low.refl _) (fin r S _ e0 hH7 hK7)
  | none =>
    rw [hpg] at hgx e0
    simp only [Option.map_none] at hgx
    replace hsh := hsh _ hH7
    have tail : ∀ (v : Bool) H3, LkH ⟨sd, sq, sm⟩ fr b bf bs bp no A.2 H3 → LkK bs bp H H3 → F = (v, (A.2.1, ZC A.2.2 (xno, yno) v)) → (AV.bool v = .bool F.1 ∧ LkH ⟨sd, sq, sm⟩ fr b bf bs bp no F.2 (H3.upd bp (.map kPr (cPr (ZC A.2.2 (xno, yno) v)))) ∧ LkK bs bp H (H3.upd bp (.map kPr (cPr (ZC A.2.2 (xno, yno) v))))) := fun v H3 h1 h2 e => by
      obtain ⟨q1, q2⟩ := setS A.2 H3 v h1 h2
      exact fin v _ _ e q1 q2
    have after : ∀ (v : AV) H3, (v = .bool A.1 ∧ LkH ⟨sd, sq, sm⟩ fr b bf bs bp no A.2 H3 ∧ LkK bs bp (H.upd b7 (.cells [.int .i64 xno, .int .i64 yno])) H3) → v = .bool A.1 ∧ LkH ⟨sd, sq, sm⟩ fr b bf bs bp no A.2 H3 ∧ LkK bs bp H H3 ∧ H3 b7 = some (.cells [.int .i64 xno, .int .i64 yno]) ∧ H3 b = some (.cells [.sl .no 6 (cEs sd), .str sq, .str sm, .int .i64 no, .mp bf, .mp bs, .mp bp]) ∧ H3 bp = some (.map kPr (cPr A.2.2)) := fun v H3 ⟨h1, h2, h3⟩ =>
      ⟨h1, h2, hK7.trans h3, h3 b7 _ (upd_same ..) n7s (Ne.symm n7p), h2.look, h2.pr⟩
    obtain ⟨Ar, A1, A2⟩ := A
    simp only at after tail e0 hac
    have hst1 := fun v => hst v A2
    have pre : (xtyp = ytyp ∧ ap = false) ∨ (xtyp ≠ ytyp ∧ kx = false ∧ ap = false) ∨ (xtyp ≠ ytyp ∧ kx = true ∧ ky = ap) := by
      by_cases h : xtyp = ytyp
      · exact .inl ⟨h, by rw [eap]; simp [h]⟩
      · cases kx with
        | false => exact .inr (.inl ⟨h, rfl, by rw [eap]; simp⟩)
        | true => exact .inr (.inr ⟨h, rfl, by rw [eap]; simp [h]⟩)
    rcases pre with ⟨ht, hap⟩ | ⟨ht, hk1, hap⟩ | ⟨ht, hk1, hap⟩
    case' inl =>
      have ht' := eq_true ht
      simp (disch := omega) only [n7, Ne.symm n7, n7p, Ne.symm n7p, nbp, Ne.symm nbp, hb, hbp, hgx, hfit, YB, Option.getD_none, Option.isSome_none, ht', go_sem]
      refine yH (XP := fun _ _ => False) hsh (fun v H3 h => ?_) (fun _ _ h => h.elim)
    case' inr.inl =>
      rw [hk1] at hkx
      simp (disch := omega) only [n7, Ne.symm n7, n7p, Ne.symm n7p, nbp, Ne.symm nbp, hb, hbp, hgx, hfit, YB, Option.getD_none, Option.isSome_none, ht, go_sem]
      refine za (zg.low hkx) ?_
      simp (disch := omega) only [n7, Ne.symm n7, n7p, Ne.symm n7p, nbp, Ne.symm nbp, hb, go_sem]
      refine yH (XP := fun _ _ => False) hsh (fun v H3 h => ?_) (fun _ _ h => h.elim)
    case' inr.inr =>
      rw [hk1] at hkx
      rw [hap] at hky
      simp (disch := omega) only [n7, Ne.symm n7, n7p, Ne.symm n7p, nbp, Ne.symm nbp, hb, hbp, hgx, hfit, YB, Option.getD_none, Option.isSome_none, ht, go_sem]
      refine za (zg.low hkx) ?_
      simp (disch := omega) only [n7, Ne.symm n7, n7p, Ne.symm n7p, nbp, Ne.symm nbp, hb, go_sem]
      refine za (zg.low hky) ?_
      simp (disch := omega) only [n7, Ne.symm n7, n7p, Ne.symm n7p, nbp, Ne.symm nbp, hb, go_sem]
      refine yH (XP := fun _ _ => False) hsh (fun v H3 h => ?_) (fun _ _ h => h.elim)
    all_goals
      obtain ⟨rfl, hH3, hK3, c73, hb3, hbp3⟩ := after v H3 h
      have hac3 := hac H3 hH3
      cases Ar with
      | false =>
        simp only [Al7, if_false] at e0
        simp (disch := omega) only [hb3, c73, hbp3, hfit, hst1, go_sem]
        exact hQ _ _ _ _ [.bool false] nofun rfl (Low.refl _) (tail false H3 hH3 hK3 e0)
      | true =>
        simp only [if_true] at e0
        cases ap with
        | true =>
          first
          | (cases hap; done)
          | (simp only [if_true] at e0
             simp (disch := omega) only [hb3, c73, hbp3, hfit, hst1, go_sem]
             exact hQ _ _ _ _ [.bool true] nofun rfl (Low.refl _) (tail true H3 hH3 hK3 e0))
        | false =>
          simp only [Al7, if_false] at e0
          by_cases hnm : xnm = ynm
          case neg =>
            simp only [hnm, decide_false, Bool.false_and, Al7, if_false] at e0
            simp (disch := omega) only [hb3, c73, hbp3, hfit, hst1, hnm, go_sem]
            exact hQ _ _ _ _ [.bool false] nofun rfl (Low.refl _) (tail false H3 hH3 hK3 e0)
          have hnm' := eq_true hnm
          simp only [hnm, decide_true, Bool.true_and] at e0
          simp (disch := omega) only [hb3, c73, hbp3, hfit, hst1, hnm', go_sem]
          refine za hal ?_
          cases lk with
          | false =>
            simp only [Al7, if_false] at e0
            simp (disch := omega) only [hb3, c73, hbp3, hfit, hst1, go_sem]
            exact hQ _ _ _ _ [.bool false] nofun rfl (Low.refl _) (tail false H3 hH3 hK3 e0)
          | true =>
            simp only [if_true] at e0
            simp (disch := omega) only [hb3, c73, hbp3, hfit, hst1, go_sem]
            refine yH (XP := fun _ _ => False) hac3 (fun v H4 ⟨e4, hH4, hK4⟩ => ?_) (fun _ _ h => h.elim)
            subst e4
            have c74 := hK4 b7 _ c73 n7s (Ne.symm n7p)
            have hb4 : H4 b = some (.cells [.sl .no 6 (cEs sd), .str sq, .str sm, .int .i64 no, .mp bf, .mp bs, .mp bp]) := hH4.look
            have hbp4 := hH4.pr
            have hst4 := hst B.1 B.2.2
            obtain ⟨q1, q2⟩ := setS B.2 H4 B.1 hH4 (hK3.trans hK4)
            simp (disch := omega) only [hb4, c74, hbp4, hfit, hst4, go_sem]
            exact hQ _ _ _ _ [.bool B.1] nofun rfl (Low.refl _) (fin B.1 _ _ e0 q1 q2)
theorem tgC (s:SchD) (fr:List (List UInt8×List ItD)) (b bf bs bp no:Nat) (hs:zJ s≤Lim):∀(f m:Nat) (x y:ItD),f≤64→m≤64→Ex fr f x.sub→Ex fr m y.sub→bMs x.args≤Lim→bMs y.args≤Lim→zfw s fr b bf bs bp no 115 (tgF s fr f) x y
 | 0,m,x,y,hf,hm,hx,hy,hxa,hya=>tgG s fr b bf bs bp no hs 0 m _ x y hx hf hy hm hxa hya fun u hu v hv=>by
  obtain⟨i,hi,_⟩:=Zu (seen:=[]) (f:=64) hx hf hu
  omega
 | f+1,m,x,y,hf,hm,hx,hy,hxa,hya=>tgG s fr b bf bs bp no hs (f+1) m (tgF s fr f) x y hx hf hy hm hxa hya fun u hu v hv=>by
  obtain⟨i,hi,h1,h3⟩:=Zu (seen:=[]) (f:=64) hx hf hu
  obtain⟨j,hj,h2,h4⟩:=Zu (seen:=[]) (f:=64) hy hm hv
  exact tgC s fr b bf bs bp no hs f j u v (by omega) (by omega) (h1.mono (by omega)) h2 h3 h4
def rowB (g:ItD→ItD→yi→Bool×yi) (x:ItD):List ItD→yi→Bool×yi
 | [],S=>(true,S)
 | y::r,S=>if Y6 x.x=Y6 y.x then (match g y x S with|(true,S')=>rowB g x r S'|(false,S')=>(false,S')) else rowB g x r S
def zay (g:ItD→ItD→yi→Bool×yi):List ItD→List ItD→yi→Bool×yi
 | _,[],S=>(true,S)
 | a,x::r,S=>match rowB g x a S with|(true,S')=>zay g (a++[x]) r S'|(false,S')=>(false,S')
def zel (h:List ItD→yi→Bool×yi):List ItD→yi→Bool×yi
 | [],S=>(true,S)
 | x::r,S=>match h x.sub S with|(true,S')=>zel h r S'|(false,S')=>(false,S')
noncomputable def lsB (s:SchD) (fr:List (List UInt8×List ItD)) (h:List ItD→yi→Bool×yi) (l:List ItD) (S:yi):Bool×yi :=
 match zay (tgF s fr 64) [] (flF fr 64 l []).1 S with|(true,S')=>zel h l S'|(false,S')=>(false,S')
noncomputable def lsF (s:SchD) (fr:List (List UInt8×List ItD)):Nat→List ItD→yi→Bool×yi
 | 0=>lsB s fr fun _ S=>(true,S)
 | n+1=>lsB s fr (lsF s fr n)
def zoi (s:SchD) (fr:List (List UInt8×List ItD)) (b bf bs bp no:Nat) (h:List ItD→yi→Bool×yi) (l:List ItD):Prop :=
 ∀ S H,LkH s fr b bf bs bp no S H→zj Tryz.prog 67 [.ptr b 0,.sl .no 10 (yJ l)] H (fun e H'=>match e with|.ret v=>v=.bool (h l S).1∧LkH s fr b bf bs bp no (h l S).2 H'∧LkK bs bp H H'|.pan _=>False)
theorem lsG (s:SchD) (fr:List (List UInt8×List ItD)) (b bf bs bp no:Nat) (hs:zJ s≤Lim) (n:Nat) (h:List ItD→yi→Bool×yi) (l:List ItD) (hx:Ex fr n l) (hn:n≤64) (hsub:∀ x∈l,zoi s fr b bf bs bp no h x.sub):zoi s fr b bf bs bp no (lsB s fr h) l:=by
 intro S H hH
 have hpair:∀ x∈(flF fr 64 l []).1,∀ y∈(flF fr 64 l []).1,zfw s fr b bf bs bp no 115 (tgF s fr 64) x y:=fun x hx1 y hy1=>by
  obtain⟨i,hi,h1,h3⟩:=Zu hx hn hx1
  obtain⟨j,hj,h2,h4⟩:=Zu hx hn hy1
  exact tgC s fr b bf bs bp no hs 64 j x y (Al4 _) (by omega) (h1.mono (by omega)) h2 h3 h4
 have hal:=zf2 (seen:=[]) hx hn
 have hll:l.length≤n:=by
  have h:∀(l:List ItD) n,Ex fr n l→l.length≤n:=by
   intro l
   induction l with
   | nil=>intro n _;simp
   | cons x r ih =>
    intro n h
    cases h with
    | cons hle h1 h2 h3 ha=>have:=ih _ h3;simp only[Al2];omega
  exact h l n hx
 have e0:lsB s fr h l S=match zay (tgF s fr 64) [] (flF fr 64 l []).1 S with|(true,S')=>zel h l S'|(false,S')=>(false,S'):=rfl
 obtain⟨sd,sq,sm⟩:=s
 have hflat:=fun H bm hb hbf hbm hne=>zr3 fr b bf (.sl .no 6 (cEs sd)) (.str sq) (.str sm) (.int .i64 no) (.mp bs) (.mp bp) n l [] H bm 64 hx hn (by omega) hb hbf hbm hne
 generalize hF:lsB ⟨sd,sq,sm⟩ fr h l S=F at *
 generalize flF fr 64 l []=fl at *
 obtain⟨all,sn⟩:=fl
 simp only at hpair hal e0 hflat
 generalize tgF ⟨sd,sq,sm⟩ fr 64=g at *
 have l1:=Yp all
 have l2:=Yp l
 generalize hPr:zay g [] all S=Pr at *
 have fin:∀ r S' H',F=(r,S')→LkH ⟨sd,sq,sm⟩ fr b bf bs bp no S' H'→LkK bs bp H H'→(AV.bool r=.bool F.1∧LkH ⟨sd,sq,sm⟩ fr b bf bs bp no F.2 H'∧LkK bs bp H H'):=fun r S' H' e h1 h2=>by rw[e];exact⟨rfl,h1,h2⟩
 refine zj.goO ir67 ck67 (Al4 _) fun KP Q hQ hP=>?_
 simp(disch:=omega) only[ir67,go_sem]
 refine zb fun bm hbm=>?_
 have hk0:=Zz (x:=.map (.one .s) (cSn [])) hbm
 have n2:bf≠bm:=fun e=>by subst e;rw[hH.frs] at hbm;cases hbm
 simp(disch:=omega) only[go_sem]
 refine yH (XP:=fun _ _=>False) (hflat _ bm (hk0 _ _ hH.look) (hk0 _ _ hH.frs) (upd_same ..) n2) (fun v H1 ⟨o1,e1,hk1⟩=>?_) (fun _ _ h=>h.elim)
 subst e1
 have hkeep:∀ c x,H c=some x→H1 c=some x:=fun c x hc=>hk1.kept c x (hk0 c x hc) fun e=>by subst e;rw[hbm] at hc;cases hc
 have hH1:=hH.keep hkeep
 simp(disch:=omega) only[l1,go_sem]
 refine zf all 18 (fun _:yi=>[]) (fun done rest S' H'=>zay g done rest S'=Pr∧LkH ⟨sd,sq,sm⟩ fr b bf bs bp no S' H'∧LkK bs bp H H') S (by simp(disch:=omega) only[go_sem]) ⟨hPr,hH1,fun c x hc _ _=>hkeep c x hc⟩ ?_ ?_
 ·rintro S3 H3 J ⟨hn3,hH3,hK3⟩ hlt
  simp only[zay] at hn3
  rw[← hn3] at e0
  simp only at e0
  simp(disch:=omega) only[l1,hlt,l2,go_sem]
  refine zf l 47 (fun _:yi=>[]) (fun done rest S' H'=>zel h rest S'=F∧LkH ⟨sd,sq,sm⟩ fr b bf bs bp no S' H'∧LkK bs bp H H') S3 (by simp(disch:=omega) only[go_sem]) ⟨e0.symm,hH3,hK3⟩ ?_ ?_
  ·rintro S4 H4 J2 ⟨hn4,hH4,hK4⟩ hlt2
   simp only[zel] at hn4
   simp(disch:=omega) only[l2,hlt2,go_sem]
   exact hQ _ _ H4 H4 [.bool true] nofun rfl (Low.refl _) (fin _ _ _ hn4.symm hH4 hK4)
  ·rintro done x rest S4 H4 J2 hd hlt2 _ ⟨hn4,hH4,hK4⟩ hJ2
   have hg2:=zbT hd
   have hxs:=hsub x (by rw[hd];simp)
   simp only[zel] at hn4
   generalize hG:h x.sub S4=G at *
   obtain⟨xno,xk,xal,xnm,xargs,xdirs,xon,xsels,xtyp,xsub,rfl⟩:=zcZ x
   simp only[ItD.sub] at hxs hG
   rw[ZF] at hg2
   simp(disch:=omega) only[l2,hlt2,hg2,go_sem]
   refine zb fun b11 hb11=>?_
   have hH5:=hH4.keep (Zz (x:=.cells [.int .i64 xno,.int .i64 xk,.str xal,.str xnm,.sl .no 6 (cMs xargs),.sl .no 2 (cDs xdirs),.str xon,.sl .no 7 (cSs xsels),.str xtyp,.sl .no 10 (yJ xsub)]) hb11)
   have hK5:=hK4.upd (x:=.cells [.int .i64 xno,.int .i64 xk,.str xal,.str xnm,.sl .no 6 (cMs xargs),.sl .no 2 (cDs xdirs),.str xon,.sl .no 7 (cSs xsels),.str xtyp,.sl .no 10 (yJ xsub)]) hb11
   have hcall:=hxs S4 _ hH5
   rw[hG] at hcall
   obtain⟨gr,gS⟩:=G
   simp(disch:=omega) only[go_sem]
   refine yH (XP:=fun _ _=>False) hcall (fun v H7 ⟨e7,hH7,hK7⟩=>?_) (fun _ _ h=>h.elim)
   subst e7
   cases gr with
   | true =>
    simp only at hn4
    simp(disch:=omega) only[go_sem]
    exact goJ (hJ2 gS H7 ⟨hn4,hH7,hK5.trans hK7⟩) (by simp(disch:=omega) only[wrap64,go_sem])
   | false =>
    simp only at hn4
    simp(disch:=omega) only[go_sem]
    exact hQ _ _ H7 H7 [.bool false] nofun rfl (Low.refl _) (fin _ _ _ hn4.symm hH7 (hK5.trans hK7))
 ·rintro done x rest S3 H3 J hd hlt hlt' ⟨hn3,hH3,hK3⟩ hJ
  have hg1:=zbT hd
  have hxm:x∈all:=by rw[hd];simp
  have htk:(yJ all).take done.length=yJ done:=by rw[hd];simp[za5]
  have hle:(done.length:Int)≤all.length:=by omega
  have l3:=Yp done
  simp only[zay] at hn3
  have hkx:=zrr x.x
  have hgx:=fun y hy=>hpair y hy x hxm
  generalize hR:rowB g x done S3=R at *
  obtain⟨xno,xk,xal,xnm,xargs,xdirs,xon,xsels,xtyp,xsub,rfl⟩:=zcZ x
  simp only[ItD.x] at hkx
  rw[ZF] at hg1
  rw[Zb] at hkx
  simp(disch:=omega) only[l1,hlt,hg1,go_sem]
  refine zb fun b7 hb7=>?_
  have hH4:=hH3.keep (Zz (x:=.cells [.int .i64 xno,.int .i64 xk,.str xal,.str xnm,.sl .no 6 (cMs xargs),.sl .no 2 (cDs xdirs),.str xon,.sl .no 7 (cSs xsels),.str xtyp,.sl .no 10 (yJ xsub)]) hb7)
  have hK4:=hK3.upd (x:=.cells [.int .i64 xno,.int .i64 xk,.str xal,.str xnm,.sl .no 6 (cMs xargs),.sl .no 2 (cDs xdirs),.str xon,.sl .no 7 (cSs xsels),.str xtyp,.sl .no 10 (yJ xsub)]) hb7
  have ns:b7≠bs:=fun e=>by subst e;rw[hH3.sh] at hb7;cases hb7
  have np:b7≠bp:=fun e=>by subst e;rw[hH3.pr] at hb7;cases hb7
  simp(disch:=omega) only[l1,hle,htk,l3,go_sem]
  refine zf done 27 (fun _:yi=>[]) (fun done rest S' H'=>rowB g (.mk xno (.mk xk xal xnm xargs xdirs xon xsels) xtyp xsub) rest S'=R∧LkH ⟨sd,sq,sm⟩ fr b bf bs bp no S' H'∧LkK bs bp H H'∧H' b7=some (.cells [.int .i64 xno,.int .i64 xk,.str xal,.str xnm,.sl .no 6 (cMs xargs),.sl .no 2 (cDs xdirs),.str xon,.sl .no 7 (cSs xsels),.str xtyp,.sl .no 10 (yJ xsub)])) S3 (by simp(disch:=omega) only[go_sem]) ⟨hR,hH4,hK4,upd_same ..⟩ ?_ ?_
  ·rintro S5 H5 J2 ⟨hn5,hH5,hK5,_⟩ hlt2
   simp only[rowB] at hn5
   rw[← hn5] at hn3
   simp only at hn3
   simp(disch:=omega) only[l3,hlt2,go_sem]
   exact goJ (hJ S5 H5 ⟨hn3,hH5,hK5⟩) (by simp(disch:=omega) only[wrap64,go_sem])
  ·rintro done2 y rest2 S5 H5 J2 hd2 hlt2 _ ⟨hn5,hH5,hK5,c7⟩ hJ2
   have hg2:=zbT hd2
   have hym:y∈all:=by rw[hd,hd2];simp
   have hgy:=hgx y hym
   have hky:=zrr y.x
   simp only[rowB] at hn5
   generalize hG:g y (.mk xno (.mk xk xal xnm xargs xdirs xon xsels) xtyp xsub) S5=G at *
   obtain⟨yno,yk,yal,ynm,yargs,ydirs,yon,ysels,ytyp,ysub,rfl⟩:=zcZ y
   simp only[ItD.x] at hky hn5
   rw[ZF] at hg2
   rw[Zb] at hky
   simp(disch:=omega) only[l3,hlt2,hg2,go_sem]
   refine zb fun b9 hb9=>?_
   have hne:b7≠b9:=fun e=>by subst e;rw[c7] at hb9;cases hb9
   have hH6:=hH5.keep (Zz (x:=.cells [.int .i64 yno,.int .i64 yk,.str yal,.str ynm,.sl .no 6 (cMs yargs),.sl .no 2 (cDs ydirs),.str yon,.sl .no 7 (cSs ysels),.str ytyp,.sl .no 10 (yJ ysub)]) hb9)
   have hK6:=hK5.upd (x:=.cells [.int .i64 yno,.int .i64 yk,.str yal,.str ynm,.sl .no 6 (cMs yargs),.sl .no 2 (cDs ydirs),.str yon,.sl .no 7 (cSs ysels),.str ytyp,.sl .no 10 (yJ ysub)]) hb9
   have c7':=Zz (x:=.cells [.int .i64 yno,.int .i64 yk,.str yal,.str ynm,.sl .no 6 (cMs yargs),.sl .no 2 (cDs ydirs),.str yon,.sl .no 7 (cSs ysels),.str ytyp,.sl .no 10 (yJ ysub)]) hb9 _ _ c7
   simp(disch:=omega) only[c7,hne,Ne.symm hne,go_sem]
   refine za hkx ?_
   simp(disch:=omega) only[c7,hne,Ne.symm hne,go_sem]
   refine za hky ?_
   by_cases hkk:Y6 (.mk xk xal xnm xargs xdirs xon xsels)=Y6 (.mk yk yal ynm yargs ydirs yon ysels)
   case neg =>
    simp only[hkk,if_false] at hn5
    simp(disch:=omega) only[c7,hne,Ne.symm hne,hkk,go_sem]
    exact goJ (hJ2 S5 _ ⟨hn5,hH6,hK6,c7'⟩) (by simp(disch:=omega) only[wrap64,go_sem])
   simp only[hkk,if_true] at hn5
   have hkk':=eq_true hkk
   have hcall:=hgy S5 _ hH6
   rw[ZF,ZF,hG] at hcall
   obtain⟨gr,gS⟩:=G
   simp(disch:=omega) only[c7,hne,Ne.symm hne,hkk',go_sem]
   refine yH (XP:=fun _ _=>False) hcall (fun v H7 ⟨e7,hH7,hK7⟩=>?_) (fun _ _ h=>h.elim)
   subst e7
   have c77:=hK7 b7 _ c7' ns np
   cases gr with
   | true =>
    simp only at hn5
    simp(disch:=omega) only[go_sem]
    exact goJ (hJ2 gS H7 ⟨hn5,hH7,hK6.trans hK7,c77⟩) (by simp(disch:=omega) only[wrap64,go_sem])
   | false =>
    simp only at hn5
    rw[← hn5] at hn3
    simp only at hn3
    rw[← hn3] at e0
    simp only at e0
    simp(disch:=omega) only[go_sem]
    exact hQ _ _ H7 H7 [.bool false] nofun rfl (Low.refl _) (fin _ _ _ e0 hH7 (hK6.trans hK7))
theorem lsC (s:SchD) (fr:List (List UInt8×List ItD)) (b bf bs bp no:Nat) (hs:zJ s≤Lim):∀(f:Nat) (l:List ItD),f≤64→Ex fr f l→zoi s fr b bf bs bp no (lsF s fr f) l
 | 0,l,hf,hx=>lsG s fr b bf bs bp no hs 0 _ l hx hf fun x hm=>by
  rw[hx.zero] at hm;cases hm
 | f+1,l,hf,hx=>lsG s fr b bf bs bp no hs (f+1) (lsF s fr f) l hx hf fun x hm=>lsC s fr b bf bs bp no hs f x.sub (by omega) (hx.sub hm)
theorem zj.lowH {P:Program} {f:FuncId} {args:List AV} {A B:zc} {Q:AEnd→zc→Prop} (hl:Low B A) (h:zj P f args B Q):zj P f args A Q:=fun γ w vs ht hs hv =>
 (h γ w vs ht (hl.st γ w hs) hv).mono fun _ _ ⟨γ',H',r,a,b,c,d,e⟩=>⟨γ',H',r,a.weaken fun x hx=>hl.keys x hx,b,fun x hx=>(c x hx).imp (hl.keys x) id,d,e⟩
def zak (es:List (AV×AV)):List (AV×AV):=es.map fun x=>(x.1,x.2.strip1)
theorem Low.map {A:zc} {b:Nat} {kt:KT} {es:List (AV×AV)} (hb:A b=some (.map kt es)):Low (A.upd b (.map kt (zak es))) A:=by
 refine⟨fun c hc=>?_,fun γ w hs c o hc=>?_⟩
 ·by_cases e:c=b
  ·subst e;rw[hb];rfl
  ·simpa[zc.upd,e] using hc
 ·by_cases e:c=b
  ·subst e
   simp only[zc.upd,if_true,Al1] at hc
   subst hc
   cases hs c _ hb with
   | map _ _ cs clock hf hk hbb hl hr =>
    refine .map kt (zak es) cs clock (fun x hx=>?_) hk hbb (by simpa[zak] using hl) (fun i x e hx he=>?_)
    ·obtain⟨y,hy,rfl⟩:=List.mem_map.1 hx
     exact hf y hy
    ·simp only[zak,Y5] at hx
     cases hy:es[i]? with
     | none=>simp[hy] at hx
     | some y =>
      simp only[hy,zaF,Al1] at hx
      subst hx
      have:=hr i y e hy he
      exact⟨this.key,this.val.strip1⟩
  ·exact hs c o (by simpa[zc.upd,e] using hc)
theorem zgh (k:AV):∀ es:List (AV×AV),zaO (zak es) k=(zaO es k).map AV.strip1
 | []=>rfl
 | (a,u)::r=>by
  have:=zgh k r
  simp only[zak] at this
  simp only[zak,List.map_cons,zaO,this]
  split<;>rfl
theorem zgF (k v:AV):∀ es:List (AV×AV),zak (zbk es k v)=zbk (zak es) k v.strip1
 | []=>rfl
 | (a,u)::r=>by
  have:=zgF k v r
  simp only[zak] at this
  simp only[zak,List.map_cons,zbk]
  split
  ·rfl
  ·simp only[List.map_cons,this]
theorem zki (n:List UInt8) (v:AV):∀ es:List (AV×AV),zaO (zbk es (.str n) v) (.str n)=some v
 | []=>by simp[zbk,zaO,zlm]
 | (a,u)::r=>by
  have:=zki n v r
  simp only[zbk]
  split
  ·simp[zaO,zlm]
  ·rename_i h
   simp only[zaO,h,this]
   simp
def yW (fr:List (List UInt8×List ItD)) (n:List UInt8):Option (List UInt8×List ItD):=fr.find? fun e=>decide (n=e.1)
theorem zjm (n:List UInt8):∀ fr:List (List UInt8×List ItD),zaO (cFr fr) (.str n)=(yW fr n).map fun e=>.sl .no 10 (yJ e.2)
 | []=>rfl
 | (a,u)::r=>by
  have:=zjm n r
  simp only[cFr,yW] at this
  simp only[cFr,yW,List.map_cons,zaO,zlm,List.find?_cons]
  by_cases h:n=a
  ·simp[h]
  ·simpa[h] using this
theorem zmn (n:List UInt8) (it:List ItD):∀ fr:List (List UInt8×List ItD),yW fr n=none→zbk (cFr fr) (.str n) (.sl .no 10 (yJ it))=cFr (fr++[(n,it)])
 | [],_=>rfl
 | (a,u)::r,h=>by
  simp only[yW,List.find?_cons] at h
  by_cases e:n=a
  ·simp[e] at h
  ·have:=zmn n it r (by simpa[e,yW] using h)
   simp only[cFr] at this
   simp only[cFr,List.map_cons,zbk,zlm,e,decide_false,Al7,if_false,this,Al6]
def cIL (l:List (List ItD)):List (List AV):=l.map fun x=>[.sl .no 10 (yJ x)]
theorem zi7 (l:List (List ItD)):(cIL l).length=l.length:=by simp[cIL]
theorem zrI {l a:List (List ItD)} {x:List ItD} {b:List (List ItD)} (h:l=a++x::b):(cIL l).getD a.length []=[.sl .no 10 (yJ x)]:=yQ h
abbrev RSt:=List (List UInt8×List ItD)×List (List ItD)×Nat
def rFr (s:SchD) (st:RSt) (f:FragD):RSt:=match yW st.1 f.nm with
 | some _=>st
 | none=>(st.1++[(f.nm,(zR s f.sels f.on st.2.2).1)],st.2.1++[(zR s f.sels f.on st.2.2).1],(zR s f.sels f.on st.2.2).2)
def rOp (s:SchD) (st:RSt) (o:OpD):RSt:=(st.1,st.2.1++[(zR s o.sels (ZQ s o) st.2.2).1],(zR s o.sels (ZQ s o) st.2.2).2)
def yx (s:SchD) (d:DocD):RSt:=d.ops.foldl (rOp s) (d.frags.foldl (rFr s) ([],[],0))
def zdK (h:List ItD→yi→Bool×yi):List (List ItD)→yi→Bool×yi
 | [],S=>(true,S)
 | x::r,S=>match h x S with|(true,S')=>zdK h r S'|(false,S')=>(false,S')
noncomputable def mgM (s:SchD) (d:DocD):Bool:=!zbJ d&&(zdK (lsF s (yx s d).1 64) (yx s d).2.1 ([],[])).1
noncomputable def zaT (s:SchD) (d:DocD) (n:Int):Bool:=decide (n=24)&&mgM s d
theorem zeC (fr:List (List UInt8×List ItD)) (n:List UInt8):frL fr n=((yW fr n).map (·.2)).getD []:=rfl
theorem zb9 (fr:List (List UInt8×List ItD)) (a:List UInt8) (it:List ItD) (n:List UInt8):yW (fr++[(a,it)]) n=(yW fr n).or (if n=a then some (a,it) else none):=by
 simp only[yW,List.find?_append]
 congr 1
 by_cases h:n=a<;>simp[h]
theorem zn6 (s:SchD):∀(fs done:List FragD) (st:RSt),(∀ n,∃ typ no,(yW st.1 n).map (·.2)=((done.find? (Yw n)).map fun f=>(zR s f.sels typ no).1))→∀ n,∃ typ no,(yW (fs.foldl (rFr s) st).1 n).map (·.2)=(((done++fs).find? (Yw n)).map fun f=>(zR s f.sels typ no).1)
 | [],done,st,h=>by simpa using h
 | f::fs,done,st,h=>by
  have hn:=zn6 s fs (done++[f]) (rFr s st f) (fun n=>by
   obtain⟨typ,no,e⟩:=h n
   cases hf:yW st.1 f.nm with
   | some x =>
    have e2:rFr s st f=st:=by unfold rFr;rw[hf]
    rw[e2,List.find?_append]
    refine⟨typ,no,?_⟩
    rw[e]
    cases hd:done.find? (Yw n) with
    | some y=>simp
    | none =>
     by_cases hfn:f.nm=n
     ·rw[hfn] at hf
      rw[hf,hd] at e
      simp at e
     ·simp[Yw,hfn]
   | none =>
    have e2:(rFr s st f).1=st.1++[(f.nm,(zR s f.sels f.on st.2.2).1)]:=by unfold rFr;rw[hf]
    rw[e2,zb9,List.find?_append]
    cases hd:done.find? (Yw n) with
    | some y =>
     refine⟨typ,no,?_⟩
     rw[hd] at e
     cases hx:yW st.1 n with
     | none=>rw[hx] at e;simp at e
     | some z=>rw[hx] at e;simpa using e
    | none =>
     rw[hd] at e
     have hx:yW st.1 n=none:=by
      cases hx:yW st.1 n with
      | none=>rfl
      | some z=>rw[hx] at e;simp at e
     refine⟨f.on,st.2.2,?_⟩
     rw[hx]
     by_cases hfn:f.nm=n
     ·subst hfn;simp[Yw]
     ·have:¬ n=f.nm:=fun e=>hfn e.symm
      simp[Yw,hfn,this])
  intro n
  obtain⟨typ,no,e⟩:=hn n
  exact⟨typ,no,by rw[List.foldl_cons,e];simp⟩
theorem zlk (s:SchD):∀(os:List OpD) (st:RSt),(os.foldl (rOp s) st).1=st.1
 | [],st=>rfl
 | o::os,st=>by rw[List.foldl_cons,zlk s os];rfl
theorem zrm (s:SchD) (d:DocD) (n:List UInt8):∃ typ no,frL (yx s d).1 n=(zR s (frS d n) typ no).1:=by
 obtain⟨typ,no,e⟩:=zn6 s d.frags [] ([],[],0) (fun n=>⟨[],0,rfl⟩) n
 refine⟨typ,no,?_⟩
 rw[zeC,yx,zlk,e,zc8,frS,zC]
 cases d.frags.find? (Yw n) with
 | none=>simp[zFr,zR]
 | some f=>simp
theorem zqe (s:SchD):∀(fs:List FragD) (st:RSt),∀ l∈(fs.foldl (rFr s) st).2.1,l∈st.2.1∨∃ f∈fs,∃ typ no,l=(zR s f.sels typ no).1
 | [],st,l,h=>.inl h
 | f::fs,st,l,h=>by
  rcases zqe s fs (rFr s st f) l h with h1|⟨g,hg,typ,no,e⟩
  ·unfold rFr at h1
   split at h1
   ·exact .inl h1
   ·rcases List.mem_append.1 h1 with h2|h2
    ·exact .inl h2
    ·simp only[List.mem_singleton] at h2
     exact .inr ⟨f,ZI ..,_,_,h2⟩
  ·exact .inr ⟨g,Z0 _ hg,typ,no,e⟩
theorem zpo (s:SchD):∀(os:List OpD) (st:RSt),∀ l∈(os.foldl (rOp s) st).2.1,l∈st.2.1∨∃ o∈os,∃ typ no,l=(zR s o.sels typ no).1
 | [],st,l,h=>.inl h
 | o::os,st,l,h=>by
  rcases zpo s os (rOp s st o) l h with h1|⟨g,hg,typ,no,e⟩
  ·rcases List.mem_append.1 h1 with h2|h2
   ·exact .inl h2
   ·simp only[List.mem_singleton] at h2
    exact .inr ⟨o,ZI ..,_,_,h2⟩
  ·exact .inr ⟨g,Z0 _ hg,typ,no,e⟩
theorem zhz {d:DocD} {x:List SelD} (h:x∈ya d):bSs x≤zw d:=by
 have:=zcs h
 omega
theorem zl5 {s:SchD} {d:DocD} (hl:∀ x∈ya d,Sz d 40 x) (hb:zw d≤Lim):∀ l∈(yx s d).2.1,Ex (yx s d).1 64 l:=fun l h=>by
 have hex:∀ x∈ya d,∀ typ no,Ex (yx s d).1 64 (zR s x typ no).1:=fun x hx typ no =>
  (zvr (s:=s) (zrm s d) (fun n=>by
   cases hf:zC d n with
   | none=>simp[frS,hf,zFr,bSs]
   | some f =>
    have hm:f∈d.frags:=List.mem_of_find?_eq_some hf
    have h1:=zaq f
    have h2:=zbC hm
    simp only[frS,hf,Option.getD_some,zw] at hb ⊢
    omega) (hl x hx) (by have:=zhz hx;omega) typ no).mono (by omega)
 rcases zpo s d.ops _ l h with h1|⟨o,ho,typ,no,rfl⟩
 ·rcases zqe s d.frags _ l h1 with h2|⟨f,hf,typ,no,rfl⟩
  ·cases h2
  ·exact hex _ (by simp only[ya,List.mem_append,List.mem_map];exact .inr ⟨f,hf,rfl⟩) typ no
 ·exact hex _ (by simp only[ya,List.mem_append,List.mem_map];exact .inl ⟨o,ho,rfl⟩) typ no
theorem zs9 (s:SchD) (st:RSt) (f:FragD):(rFr s st f).2.2≤st.2.2+bF f∧(rFr s st f).2.1.length≤st.2.1.length+1:=by
 unfold rFr
 split
 ·exact⟨by omega,by omega⟩
 ·have:=zdv s f.sels f.on st.2.2
  have:=zaq f
  exact⟨by simp only;omega,by simp⟩
theorem ztE (s:SchD) (st:RSt) (o:OpD):(rOp s st o).2.2≤st.2.2+bO o∧(rOp s st o).2.1.length≤st.2.1.length+1:=by
 have:=zdv s o.sels (ZQ s o) st.2.2
 exact⟨by simp only[rOp,bO];omega,by simp[rOp]⟩
structure MkH (s:SchD) (b bf bs bp:Nat) (st:RSt) (o:Own) (H:zc):Prop where
 look:H b=some (.cells (zq s++[.int .i64 st.2.2,.mp bf,.mp bs,.mp bp]))
 frs:∃ es,H bf=some (.map (.one .s) es)∧zak es=cFr st.1
 sh:H bs=some (.map kPr [])
 pr:H bp=some (.map kPr [])
 ne:bs≠bp
 own:zY H o st.2.1.length 1
theorem MkH.keep {s:SchD} {b bf bs bp:Nat} {st:RSt} {o:Own} {H H':zc} (h:MkH s b bf bs bp st o H) (hk:∀ c x,H c=some x→H' c=some x):MkH s b bf bs bp st o H':=by
 obtain⟨es,h1,h2⟩:=h.frs
 exact⟨hk _ _ h.look,⟨es,hk _ _ h1,h2⟩,hk _ _ h.sh,hk _ _ h.pr,h.ne,zds h.own fun c k z hc=>hk _ _ hc⟩
theorem MkH.items {s:SchD} {b bf bs bp no' n:Nat} {st:RSt} {o o2:Own} {H H':zc} (h:MkH s b bf bs bp st o H) (hk:ItK H b (zq s) no' [.mp bf,.mp bs,.mp bp] H' o2 n):MkH s b bf bs bp (st.1,st.2.1,no') o H':=by
 obtain⟨es,h1,h2⟩:=h.frs
 have n1:bf≠b:=fun e=>by have:=h.look;rw[← e,h1] at this;cases this
 have n2:bs≠b:=fun e=>by have:=h.look;rw[← e,h.sh] at this;cases this
 have n3:bp≠b:=fun e=>by have:=h.look;rw[← e,h.pr] at this;cases this
 refine⟨hk.look,⟨es,hk.kept _ _ h1 n1,h2⟩,hk.kept _ _ h.sh n2,hk.kept _ _ h.pr n3,h.ne,zds h.own fun c k z hc=>hk.kept _ _ hc fun e=>?_⟩
 have:=h.look;rw[← e,hc] at this;cases this
theorem MkH.app {s:SchD} {b bf bs bp n2:Nat} {st:RSt} {o o2:Own} {ls:List (List ItD)} {H H':zc} (h:MkH s b bf bs bp st o H) (h':OwnS H o H' o2 n2 1) (hn:n2=ls.length):MkH s b bf bs bp (st.1,ls,st.2.2) o2 H':=by
 subst hn
 obtain⟨es,h1,h2⟩:=h.frs
 have hm:∀ c kt es,H c=some (.map kt es)→∀ d,o≠.tip c d:=fun c kt es hc d e=>by
  have:=h.own;subst e
  have h2:H c=some (.tip (d+st.2.1.length) 1):=this
  rw[hc] at h2;cases h2
 exact⟨h'.kept _ _ h.look (zeS h.own h.look),⟨es,h'.kept _ _ h1 (hm _ _ _ h1),h2⟩,h'.kept _ _ h.sh (hm _ _ _ h.sh),h'.kept _ _ h.pr (hm _ _ _ h.pr),h.ne,h'.own⟩
theorem MkH.put {s:SchD} {b bf bs bp:Nat} {st:RSt} {o:Own} {H:zc} {es:List (AV×AV)} {n:List UInt8} {it:List ItD} {o2:Own} (h:MkH s b bf bs bp st o H) (h1:H bf=some (.map (.one .s) es)) (h2:zak es=cFr st.1) (hf:yW st.1 n=none) :
  MkH s b bf bs bp (st.1++[(n,it)],st.2.1,st.2.2) o (H.upd bf (.map (.one .s) (zbk es (.str n) (.sl o2 10 (yJ it))))):=by
 have n1:b≠bf:=fun e=>by have:=h.look;rw[e,h1] at this;cases this
 have n2:bs≠bf:=fun e=>by have:=h.sh;rw[e,h1] at this;cases this
 have n3:bp≠bf:=fun e=>by have:=h.pr;rw[e,h1] at this;cases this
 refine⟨by simp only[zc.upd,n1,if_false];exact h.look,⟨_,upd_same ..,?_⟩,by simp only[zc.upd,n2,if_false];exact h.sh,by simp only[zc.upd,n3,if_false];exact h.pr,h.ne,zds h.own fun c k z hc=>?_⟩
 ·rw[zgF,h2]
  exact zmn n it st.1 hf
 ·have:c≠bf:=fun e=>by subst e;rw[h1] at hc;cases hc
  simp only[zc.upd,this,if_false];exact hc
theorem MkH.low {s:SchD} {b bf bs bp:Nat} {st:RSt} {o:Own} {H:zc} (h:MkH s b bf bs bp st o H):∃ B,Low B H∧LkH s st.1 b bf bs bp st.2.2 ([],[]) B:=by
 obtain⟨es,h1,h2⟩:=h.frs
 have n1:b≠bf:=fun e=>by have:=h.look;rw[e,h1] at this;cases this
 have n2:bs≠bf:=fun e=>by have:=h.sh;rw[e,h1] at this;cases this
 have n3:bp≠bf:=fun e=>by have:=h.pr;rw[e,h1] at this;cases this
 refine⟨_,Low.map h1,⟨by simp only[zc.upd,n1,if_false];exact h.look,by rw[upd_same,h2],by simp only[zc.upd,n2,if_false];exact h.sh,by simp only[zc.upd,n3,if_false];exact h.pr,h.ne⟩⟩
theorem mgC (s:SchD) (d:DocD) (n:Int) (hs:zJ s≤Lim) (hb:Zd d≤Lim) (hb1:zw d≤1073741824) (hl:∀ x∈ya d,Sz d 40 x):zg Tryz.prog 23 [.agg (zq s),.agg (zX d),.int .i64 n] (.bool (zaT s d n)):=by
 have hloop:=zo5 d hb
 have hex:=zl5 (s:=s) hl (by simp only[Lim];omega)
 have hls:=fun b bf bs bp no l h=>lsC s (yx s d).1 b bf bs bp no hs 64 l (Al4 _) (hex l h)
 have hit:=fun b bf bs bp l typ no H (h1:no+bSs l≤1073741824) h2=>zsZ s hs b (.mp bf) (.mp bs) (.mp bp) (bSs l) l typ no H (Al4 _) h1 h2
 have hroot:=fun o=>zpO s o
 have hbd:bOs d.ops+bFs d.frags=zw d:=rfl
 have l1:=Ye d.frags
 have l2:=Z2 d.ops
 have m1:=yM d.frags
 have m2:=Zo d.ops
 have eN:zaT s d n=(decide (n=24)&&(!zbJ d&&(zdK (lsF s (yx s d).1 64) (yx s d).2.1 ([],[])).1)):=rfl
 generalize zaT s d n=F at *
 generalize zbJ d=lp at *
 have eA:yx s d=d.ops.foldl (rOp s) (d.frags.foldl (rFr s) ([],[],0)):=rfl
 have hnoF:=zs9 s
 have hnoO:=ztE s
 have hcd:zX d=[.sl .no 5 (cOs d.ops),.sl .no 4 (cFs d.frags)]:=rfl
 have hcs:∃ x1 x2 x3,zq s=[x1,x2,x3]:=⟨_,_,_,rfl⟩
 have hfit:∀ s,KT.fits (.one .s) (.str s)=true:=fun _=>rfl
 obtain⟨sd,sq,sm⟩:=s
 generalize hS:(⟨sd,sq,sm⟩:SchD)=s at *
 have hcs:zq s=[.sl .no 6 (cEs sd),.str sq,.str sm]:=by rw[← hS];rfl
 simp only[hcd] at hloop ⊢
 simp only[hcs,Al6,zc8] at hit hroot ⊢
 have look:∀ {b bf bs bp st o H},MkH s b bf bs bp st o H→H b=some (.cells [.sl .no 6 (cEs sd),.str sq,.str sm,.int .i64 st.2.2,.mp bf,.mp bs,.mp bp]):=fun h=>by have:=h.look;rwa [hcs] at this
 refine zg.go ir23 ck23 (Al4 _) fun KP Q hQ=>?_
 by_cases hn:n=24
 case neg =>
  simp(disch:=omega) only[ir23,hn,go_sem]
  exact hQ _ _ _ _ nofun rfl (by simp[zd,ze,AV.strip,AV.strip1,eN,hn])
 have hn':=eq_true hn
 simp only[hn,decide_true,Bool.true_and] at eN
 simp(disch:=omega) only[ir23,hn',go_sem]
 refine za hloop ?_
 cases lp with
 | true =>
  simp(disch:=omega) only[go_sem]
  exact hQ _ _ _ _ nofun rfl (by simp[zd,ze,AV.strip,AV.strip1,eN])
 | false =>
 simp only[Bool.not_false,Bool.true_and] at eN
 simp(disch:=omega) only[go_sem]
 refine zb fun bf hbf=>?_
 simp(disch:=omega) only[go_sem]
 refine zb fun bs hbs=>?_
 simp(disch:=omega) only[go_sem]
 refine zb fun bp hbp=>?_
 simp(disch:=omega) only[go_sem]
 refine zb fun b hb=>?_
 have q1:bf≠bs:=fun e=>by subst e;simp[zc.upd] at hbs
 have q2:bf≠bp:=fun e=>by subst e;simp[zc.upd,q1] at hbp
 have q3:bs≠bp:=fun e=>by subst e;simp[zc.upd] at hbp
 have q4:bf≠b:=fun e=>by subst e;simp[zc.upd,q1,q2] at hb
 have q5:bs≠b:=fun e=>by subst e;simp[zc.upd,q3] at hb
 have q6:bp≠b:=fun e=>by subst e;simp[zc.upd] at hb
 have hM0:∀ H0:zc,H0 b=some (.cells [.sl .no 6 (cEs sd),.str sq,.str sm,.int .i64 0,.mp bf,.mp bs,.mp bp])→H0 bf=some (.map (.one .s) [])→H0 bs=some (.map kPr [])→H0 bp=some (.map kPr [])→MkH s b bf bs bp ([],[],0) .nil H0:=fun H0 g1 g2 g3 g4=>⟨by rw[hcs];exact g1,⟨[],g2,rfl⟩,g3,g4,q3,rfl⟩
 generalize hFR:d.frags.foldl (rFr s) ([],[],0)=FR at *
 generalize hRA:yx s d=RA at *
 simp(disch:=omega) only[l1,q1,q2,q3,q4,q5,q6,Ne.symm q1,Ne.symm q2,Ne.symm q3,Ne.symm q4,Ne.symm q5,Ne.symm q6,go_sem]
 refine zf d.frags 32 (fun x:Own×RSt=>[(8,.sl x.1 1 (cIL x.2.2.1))]) (fun done rest x H'=>rest.foldl (rFr s) x.2=FR∧x.2.2.1.length≤done.length∧x.2.2.2≤bFs done∧MkH s b bf bs bp x.2 x.1 H') (.nil,([],[],0)) (by simp(disch:=omega) only[cIL,List.map,go_sem]) ⟨hFR,by simp,by simp,hM0 _ (by simp[zc.upd]) (by simp[zc.upd,q1,q2,q4]) (by simp[zc.upd,q3,q5]) (by simp[zc.upd,q6])⟩ ?_ ?_
 ·rintro⟨o1,fr,ls,no⟩ H1 J ⟨hn1,hle1,hle2,hM1⟩ hlt
  simp only[List.foldl] at hn1
  simp only at hle1 hle2
  subst hn1
  simp(disch:=omega) only[l1,hlt,l2,go_sem]
  refine zf d.ops 74 (fun x:Own×RSt=>[(8,.sl x.1 1 (cIL x.2.2.1))]) (fun done rest x H'=>rest.foldl (rOp s) x.2=RA∧x.2.2.1.length≤d.frags.length+done.length∧x.2.2.2≤bFs d.frags+bOs done∧MkH s b bf bs bp x.2 x.1 H') (o1,(fr,ls,no)) (by simp(disch:=omega) only[go_sem]) ⟨eA.symm,by simpa using hle1,by simp only;omega,hM1⟩ ?_ ?_
  ·rintro⟨o2,fr2,ls2,no2⟩ H2 J2 ⟨hn2,hle3,hle4,hM2⟩ hlt2
   simp only[List.foldl] at hn2
   simp only at hle3 hle4
   subst hn2
   obtain⟨B,hlow,hLk⟩:=hM2.low
   simp only at hLk eN hls
   have l3:=zi7 ls2
   generalize hR:zdK (lsF s fr2 64) ls2 ([],[])=R at *
   simp(disch:=omega) only[l2,hlt2,l3,go_sem]
   refine zf ls2 91 (fun _:yi=>[]) (fun done rest S' H'=>zdK (lsF s fr2 64) rest S'=R∧∃ B,Low B H'∧LkH s fr2 b bf bs bp no2 S' B) ([],[]) (by simp(disch:=omega) only[go_sem]) ⟨hR,B,hlow,hLk⟩ ?_ ?_
   ·rintro S3 H3 J3 ⟨hn3,_⟩ hlt3
    simp only[zdK] at hn3
    rw[← hn3] at eN
    simp(disch:=omega) only[l3,hlt3,go_sem]
    exact hQ _ _ _ _ nofun rfl (by simp[zd,ze,AV.strip,AV.strip1,eN])
   ·rintro done3 x3 rest3 S3 H3 J3 hd3 hlt3 _ ⟨hn3,B3,hlow3,hLk3⟩ hJ3
    have hg3:=zrI hd3
    have hcall:=zj.lowH hlow3 (hls b bf bs bp no2 x3 (by rw[hd3];simp) S3 B3 hLk3)
    simp only[zdK] at hn3
    generalize hG:lsF s fr2 64 x3 S3=G at *
    obtain⟨gr,gS⟩:=G
    simp(disch:=omega) only[l3,hlt3,hg3,go_sem]
    refine yH (XP:=fun _ _=>False) hcall (fun v H7 ⟨e7,hH7,hK7⟩=>?_) (fun _ _ h=>h.elim)
    subst e7
    cases gr with
    | true =>
     simp only at hn3
     simp(disch:=omega) only[go_sem]
     exact goJ (hJ3 gS H7 ⟨hn3,H7,Low.refl _,hH7⟩) (by simp(disch:=omega) only[wrap64,go_sem])
    | false =>
     simp only at hn3
     rw[← hn3] at eN
     simp(disch:=omega) only[go_sem]
     exact hQ _ _ _ _ nofun rfl (by simp[zd,ze,AV.strip,AV.strip1,eN])
  ·rintro done2 x2 rest2 ⟨o2,fr2,ls2,no2⟩ H2 J2 hd2 hlt2 _ ⟨hn2,hle3,hle4,hM2⟩ hJ2
   have hg2:=Yc hd2
   have hbm:=YW done2 x2 rest2
   rw[← hd2] at hbm
   have hb2:bOs (done2++[x2])=bOs done2+bO x2:=by simp[bOs]
   rw[List.foldl_cons] at hn2
   simp only at hle3 hle4
   have hrx:=hroot x2
   have hno2:=hnoO (fr2,ls2,no2) x2
   have erx:rOp s (fr2,ls2,no2) x2=(fr2,ls2++[(zR s x2.sels (ZQ s x2) no2).1],(zR s x2.sels (ZQ s x2) no2).2):=rfl
   rw[erx] at hn2 hno2
   simp only at hno2
   obtain⟨k,nm,vs,ds,ss⟩:=x2
   simp only[bO] at hbm hb2 hno2
   generalize ZQ s ⟨k,nm,vs,ds,ss⟩=rt at *
   rw[YO] at hg2 hrx
   have lo2:=look hM2
   have l3:=zi7 ls2
   simp only at lo2
   have hol:=Zo done2
   simp(disch:=omega) only[l2,hlt2,hg2,go_sem]
   refine zb fun b14 hb14=>?_
   have w1:b≠b14:=fun e=>by subst e;rw[lo2] at hb14;cases hb14
   have hM3:=hM2.keep (Zz (x:=.cells [.int .i64 k,.str nm,.sl .no 10 (cWs vs),.sl .no 2 (cDs ds),.sl .no 7 (cSs ss)]) hb14)
   have hI:=hit b bf bs bp ss rt no2 _ (by omega) (look hM3)
   generalize hIT:zR s ss rt no2=IT at *
   simp(disch:=omega) only[w1,Ne.symm w1,go_sem]
   refine za hrx ?_
   simp(disch:=omega) only[w1,Ne.symm w1,go_sem]
   refine yH (XP:=fun _ _=>False) hI (fun v H4 ⟨o4,e4,hk4⟩=>?_) (fun _ _ h=>h.elim)
   subst e4
   have hM4:=hM3.items (by rw[hcs];exact hk4)
   simp only at hM4
   simp(disch:=omega) only[go_sem]
   refine zu (by rw[l3];exact hM4.own) ?_ ?_ fun o' H5 hs5=>?_
   ·simp only[l3,Al2,Al3];omega
   ·simp only[l3,Al2,Al3,maxLen];omega
   simp only[l3,Al2,Al3,Nat.zero_add] at hs5
   have e1:cIL ls2++[[AV.sl .no 10 (yJ IT.1)]]=cIL (ls2++[IT.1]):=by simp[cIL]
   have hM5:=hM4.app (ls:=ls2++[IT.1]) hs5 (by simp)
   simp(disch:=omega) only[wrap64,e1,go_sem]
   exact goJ (hJ2 (o',(fr2,ls2++[IT.1],IT.2)) H5 ⟨hn2,by simp;omega,by simp only;omega,hM5⟩) (by simp(disch:=omega) only[wrap64,go_sem])
 ·rintro done x rest ⟨o1,fr,ls,no⟩ H1 J hd hlt _ ⟨hn1,hle1,hle2,hM1⟩ hJ
  have hg:=Yt hd
  have hbm:=ziR done x rest
  rw[← hd] at hbm
  have hb2:bFs (done++[x])=bFs done+bF x:=by simp[bFs]
  rw[List.foldl_cons] at hn1
  simp only at hle1 hle2
  have hno2:=hnoF (fr,ls,no) x
  obtain⟨es,hes1,hes2⟩:=hM1.frs
  simp only at hes2
  have hmg:(zaO es (.str x.nm)).map AV.strip1=(yW fr x.nm).map fun e=>.sl .no 10 (yJ e.2):=by rw[← zgh,hes2,zjm]
  have hgs:=fun v=>zki x.nm v es
  have erx:rFr s (fr,ls,no) x=match yW fr x.nm with
   | some _=>(fr,ls,no)
   | none=>(fr++[(x.nm,(zR s x.sels x.on no).1)],ls++[(zR s x.sels x.on no).1],(zR s x.sels x.on no).2):=rfl
  obtain⟨nm,on,ds,ss⟩:=x
  simp only at hmg erx hgs
  simp only[bF] at hbm hb2 hno2
  rw[Z3] at hg
  have lo1:=look hM1
  have l3:=zi7 ls
  simp only at lo1
  have hol:=yM done
  simp(disch:=omega) only[l1,hlt,hg,go_sem]
  refine zb fun b10 hb10=>?_
  have w1:b≠b10:=fun e=>by subst e;rw[lo1] at hb10;cases hb10
  have w2:bf≠b10:=fun e=>by subst e;rw[hes1] at hb10;cases hb10
  have hM3:=hM1.keep (Zz (x:=.cells [.str nm,.str on,.sl .no 2 (cDs ds),.sl .no 7 (cSs ss)]) hb10)
  cases hme:zaO es (.str nm) with
  | some w =>
   rw[hme] at hmg
   cases hff:yW fr nm with
   | none=>rw[hff] at hmg;simp at hmg
   | some e =>
    rw[hff] at erx
    rw[erx] at hn1 hno2
    simp only at hno2
    simp(disch:=omega) only[w1,Ne.symm w1,w2,Ne.symm w2,lo1,hes1,hme,hfit,YB,Option.getD_some,Option.isSome_some,go_sem]
    exact goJ (hJ (o1,(fr,ls,no)) _ ⟨hn1,by simp;omega,by simp only;omega,hM3⟩) (by simp(disch:=omega) only[wrap64,go_sem])
  | none =>
   rw[hme] at hmg
   cases hff:yW fr nm with
   | some e=>rw[hff] at hmg;simp at hmg
   | none =>
    rw[hff] at erx
    rw[erx] at hn1 hno2
    simp only at hno2
    have hI:=hit b bf bs bp ss on no _ (by omega) (look hM3)
    generalize hIT:zR s ss on no=IT at *
    simp(disch:=omega) only[w1,Ne.symm w1,w2,Ne.symm w2,lo1,hes1,hme,hfit,YB,Option.getD_none,Option.isSome_none,go_sem]
    refine yH (XP:=fun _ _=>False) hI (fun v H4 ⟨o4,e4,hk4⟩=>?_) (fun _ _ h=>h.elim)
    subst e4
    have hM4:=hM3.items (by rw[hcs];exact hk4)
    simp only at hM4
    have c10:H4 b10=some (.cells [.str nm,.str on,.sl .no 2 (cDs ds),.sl .no 7 (cSs ss)]):=hk4.kept b10 _ (upd_same ..) (Ne.symm w1)
    have hbf4:H4 bf=some (.map (.one .s) es):=hk4.kept bf _ (by simp only[zc.upd,w2,if_false];exact hes1) (fun e=>by rw[e,lo1] at hes1;cases hes1)
    have lo4:=look hM4
    simp only at lo4
    have nfb:bf≠b:=fun e=>by rw[e,lo1] at hes1;cases hes1
    have hM5:=hM4.put (n:=nm) (it:=IT.1) (o2:=o4) hbf4 hes2 hff
    have lo5:=look hM5
    simp only at hM5 lo5
    have hg5:=hgs (.sl o4 10 (yJ IT.1))
    simp(disch:=omega) only[c10,hbf4,lo4,nfb,Ne.symm nfb,w1,Ne.symm w1,w2,Ne.symm w2,hfit,hg5,YB,Option.getD_some,go_sem]
    refine zu (by rw[l3];exact hM5.own) ?_ ?_ fun o' H6 hs6=>?_
    ·simp only[l3,Al2,Al3];omega
    ·simp only[l3,Al2,Al3,maxLen];omega
    simp only[l3,Al2,Al3,Nat.zero_add] at hs6
    have e1:cIL ls++[[AV.sl .no 10 (yJ IT.1)]]=cIL (ls++[IT.1]):=by simp[cIL]
    have hM6:=hM5.app (ls:=ls++[IT.1]) hs6 (by simp)
    simp(disch:=omega) only[wrap64,e1,go_sem]
    exact goJ (hJ (o',(fr++[(nm,IT.1)],ls++[IT.1],IT.2)) H6 ⟨hn1,by simp;omega,by simp only;omega,hM6⟩) (by simp(disch:=omega) only[wrap64,go_sem])
abbrev TSe:=List UInt8×SelD
def zi9 (d:DocD) (n:List UInt8):List UInt8:=((zC d n).getD zFr).on
def Y1 (s:SchD) (d:DocD) (g:List UInt8→List SelD→List (List UInt8)→List TSe×List (List UInt8)) (typ:List UInt8) (acc:List TSe×List (List UInt8)):SelD→List TSe×List (List UInt8)
 | .mk k al nm args dirs on sels =>
  if k=0 then (acc.1++[(typ,.mk k al nm args dirs on sels)],acc.2)
  else if k=2 then (acc.1++(g (zO s typ (.mk k al nm args dirs on sels)) sels acc.2).1,(g (zO s typ (.mk k al nm args dirs on sels)) sels acc.2).2)
  else if k=1∧zQ nm acc.2=false then (acc.1++(g (zi9 d nm) (frS d nm) (acc.2++[nm])).1,(g (zi9 d nm) (frS d nm) (acc.2++[nm])).2)
  else acc
def flq (s:SchD) (d:DocD):Nat→List UInt8→List SelD→List (List UInt8)→List TSe×List (List UInt8)
 | 0,_,_,seen=>([],seen)
 | n+1,typ,l,seen=>l.foldl (Y1 s d (flq s d n) typ) ([],seen)
def toT (x:ItD):TSe:=(x.typ,x.x)
def zfA (s:SchD) (x:ItD):Prop:=∃ k,x.sub=(zR s x.x.sels (zO s x.typ x.x) k).1
def zfP (s:SchD) (d:DocD) (fr:List (List UInt8×List ItD)):Prop:=∀ n,∃ no,frL fr n=(zR s (frS d n) (zi9 d n) no).1
theorem ziG {s:SchD} {d:DocD} {fr:List (List UInt8×List ItD)} (hfr:zfP s d fr):∀(n:Nat) (l:List SelD) (typ:List UInt8) (no:Nat) (seen:List (List UInt8)),
  ((flF fr n (zR s l typ no).1 seen).1.map toT,(flF fr n (zR s l typ no).1 seen).2)=flq s d n typ l seen∧∀ x∈(flF fr n (zR s l typ no).1 seen).1,zfA s x
 | 0,l,typ,no,seen=>⟨rfl,fun x hx=>by cases hx⟩
 | n+1,l,typ,no,seen=>by
  have key:∀(l:List SelD) (no:Nat) (acc:List ItD×List (List UInt8)),(∀ x∈acc.1,zfA s x) →
    (((zR s l typ no).1.foldl (ZE (flF fr n) fr) acc).1.map toT,((zR s l typ no).1.foldl (ZE (flF fr n) fr) acc).2)=l.foldl (Y1 s d (flq s d n) typ) (acc.1.map toT,acc.2)∧∀ x∈((zR s l typ no).1.foldl (ZE (flF fr n) fr) acc).1,zfA s x:=by
   intro l
   induction l with
   | nil=>intro no acc h;exact⟨rfl,h⟩
   | cons x r ih =>
    intro no acc h
    obtain⟨k,al,nm,args,dirs,on,sels⟩:=x
    simp only[zR,itS,List.foldl_cons]
    generalize hT:zR s sels (zO s typ (.mk k al nm args dirs on sels)) (no+1)=T
    have hst:Y1 s d (flq s d n) typ (acc.1.map toT,acc.2) (.mk k al nm args dirs on sels)=(((ZE (flF fr n) fr acc (.mk (no+1) (.mk k al nm args dirs on sels) typ T.1)).1).map toT,(ZE (flF fr n) fr acc (.mk (no+1) (.mk k al nm args dirs on sels) typ T.1)).2)∧∀ x∈(ZE (flF fr n) fr acc (.mk (no+1) (.mk k al nm args dirs on sels) typ T.1)).1,zfA s x:=by
     have h1:=ziG hfr n sels (zO s typ (.mk k al nm args dirs on sels)) (no+1) acc.2
     rw[hT] at h1
     obtain⟨nf,hnf⟩:=hfr nm
     have h2:=ziG hfr n (frS d nm) (zi9 d nm) nf (acc.2++[nm])
     rw[← hnf] at h2
     simp only[Y1,ZE]
     split
     ·refine⟨by simp[toT,ItD.typ,ItD.x],fun x hx=>?_⟩
      rcases List.mem_append.1 hx with h3|h3
      ·exact h x h3
      ·simp only[List.mem_singleton] at h3
       subst h3
       exact⟨no+1,by simp only[ItD.sub,ItD.x,ItD.typ,SelD.sels];rw[hT]⟩
     ·split
      ·refine⟨by rw[← h1.1];simp,fun x hx=>?_⟩
       rcases List.mem_append.1 hx with h3|h3
       ·exact h x h3
       ·exact h1.2 x h3
      ·split
       ·refine⟨by rw[← h2.1];simp,fun x hx=>?_⟩
        rcases List.mem_append.1 hx with h3|h3
        ·exact h x h3
        ·exact h2.2 x h3
       ·exact⟨rfl,h⟩
    have:=ih T.2 (ZE (flF fr n) fr acc (.mk (no+1) (.mk k al nm args dirs on sels) typ T.1)) hst.2
    rw[hst.1]
    exact this
  exact key l no ([],seen) (fun x hx=>by cases hx)
mutual
def zhh:ItD→List ItD
 | .mk no x typ sub=>.mk no x typ sub::Yu sub
def Yu:List ItD→List ItD
 | []=>[]
 | x::r=>zhh x++Yu r
end
theorem zoK (x:ItD):x∈zhh x:=by cases x;simp[zhh]
theorem zhe {x:ItD}:∀ {l:List ItD},x∈l→x∈Yu l
 | y::l,h=>by
  simp only[Yu,List.mem_append]
  rcases List.mem_cons.1 h with rfl|h
  ·exact .inl (zoK x)
  ·exact .inr (zhe h)
mutual
theorem zn3:∀(x y z:ItD),y∈zhh x→z∈Yu y.sub→z∈zhh x
 | .mk no x typ sub,y,z,h,hz=>by
  simp only[zhh,List.mem_cons] at h ⊢
  rcases h with rfl|h
  ·exact .inr hz
  ·exact .inr (zet sub y z h hz)
theorem zet:∀(l:List ItD) (y z:ItD),y∈Yu l→z∈Yu y.sub→z∈Yu l
 | [],y,z,h,_=>by simp[Yu] at h
 | x::r,y,z,h,hz=>by
  simp only[Yu,List.mem_append] at h ⊢
  rcases h with h|h
  ·exact .inl (zn3 x y z h hz)
  ·exact .inr (zet r y z h hz)
end
mutual
theorem zqN (s:SchD):∀(x:SelD) (typ:List UInt8) (no:Nat),no<(itS s x typ no).2∧(∀ y∈zhh (itS s x typ no).1,(no<y.no∧y.no≤(itS s x typ no).2)∧zfA s y)∧((zhh (itS s x typ no).1).map ItD.no).Nodup
 | .mk k al nm args dirs on sels,typ,no=>by
  obtain⟨h1,h2,h3⟩:=zgf s sels (zO s typ (.mk k al nm args dirs on sels)) (no+1)
  simp only[itS]
  generalize hT:zR s sels (zO s typ (.mk k al nm args dirs on sels)) (no+1)=T at *
  refine⟨by omega,fun y hy=>?_,?_⟩
  ·simp only[zhh,List.mem_cons] at hy
   rcases hy with rfl|hy
   ·exact⟨⟨by simp only[ItD.no];omega,by simp only[ItD.no];omega⟩,no+1,by simp only[ItD.sub,ItD.x,ItD.typ,SelD.sels];rw[hT]⟩
   ·have:=h2 y hy
    exact⟨by omega,this.2⟩
  ·simp only[zhh,List.map_cons,List.nodup_cons,ItD.no]
   refine⟨fun hm=>?_,h3⟩
   obtain⟨y,hy,e⟩:=List.mem_map.1 hm
   have:=(h2 y hy).1
   omega
theorem zgf (s:SchD):∀(l:List SelD) (typ:List UInt8) (no:Nat),no≤(zR s l typ no).2∧(∀ y∈Yu (zR s l typ no).1,(no<y.no∧y.no≤(zR s l typ no).2)∧zfA s y)∧((Yu (zR s l typ no).1).map ItD.no).Nodup
 | [],typ,no=>by simp[zR,Yu]
 | x::r,typ,no=>by
  obtain⟨h1,h2,h3⟩:=zqN s x typ no
  obtain⟨g1,g2,g3⟩:=zgf s r typ (itS s x typ no).2
  simp only[zR,Yu]
  refine⟨by omega,fun y hy=>?_,?_⟩
  ·rcases List.mem_append.1 hy with h|h
   ·have:=h2 y h
    exact⟨by omega,this.2⟩
   ·have:=g2 y h
    exact⟨by omega,this.2⟩
  ·rw[List.map_append]
   refine List.nodup_append.2 ⟨h3,g3,fun a ha b hb e=>?_⟩
   obtain⟨y,hy,rfl⟩:=List.mem_map.1 ha
   obtain⟨z,hz,rfl⟩:=List.mem_map.1 hb
   have:=(h2 y hy).1
   have:=(g2 z hz).1
   omega
end
def UI (s:SchD) (d:DocD):List ItD:=(yx s d).2.1.flatMap Yu
structure RInv (s:SchD) (st:RSt):Prop where
 ok:∀ y∈st.2.1.flatMap Yu,(0<y.no∧y.no≤st.2.2)∧zfA s y
 nd:((st.2.1.flatMap Yu).map ItD.no).Nodup
 fr:∀ n,frL st.1 n=[]∨frL st.1 n∈st.2.1
theorem RInv.add {s:SchD} {st:RSt} (h:RInv s st) (l:List SelD) (typ:List UInt8) (fr:List (List UInt8×List ItD)) (hfr:∀ n,frL fr n=frL st.1 n∨frL fr n=(zR s l typ st.2.2).1):RInv s (fr,st.2.1++[(zR s l typ st.2.2).1],(zR s l typ st.2.2).2):=by
 obtain⟨g1,g2,g3⟩:=zgf s l typ st.2.2
 refine⟨fun y hy=>?_,?_,fun n=>?_⟩
 ·simp only[List.flatMap_append,List.flatMap_cons,List.flatMap_nil,List.append_nil,List.mem_append] at hy
  rcases hy with h1|h1
  ·have:=h.ok y h1
   exact⟨by simp only;omega,this.2⟩
  ·have:=g2 y h1
   exact⟨by simp only;omega,this.2⟩
 ·simp only[List.flatMap_append,List.flatMap_cons,List.flatMap_nil,List.append_nil,List.map_append]
  refine List.nodup_append.2 ⟨h.nd,g3,fun a ha b hb e=>?_⟩
  obtain⟨y,hy,rfl⟩:=List.mem_map.1 ha
  obtain⟨z,hz,rfl⟩:=List.mem_map.1 hb
  have:=(h.ok y hy).1
  have:=(g2 z hz).1
  omega
 ·rcases hfr n with e|e
  ·rw[e]
   rcases h.fr n with h1|h1
   ·exact .inl h1
   ·exact .inr (zaW _ h1)
  ·rw[e]
   exact .inr (List.mem_append_right _ (by simp))
theorem RInv.rFr {s:SchD} {st:RSt} (h:RInv s st) (f:FragD):RInv s (rFr s st f):=by
 unfold Go.Proofs.YtbcocdloklbkjaaGreatDoor.rFr
 split
 ·exact h
 ·rename_i hf
  refine h.add f.sels f.on _ fun n=>?_
  rw[zeC,zb9,zeC]
  cases hx:yW st.1 n with
  | some e=>left;rfl
  | none =>
   by_cases e:n=f.nm
   ·right;simp[e]
   ·left;simp[e]
theorem RInv.rOp {s:SchD} {st:RSt} (h:RInv s st) (o:OpD):RInv s (rOp s st o):=h.add o.sels (ZQ s o) st.1 fun n=>.inl rfl
theorem zgd (s:SchD) (d:DocD):RInv s (yx s d):=by
 have h1:∀(fs:List FragD) (st:RSt),RInv s st→RInv s (fs.foldl (Go.Proofs.YtbcocdloklbkjaaGreatDoor.rFr s) st):=by
  intro fs
  induction fs with
  | nil=>intro st h;exact h
  | cons f fs ih=>intro st h;exact ih _ (h.rFr f)
 have h2:∀(os:List OpD) (st:RSt),RInv s st→RInv s (os.foldl (Go.Proofs.YtbcocdloklbkjaaGreatDoor.rOp s) st):=by
  intro fs
  induction fs with
  | nil=>intro st h;exact h
  | cons f fs ih=>intro st h;exact ih _ (h.rOp f)
 exact h2 d.ops _ (h1 d.frags _ ⟨fun y hy=>by simp at hy,by simp,fun n=>.inl rfl⟩)
theorem zq0 {s:SchD} {d:DocD} {x:ItD} (h:x∈UI s d):zfA s x:=((zgd s d).ok x h).2
theorem zim {α:Type} {f:α→Nat}:∀ {l:List α},(l.map f).Nodup→∀ x∈l,∀ y∈l,f x=f y→x=y
 | a::l,h,x,hx,y,hy,e=>by
  simp only[List.map_cons,List.nodup_cons] at h
  rcases List.mem_cons.1 hx with e1|h1
  ·rcases List.mem_cons.1 hy with e2|h2
   ·rw[e1,e2]
   ·exact absurd (List.mem_map.2 ⟨y,h2,by rw[← e,e1]⟩) h.1
  ·rcases List.mem_cons.1 hy with e2|h2
   ·exact absurd (List.mem_map.2 ⟨x,h1,by rw[e,e2]⟩) h.1
   ·exact zim h.2 x h1 y h2 e
theorem zi5 {s:SchD} {d:DocD} {x y:ItD} (hx:x∈UI s d) (hy:y∈UI s d) (e:x.no=y.no):x=y:=zim (zgd s d).nd x hx y hy e
theorem zf3 {fr:List (List UInt8×List ItD)}:∀(n:Nat) (l:List ItD) (seen:List (List UInt8)),∀ y∈(flF fr n l seen).1,y∈Yu l∨∃ nm,y∈Yu (frL fr nm)
 | 0,l,seen,y,h=>by cases h
 | n+1,l,seen,y,h=>by
  have key:∀(l:List ItD) (acc:List ItD×List (List UInt8)),∀ y∈(l.foldl (ZE (flF fr n) fr) acc).1,y∈acc.1∨y∈Yu l∨∃ nm,y∈Yu (frL fr nm):=by
   intro l
   induction l with
   | nil=>intro acc y h;exact .inl h
   | cons x r ih =>
    intro acc y h
    rw[List.foldl_cons] at h
    rcases ih _ y h with h1|h1|h1
    ·obtain⟨no,⟨k,al,nm,args,dirs,on,sels⟩,typ,sub⟩:=x
     simp only[ZE] at h1
     have hsub:∀ z,z∈Yu sub→z∈Yu (.mk no (.mk k al nm args dirs on sels) typ sub::r):=fun z hz=>by simp only[Yu,zhh,List.mem_append,List.mem_cons];exact .inl (.inr hz)
     split at h1
     ·rcases List.mem_append.1 h1 with h2|h2
      ·exact .inl h2
      ·simp only[List.mem_singleton] at h2
       subst h2
       exact .inr (.inl (zhe (ZI ..)))
     ·split at h1
      ·rcases List.mem_append.1 h1 with h2|h2
       ·exact .inl h2
       ·rcases zf3 n sub acc.2 y h2 with h3|h3
        ·exact .inr (.inl (hsub y h3))
        ·exact .inr (.inr h3)
      ·split at h1
       ·rcases List.mem_append.1 h1 with h2|h2
        ·exact .inl h2
        ·rcases zf3 n (frL fr nm) (acc.2++[nm]) y h2 with h3|h3
         ·exact .inr (.inr ⟨nm,h3⟩)
         ·exact .inr (.inr h3)
       ·exact .inl h1
    ·exact .inr (.inl (by simp only[Yu,List.mem_append];exact .inr h1))
    ·exact .inr (.inr h1)
  rcases key l ([],seen) y h with h1|h1
  ·cases h1
  ·exact h1
theorem zr0 {s:SchD} {d:DocD} {nm:List UInt8} {y:ItD} (h:y∈Yu (frL (yx s d).1 nm)):y∈UI s d:=by
 rcases(zgd s d).fr nm with h1|h1
 ·rw[h1] at h;simp[Yu] at h
 ·exact List.mem_flatMap.2 ⟨_,h1,h⟩
theorem ztN {s:SchD} {d:DocD} {x y:ItD} (hx:x∈UI s d) (h:y∈Yu x.sub):y∈UI s d:=by
 obtain⟨l,hl,h1⟩:=List.mem_flatMap.1 hx
 exact List.mem_flatMap.2 ⟨l,hl,zet l x y h1 h⟩
theorem zgg {s:SchD} {d:DocD} {x y:ItD} (hx:x∈UI s d) (h:y∈yT (yx s d).1 x):y∈UI s d:=by
 rcases zf3 64 x.sub [] y h with h1|⟨nm,h1⟩
 ·exact ztN hx h1
 ·exact zr0 h1
def ziJ:SelD→List Mem|.mk _ _ _ a _ _ _=>a
theorem zpk (x:ItD):x.args=ziJ x.x:=by obtain⟨no,⟨k,al,nm,args,dirs,on,sels⟩,typ,sub⟩:=x;rfl
def blq (s:SchD) (d:DocD) (x:TSe):List TSe:=(flq s d 64 (zO s x.1 x.2) x.2.sels []).1
def zb4 (g:TSe→TSe→Bool) (la lb:List TSe):Bool:=la.all fun u=>lb.all fun v=>!decide (Y6 u.2=Y6 v.2)||g u v
def zkR (s:SchD) (d:DocD) (g:TSe→TSe→Bool) (x y:TSe):Bool:=zek s ((yw s x.1 x.2.nm).getD zF).t ((yw s y.1 y.2.nm).getD zF).t&&zb4 g (blq s d x) (blq s d y)
def shq (s:SchD) (d:DocD):Nat→TSe→TSe→Bool
 | 0=>zkR s d fun _ _=>true
 | n+1=>zkR s d (shq s d n)
def ztK (s:SchD) (x y:TSe):Bool:=!decide (x.1=y.1)&&y8 s x.1 [1]&&y8 s y.1 [1]
noncomputable def zj0 (s:SchD) (d:DocD) (g:TSe→TSe→Bool) (x y:TSe):Bool:=shq s d 64 x y&&(ztK s x y||((decide (x.2.nm=y.2.nm)&&zbQ (ziJ x.2) (ziJ y.2))&&zb4 g (blq s d x) (blq s d y)))
noncomputable def tgq (s:SchD) (d:DocD):Nat→TSe→TSe→Bool
 | 0=>zj0 s d fun _ _=>true
 | n+1=>zj0 s d (tgq s d n)
theorem zdd {g h:TSe→TSe→Bool} {la lb:List TSe} (e:∀ u∈la,∀ v∈lb,g u v=h u v):zb4 g la lb=zb4 h la lb:=by
 induction la with
 | nil=>rfl
 | cons u la ih =>
  have h1:=ih fun u hu=>e u (Z0 _ hu)
  simp only[zb4] at h1
  have h2:(lb.all fun v=>!decide (Y6 u.2=Y6 v.2)||g u v)=lb.all fun v=>!decide (Y6 u.2=Y6 v.2)||h u v:=by
   have e1:=e u (ZI ..)
   clear h1 ih e
   induction lb with
   | nil=>rfl
   | cons v lb ih=>rw[List.all_cons,List.all_cons,e1 v (ZI ..),ih fun v hv=>e1 v (Z0 _ hv)]
  simp only[zb4,List.all_cons,h1,h2]
section
variable {s:SchD} {d:DocD}
theorem zff (hfr:zfP s d (yx s d).1) {x:ItD} (hx:x∈UI s d):blq s d (toT x)=(yT (yx s d).1 x).map toT:=by
 obtain⟨k,hk⟩:=zq0 hx
 have:=(ziG hfr 64 x.x.sels (zO s x.typ x.x) k []).1
 rw[← hk] at this
 simp only[blq,toT,← this]
 rfl
theorem zlh (hfr:zfP s d (yx s d).1) {F:Nat→TSe→TSe→Bool} {B:(TSe→TSe→Bool)→TSe→TSe→Bool} (h0:F 0=B fun _ _=>true) (hS:∀ n,F (n+1)=B (F n))
  (hB:∀ g h x y,zb4 g (blq s d x) (blq s d y)=zb4 h (blq s d x) (blq s d y)→B g x y=B h x y):∀(n m:Nat) (x:ItD) (y:TSe),n≤m→n≤64→Ex (yx s d).1 n x.sub→x∈UI s d→F m (toT x) y=F n (toT x) y
 | 0,m,x,y,hnm,hn,hx,hU=>by
  have he:yT (yx s d).1 x=[]:=by
   cases hl:yT (yx s d).1 x with
   | nil=>rfl
   | cons u r =>
    obtain⟨i,hi,_⟩:=Zu (seen:=[]) (f:=64) hx hn (show u∈yT (yx s d).1 x by rw[hl];simp)
    omega
  have hb:blq s d (toT x)=[]:=by rw[zff hfr hU,he];rfl
  have hany:∀ g h,B g (toT x) y=B h (toT x) y:=fun g h=>hB g h _ _ (by rw[hb];rfl)
  cases m with
  | zero=>rfl
  | succ m=>rw[hS,h0];exact hany _ _
 | n+1,m,x,y,hnm,hn,hx,hU=>by
  obtain⟨m,rfl⟩:∃ k,m=k+1:=⟨m-1,by omega⟩
  rw[hS,hS]
  refine hB _ _ _ _ (zdd fun u hu v hv=>?_)
  rw[zff hfr hU] at hu
  obtain⟨w,hw,rfl⟩:=List.mem_map.1 hu
  obtain⟨i,hi,h1,_⟩:=Zu (seen:=[]) (f:=64) hx hn hw
  exact zlh hfr h0 hS hB n m w v (by omega) (by omega) (h1.mono (by omega)) (zgg hU hw)
theorem zjJ (hfr:zfP s d (yx s d).1) {n m:Nat} {x:ItD} (y:TSe) (hnm:n≤m) (hn:n≤64) (hx:Ex (yx s d).1 n x.sub) (hU:x∈UI s d):shq s d m (toT x) y=shq s d n (toT x) y :=
 zlh hfr (F:=shq s d) (B:=zkR s d) rfl (fun _=>rfl) (fun g h x y e=>by simp only[zkR,e]) n m x y hnm hn hx hU
theorem zjo (hfr:zfP s d (yx s d).1) {n m:Nat} {x:ItD} (y:TSe) (hnm:n≤m) (hn:n≤64) (hx:Ex (yx s d).1 n x.sub) (hU:x∈UI s d):tgq s d m (toT x) y=tgq s d n (toT x) y :=
 zlh hfr (F:=tgq s d) (B:=zj0 s d) rfl (fun _=>rfl) (fun g h x y e=>by simp only[zj0,e]) n m x y hnm hn hx hU
theorem zrq (hfr:zfP s d (yx s d).1) {n:Nat} {x:ItD} (y:TSe) (hn:n≤64) (hx:Ex (yx s d).1 n x.sub) (hU:x∈UI s d):shq s d 64 (toT x) y=zkR s d (shq s d 64) (toT x) y:=by
 rw[← zjJ hfr y (show n≤65 by omega) hn hx hU |>.trans (zjJ hfr y hn hn hx hU).symm]
 rfl
theorem zrW (hfr:zfP s d (yx s d).1) {n:Nat} {x:ItD} (y:TSe) (hn:n≤64) (hx:Ex (yx s d).1 n x.sub) (hU:x∈UI s d):tgq s d 64 (toT x) y=zj0 s d (tgq s d 64) (toT x) y:=by
 rw[← zjo hfr y (show n≤65 by omega) hn hx hU |>.trans (zjo hfr y hn hn hx hU).symm]
 rfl
structure MInv (s:SchD) (d:DocD) (S:yi):Prop where
 sh:∀ x∈UI s d,∀ y∈UI s d,∀ r,Yl S.1 (x.no,y.no)=some r→r=shq s d 64 (toT x) (toT y)
 pr:∀ x∈UI s d,∀ y∈UI s d,∀ r,Yl S.2 (x.no,y.no)=some r→r=tgq s d 64 (toT x) (toT y)
theorem zfn (k k':Nat×Nat) (v:Bool):∀ l:PrS,Yl (ZC l k v) k'=if k'=k then some v else Yl l k'
 | []=>by
  simp only[ZC,Yl,List.find?_cons,List.find?_nil]
  by_cases h:k'=k<;>simp[h]
 | (a,u)::r=>by
  have ih:=zfn k k' v r
  simp only[Yl] at ih
  simp only[ZC]
  by_cases h:k=a
  ·subst h
   simp only[if_true,Yl,List.find?_cons]
   by_cases h2:k'=k<;>simp[h2]
  ·simp only[h,if_false,Yl,List.find?_cons]
   by_cases h2:k'=a
   ·subst h2
    have:¬ k'=k:=fun e=>h e.symm
    simp[this]
   ·simp only[h2,decide_false,Al7,if_false]
    exact ih
theorem MInv.set1 {S:yi} (h:MInv s d S) {x y:ItD} (hx:x∈UI s d) (hy:y∈UI s d) {v:Bool} (hv:v=shq s d 64 (toT x) (toT y)):MInv s d (ZC S.1 (x.no,y.no) v,S.2) :=
 ⟨fun a ha b hb r e=>by
  rw[zfn] at e
  by_cases hk:(a.no,b.no)=(x.no,y.no)
  ·rw[if_pos hk] at e
   obtain⟨e1,e2⟩:=Prod.mk.inj hk
   rw[zi5 ha hx e1,zi5 hb hy e2,← hv]
   exact(Option.some.inj e).symm
  ·rw[if_neg hk] at e
   exact h.sh a ha b hb r e,h.pr⟩
theorem MInv.set2 {S:yi} (h:MInv s d S) {x y:ItD} (hx:x∈UI s d) (hy:y∈UI s d) {v:Bool} (hv:v=tgq s d 64 (toT x) (toT y)):MInv s d (S.1,ZC S.2 (x.no,y.no) v) :=
 ⟨h.sh,fun a ha b hb r e=>by
  rw[zfn] at e
  by_cases hk:(a.no,b.no)=(x.no,y.no)
  ·rw[if_pos hk] at e
   obtain⟨e1,e2⟩:=Prod.mk.inj hk
   rw[zi5 ha hx e1,zi5 hb hy e2,← hv]
   exact(Option.some.inj e).symm
  ·rw[if_neg hk] at e
   exact h.pr a ha b hb r e⟩
def zbL (s:SchD) (d:DocD) (g:ItD→ItD→yi→Bool×yi) (G:TSe→TSe→Bool) (u v:ItD):Prop:=∀ S,MInv s d S→(g u v S).1=G (toT u) (toT v)∧MInv s d (g u v S).2
theorem zpi {g:ItD→ItD→yi→Bool×yi} {G:TSe→TSe→Bool} {u:ItD}:∀(lb:List ItD),(∀ v∈lb,zbL s d g G u v)→∀ S,MInv s d S→(zg5 g u lb S).1=((lb.map toT).all fun v=>!decide (Y6 (toT u).2=Y6 v.2)||G (toT u) v)∧MInv s d (zg5 g u lb S).2
 | [],_,S,hS=>⟨rfl,hS⟩
 | v::lb,h,S,hS=>by
  have ih:=zpi lb fun v hv=>h v (Z0 _ hv)
  simp only[zg5,List.map_cons,List.all_cons]
  have ek:∀ x:ItD,(toT x).2=x.x:=fun _=>rfl
  by_cases hk:Y6 u.x=Y6 v.x
  ·obtain⟨h1,h2⟩:=h v (ZI ..) S hS
   simp only[hk,if_true,ek,decide_true,Bool.not_true,Bool.false_or]
   generalize g u v S=R at *
   obtain⟨r,S'⟩:=R
   simp only at h1 h2
   subst h1
   cases hG:G (toT u) (toT v) with
   | true =>
    have:=ih S' h2
    simp only[ek,hk] at this
    simpa using this
   | false=>exact⟨by simp,h2⟩
  ·have:=ih S hS
   simp only[hk,if_false,ek,decide_false,Bool.not_false,Bool.true_or,Bool.true_and] at this ⊢
   exact this
theorem zkS {g:ItD→ItD→yi→Bool×yi} {G:TSe→TSe→Bool} {lb:List ItD}:∀(la:List ItD),(∀ u∈la,∀ v∈lb,zbL s d g G u v)→∀ S,MInv s d S→(Y7 g la lb S).1=zb4 G (la.map toT) (lb.map toT)∧MInv s d (Y7 g la lb S).2
 | [],_,S,hS=>⟨rfl,hS⟩
 | u::la,h,S,hS=>by
  have ih:=zkS la fun u hu=>h u (Z0 _ hu)
  obtain⟨h1,h2⟩:=zpi lb (h u (ZI ..)) S hS
  simp only[Y7,zb4,List.map_cons,List.all_cons]
  simp only[zb4] at ih
  generalize zg5 g u lb S=R at *
  obtain⟨r,S'⟩:=R
  simp only at h1 h2
  subst h1
  cases hG:((lb.map toT).all fun v=>!decide (Y6 (toT u).2=Y6 v.2)||G (toT u) v) with
  | true =>
   have:=ih S' h2
   simpa using this
  | false=>exact⟨by simp,h2⟩
theorem zpa (hfr:zfP s d (yx s d).1) {n m:Nat} {x y:ItD} {g:ItD→ItD→yi→Bool×yi} (hx:x∈UI s d) (hy:y∈UI s d) (hn:n≤64) (hxe:Ex (yx s d).1 n x.sub)
  (hg:∀ u∈yT (yx s d).1 x,∀ v∈yT (yx s d).1 y,zbL s d g (shq s d 64) u v):zbL s d (shB s (yx s d).1 g) (shq s d 64) x y:=by
 intro S hS
 have hu:=zrq hfr (toT y) hn hxe hx
 obtain⟨h1,h2⟩:=zkS (yT (yx s d).1 x) hg S hS
 rw[← zff hfr hx,← zff hfr hy] at h1
 have hsp:zkR s d (shq s d 64) (toT x) (toT y)=(zek s ((yw s x.typ x.x.nm).getD zF).t ((yw s y.typ y.x.nm).getD zF).t&&zb4 (shq s d 64) (blq s d (toT x)) (blq s d (toT y))):=rfl
 rw[hsp] at hu
 simp only[shB]
 cases hp:Yl S.1 (x.no,y.no) with
 | some r=>exact⟨hS.sh x hx y hy r hp,hS⟩
 | none =>
  simp only
  split
  ·rename_i hs
   rw[hs,Bool.true_and] at hu
   rw[← hu] at h1
   exact⟨h1,h2.set1 hx hy h1⟩
  ·rename_i hs
   have hs':zek s ((yw s x.typ x.x.nm).getD zF).t ((yw s y.typ y.x.nm).getD zF).t=false:=by simpa using hs
   rw[hs',Bool.false_and] at hu
   exact⟨hu.symm,hS.set1 hx hy hu.symm⟩
theorem zsD (hfr:zfP s d (yx s d).1):∀(n m:Nat) (x y:ItD),x∈UI s d→y∈UI s d→n≤64→m≤64→Ex (yx s d).1 n x.sub→Ex (yx s d).1 m y.sub→zbL s d (shF s (yx s d).1 n) (shq s d 64) x y
 | 0,m,x,y,hx,hy,hn,hm,hxe,hye=>zpa (m:=m) hfr hx hy hn hxe fun u hu v hv=>by
  obtain⟨i,hi,_⟩:=Zu (seen:=[]) (f:=64) hxe hn hu
  omega
 | n+1,m,x,y,hx,hy,hn,hm,hxe,hye=>zpa (m:=m) hfr hx hy hn hxe fun u hu v hv=>by
  obtain⟨i,hi,h1,_⟩:=Zu (seen:=[]) (f:=64) hxe hn hu
  obtain⟨j,hj,h2,_⟩:=Zu (seen:=[]) (f:=64) hye hm hv
  exact zsD hfr n j u v (zgg hx hu) (zgg hy hv) (by omega) (by omega) (h1.mono (by omega)) h2
theorem zoL (hfr:zfP s d (yx s d).1) {n m:Nat} {x y:ItD} {g:ItD→ItD→yi→Bool×yi} (hx:x∈UI s d) (hy:y∈UI s d) (hn:n≤64) (hm:m≤64) (hxe:Ex (yx s d).1 n x.sub) (hye:Ex (yx s d).1 m y.sub)
  (hg:∀ u∈yT (yx s d).1 x,∀ v∈yT (yx s d).1 y,zbL s d g (tgq s d 64) u v):zbL s d (tgB s (yx s d).1 g) (tgq s d 64) x y:=by
 intro S hS
 have hu:=zrW hfr (toT y) hn hxe hx
 obtain⟨a1,a2⟩:=zsD hfr 64 m x y hx hy (Al4 _) hm (hxe.mono hn) hye S hS
 obtain⟨h1,h2⟩:=zkS (yT (yx s d).1 x) hg _ a2
 rw[← zff hfr hx,← zff hfr hy] at h1
 have hsp:zj0 s d (tgq s d 64) (toT x) (toT y)=(shq s d 64 (toT x) (toT y)&&(ze8 s x y||((decide (x.x.nm=y.x.nm)&&zbQ x.args y.args)&&zb4 (tgq s d 64) (blq s d (toT x)) (blq s d (toT y))))):=by rw[zpk,zpk];rfl
 rw[hsp] at hu
 simp only[tgB]
 cases hp:Yl S.2 (x.no,y.no) with
 | some r=>exact⟨hS.pr x hx y hy r hp,hS⟩
 | none =>
  simp only
  generalize shF s (yx s d).1 64 x y S=A at *
  rw[← a1] at hu
  split
  ·rename_i hs
   rw[hs,Bool.true_and] at hu
   split
   ·rename_i hap
    rw[hap,Bool.true_or] at hu
    exact⟨hu.symm,a2.set2 hx hy hu.symm⟩
   ·rename_i hap
    have hap':ze8 s x y=false:=by simpa using hap
    rw[hap',Bool.false_or] at hu
    split
    ·rename_i hk
     rw[hk,Bool.true_and] at hu
     rw[← hu] at h1
     exact⟨h1,h2.set2 hx hy h1⟩
    ·rename_i hk
     have hk':(decide (x.x.nm=y.x.nm)&&zbQ x.args y.args)=false:=by simpa using hk
     rw[hk',Bool.false_and] at hu
     exact⟨hu.symm,a2.set2 hx hy hu.symm⟩
  ·rename_i hs
   have hs':A.1=false:=by simpa using hs
   rw[hs',Bool.false_and] at hu
   exact⟨hu.symm,a2.set2 hx hy hu.symm⟩
theorem zr6 (hfr:zfP s d (yx s d).1):∀(n m:Nat) (x y:ItD),x∈UI s d→y∈UI s d→n≤64→m≤64→Ex (yx s d).1 n x.sub→Ex (yx s d).1 m y.sub→zbL s d (tgF s (yx s d).1 n) (tgq s d 64) x y
 | 0,m,x,y,hx,hy,hn,hm,hxe,hye=>zoL hfr hx hy hn hm hxe hye fun u hu v hv=>by
  obtain⟨i,hi,_⟩:=Zu (seen:=[]) (f:=64) hxe hn hu
  omega
 | n+1,m,x,y,hx,hy,hn,hm,hxe,hye=>zoL hfr hx hy hn hm hxe hye fun u hu v hv=>by
  obtain⟨i,hi,h1,_⟩:=Zu (seen:=[]) (f:=64) hxe hn hu
  obtain⟨j,hj,h2,_⟩:=Zu (seen:=[]) (f:=64) hye hm hv
  exact zr6 hfr n j u v (zgg hx hu) (zgg hy hv) (by omega) (by omega) (h1.mono (by omega)) h2
end
theorem zpt (s:SchD):∀(fs done:List FragD) (st:RSt),(∀ n,∃ no,(yW st.1 n).map (·.2)=((done.find? (Yw n)).map fun f=>(zR s f.sels f.on no).1))→∀ n,∃ no,(yW (fs.foldl (rFr s) st).1 n).map (·.2)=(((done++fs).find? (Yw n)).map fun f=>(zR s f.sels f.on no).1)
 | [],done,st,h=>by simpa using h
 | f::fs,done,st,h=>by
  have hn:=zpt s fs (done++[f]) (rFr s st f) (fun n=>by
   obtain⟨no,e⟩:=h n
   cases hf:yW st.1 f.nm with
   | some x =>
    have e2:rFr s st f=st:=by unfold rFr;rw[hf]
    rw[e2,List.find?_append]
    refine⟨no,?_⟩
    rw[e]
    cases hd:done.find? (Yw n) with
    | some y=>simp
    | none =>
     by_cases hfn:f.nm=n
     ·rw[hfn] at hf
      rw[hf,hd] at e
      simp at e
     ·simp[Yw,hfn]
   | none =>
    have e2:(rFr s st f).1=st.1++[(f.nm,(zR s f.sels f.on st.2.2).1)]:=by unfold rFr;rw[hf]
    rw[e2,zb9,List.find?_append]
    cases hd:done.find? (Yw n) with
    | some y =>
     refine⟨no,?_⟩
     rw[hd] at e
     cases hx:yW st.1 n with
     | none=>rw[hx] at e;simp at e
     | some z=>rw[hx] at e;simpa using e
    | none =>
     rw[hd] at e
     have hx:yW st.1 n=none:=by
      cases hx:yW st.1 n with
      | none=>rfl
      | some z=>rw[hx] at e;simp at e
     refine⟨st.2.2,?_⟩
     rw[hx]
     by_cases hfn:f.nm=n
     ·subst hfn;simp[Yw]
     ·have:¬ n=f.nm:=fun e=>hfn e.symm
      simp[Yw,hfn,this])
  intro n
  obtain⟨no,e⟩:=hn n
  exact⟨no,by rw[List.foldl_cons,e];simp⟩
theorem zqK (s:SchD) (d:DocD):zfP s d (yx s d).1:=fun n=>by
 obtain⟨no,e⟩:=zpt s d.frags [] ([],[],0) (fun n=>⟨0,rfl⟩) n
 refine⟨no,?_⟩
 rw[zeC,yx,zlk,e,zc8,frS,zi9,zC]
 cases d.frags.find? (Yw n) with
 | none=>simp[zFr,zR]
 | some f=>simp
def zlp (g:TSe→TSe→Bool) (x:TSe) (l:List TSe):Bool:=l.all fun y=>!decide (Y6 x.2=Y6 y.2)||g y x
def zcT (g:TSe→TSe→Bool):List TSe→List TSe→Bool
 | _,[]=>true
 | a,x::r=>zlp g x a&&zcT g (a++[x]) r
noncomputable def zlC (s:SchD) (d:DocD) (h:List UInt8→List SelD→Bool) (typ:List UInt8) (l:List SelD):Bool:=zcT (tgq s d 64) [] (flq s d 64 typ l []).1&&l.all fun x=>h (zO s typ x) x.sels
noncomputable def lsq (s:SchD) (d:DocD):Nat→List UInt8→List SelD→Bool
 | 0=>zlC s d fun _ _=>true
 | n+1=>zlC s d (lsq s d n)
section
variable {s:SchD} {d:DocD}
theorem zmb {g:ItD→ItD→yi→Bool×yi} {G:TSe→TSe→Bool} {u:ItD}:∀(lb:List ItD),(∀ v∈lb,zbL s d g G v u)→∀ S,MInv s d S→(rowB g u lb S).1=zlp G (toT u) (lb.map toT)∧MInv s d (rowB g u lb S).2
 | [],_,S,hS=>⟨rfl,hS⟩
 | v::lb,h,S,hS=>by
  have ih:=zmb lb fun v hv=>h v (Z0 _ hv)
  simp only[rowB,zlp,List.map_cons,List.all_cons] at ih ⊢
  have ek:∀ x:ItD,(toT x).2=x.x:=fun _=>rfl
  by_cases hk:Y6 u.x=Y6 v.x
  ·obtain⟨h1,h2⟩:=h v (ZI ..) S hS
   simp only[hk,if_true,ek,decide_true,Bool.not_true,Bool.false_or]
   generalize g v u S=R at *
   obtain⟨r,S'⟩:=R
   simp only at h1 h2
   subst h1
   cases hG:G (toT v) (toT u) with
   | true =>
    have:=ih S' h2
    simp only[ek,hk] at this
    simpa using this
   | false=>exact⟨by simp,h2⟩
  ·have:=ih S hS
   simp only[hk,if_false,ek,decide_false,Bool.not_false,Bool.true_or,Bool.true_and] at this ⊢
   exact this
theorem zju {g:ItD→ItD→yi→Bool×yi} {G:TSe→TSe→Bool}:∀(r a:List ItD),(∀ u∈a++r,∀ v∈a++r,zbL s d g G u v)→∀ S,MInv s d S→(zay g a r S).1=zcT G (a.map toT) (r.map toT)∧MInv s d (zay g a r S).2
 | [],a,_,S,hS=>⟨rfl,hS⟩
 | x::r,a,h,S,hS=>by
  obtain⟨h1,h2⟩:=zmb (u:=x) a (fun v hv=>h v (zaW _ hv) x (by simp)) S hS
  have ih:=zju r (a++[x]) (fun u hu v hv=>h u (by simpa[zbM] using hu) v (by simpa[zbM] using hv))
  simp only[zay,List.map_cons,zcT]
  generalize rowB g x a S=R at *
  obtain⟨r',S'⟩:=R
  simp only at h1 h2
  subst h1
  cases hG:zlp G (toT x) (a.map toT) with
  | true =>
   have:=ih S' h2
   simpa using this
  | false=>exact⟨by simp,h2⟩
def zid (s:SchD) (d:DocD) (h:List ItD→yi→Bool×yi) (l:List ItD) (b:Bool):Prop:=∀ S,MInv s d S→(h l S).1=b∧MInv s d (h l S).2
theorem zob {h:List ItD→yi→Bool×yi} {H:List UInt8→List SelD→Bool} {typ:List UInt8}:∀(l:List SelD) (no:Nat),(∀ x∈l,∀ k,(∃ y∈(zR s l typ no).1,y.sub=(zR s x.sels (zO s typ x) k).1)→zid s d h (zR s x.sels (zO s typ x) k).1 (H (zO s typ x) x.sels)) →
  ∀ S,MInv s d S→(zel h (zR s l typ no).1 S).1=(l.all fun x=>H (zO s typ x) x.sels)∧MInv s d (zel h (zR s l typ no).1 S).2
 | [],no,_,S,hS=>⟨rfl,hS⟩
 | x::r,no,hh,S,hS=>by
  have ih:=zob r (itS s x typ no).2 (fun z hz k ⟨y,hy,e⟩=>hh z (Z0 _ hz) k ⟨y,by simp only[zR];exact Z0 _ hy,e⟩)
  have e1:(itS s x typ no).1.sub=(zR s x.sels (zO s typ x) (no+1)).1:=by
   obtain⟨k,al,nm,args,dirs,on,sels⟩:=x
   simp only[itS,ItD.sub,SelD.sels]
  obtain⟨h1,h2⟩:=hh x (ZI ..) (no+1) ⟨(itS s x typ no).1,by simp only[zR];exact ZI ..,e1⟩ S hS
  simp only[zR,zel,List.all_cons,e1]
  generalize h (zR s x.sels (zO s typ x) (no+1)).1 S=R at *
  obtain⟨r',S'⟩:=R
  simp only at h1 h2
  subst h1
  cases hG:H (zO s typ x) x.sels with
  | true =>
   have:=ih S' h2
   simpa using this
  | false=>exact⟨by simp,h2⟩
theorem zn9 {n:Nat} {typ:List UInt8} {l:List SelD} {no:Nat} {h:List ItD→yi→Bool×yi} {H:List UInt8→List SelD→Bool} (hn:n≤64) (hx:Ex (yx s d).1 n (zR s l typ no).1) (hU:∀ y∈Yu (zR s l typ no).1,y∈UI s d)
  (hh:∀ x∈l,∀ k,(∃ y∈(zR s l typ no).1,y.sub=(zR s x.sels (zO s typ x) k).1)→zid s d h (zR s x.sels (zO s typ x) k).1 (H (zO s typ x) x.sels)):zid s d (lsB s (yx s d).1 h) (zR s l typ no).1 (zlC s d H typ l):=by
 intro S hS
 have hfr:=zqK s d
 have hfl:=(ziG hfr 64 l typ no []).1
 have hmem:∀ y∈(flF (yx s d).1 64 (zR s l typ no).1 []).1,y∈UI s d:=fun y hy=>by
  rcases zf3 64 _ [] y hy with h1|⟨nm,h1⟩
  ·exact hU y h1
  ·exact zr0 h1
 obtain⟨h1,h2⟩:=zju (g:=tgF s (yx s d).1 64) (G:=tgq s d 64) (flF (yx s d).1 64 (zR s l typ no).1 []).1 [] (fun u hu v hv=>by
  rw[zc8] at hu hv
  obtain⟨i,hi,g1,_⟩:=Zu hx hn hu
  obtain⟨j,hj,g2,_⟩:=Zu hx hn hv
  exact zr6 hfr 64 j u v (hmem u hu) (hmem v hv) (Al4 _) (by omega) (g1.mono (by omega)) g2) S hS
 have e1:(flq s d 64 typ l []).1=(flF (yx s d).1 64 (zR s l typ no).1 []).1.map toT:=by rw[← hfl]
 simp only[lsB,zlC,e1]
 rw[List.map_nil] at h1
 generalize zay (tgF s (yx s d).1 64) [] (flF (yx s d).1 64 (zR s l typ no).1 []).1 S=R at *
 obtain⟨r',S'⟩:=R
 simp only at h1 h2
 subst h1
 cases hG:zcT (tgq s d 64) [] ((flF (yx s d).1 64 (zR s l typ no).1 []).1.map toT) with
 | true =>
  have:=zob l no hh S' h2
  simpa using this
 | false=>exact⟨by simp,h2⟩
theorem zml:∀(n:Nat) (typ:List UInt8) (l:List SelD) (no:Nat),n≤64→Ex (yx s d).1 n (zR s l typ no).1→(∀ y∈Yu (zR s l typ no).1,y∈UI s d)→zid s d (lsF s (yx s d).1 n) (zR s l typ no).1 (lsq s d n typ l)
 | 0,typ,l,no,hn,hx,hU=>zn9 hn hx hU fun x hxm k ⟨y,hy,e⟩=>by
  rw[hx.zero] at hy;cases hy
 | n+1,typ,l,no,hn,hx,hU=>zn9 hn hx hU fun x hxm k ⟨y,hy,e⟩=>by
  refine zml n _ _ _ (by omega) (by rw[← e];exact hx.sub hy) fun z hz=>?_
  rw[← e] at hz
  exact hU z (zet _ y z (zhe hy) hz)
theorem zkJ {h:List ItD→yi→Bool×yi} {P:List ItD→Bool}:∀(L:List (List ItD)),(∀ l∈L,zid s d h l (P l))→∀ S,MInv s d S→(zdK h L S).1=L.all P∧MInv s d (zdK h L S).2
 | [],_,S,hS=>⟨rfl,hS⟩
 | l::L,hh,S,hS=>by
  obtain⟨h1,h2⟩:=hh l (ZI ..) S hS
  have ih:=zkJ L fun x hx=>hh x (Z0 _ hx)
  simp only[zdK,List.all_cons]
  generalize h l S=R at *
  obtain⟨r',S'⟩:=R
  simp only at h1 h2
  subst h1
  cases hG:P l with
  | true =>
   have:=ih S' h2
   simpa using this
  | false=>exact⟨by simp,h2⟩
end
theorem zjC (s:SchD) (d:DocD):∀ l∈(yx s d).2.1,(∃ f∈d.frags,∃ no,l=(zR s f.sels f.on no).1)∨∃ o∈d.ops,∃ no,l=(zR s o.sels (ZQ s o) no).1:=by
 have h1:∀(fs:List FragD) (st:RSt),∀ l∈(fs.foldl (rFr s) st).2.1,l∈st.2.1∨∃ f∈fs,∃ no,l=(zR s f.sels f.on no).1:=by
  intro fs
  induction fs with
  | nil=>intro st l h;exact .inl h
  | cons f fs ih =>
   intro st l h
   rcases ih (rFr s st f) l h with h1|⟨g,hg,no,e⟩
   ·unfold rFr at h1
    split at h1
    ·exact .inl h1
    ·rcases List.mem_append.1 h1 with h2|h2
     ·exact .inl h2
     ·simp only[List.mem_singleton] at h2
      exact .inr ⟨f,ZI ..,_,h2⟩
   ·exact .inr ⟨g,Z0 _ hg,no,e⟩
 have h2:∀(fs:List OpD) (st:RSt),∀ l∈(fs.foldl (rOp s) st).2.1,l∈st.2.1∨∃ f∈fs,∃ no,l=(zR s f.sels (ZQ s f) no).1:=by
  intro fs
  induction fs with
  | nil=>intro st l h;exact .inl h
  | cons f fs ih =>
   intro st l h
   rcases ih (rOp s st f) l h with h1|⟨g,hg,no,e⟩
   ·rcases List.mem_append.1 h1 with h2|h2
    ·exact .inl h2
    ·simp only[List.mem_singleton] at h2
     exact .inr ⟨f,ZI ..,_,h2⟩
   ·exact .inr ⟨g,Z0 _ hg,no,e⟩
 intro l h
 rcases h2 d.ops _ l h with h|h
 ·rcases h1 d.frags _ l h with h|h
  ·cases h
  ·exact .inl h
 ·exact .inr h
theorem znl (s:SchD) (d:DocD):∀ o∈d.ops,∃ no,(zR s o.sels (ZQ s o) no).1∈(yx s d).2.1:=by
 have h:∀(fs:List OpD) (st:RSt),(∀ l∈st.2.1,l∈(fs.foldl (rOp s) st).2.1)∧∀ o∈fs,∃ no,(zR s o.sels (ZQ s o) no).1∈(fs.foldl (rOp s) st).2.1:=by
  intro fs
  induction fs with
  | nil=>intro st;exact⟨fun l h=>h,fun o h=>by cases h⟩
  | cons f fs ih =>
   intro st
   obtain⟨i1,i2⟩:=ih (rOp s st f)
   refine⟨fun l h=>i1 l (zaW _ h),fun o ho=>?_⟩
   rcases List.mem_cons.1 ho with rfl|ho
   ·exact⟨st.2.2,i1 _ (List.mem_append_right _ (by simp))⟩
   ·exact i2 o ho
 exact(h d.ops _).2
theorem zkz (s:SchD) (d:DocD) (hn:(d.frags.map (·.nm)).Nodup):∀ f∈d.frags,∃ no,(zR s f.sels f.on no).1∈(yx s d).2.1:=by
 have h0:∀(fs:List OpD) (st:RSt),(∀ l∈st.2.1,l∈(fs.foldl (rOp s) st).2.1):=by
  intro fs
  induction fs with
  | nil=>intro st l h;exact h
  | cons f fs ih=>intro st l h;exact ih (rOp s st f) l (zaW _ h)
 have h:∀(fs:List FragD) (st:RSt),(fs.map (·.nm)).Nodup→(∀ f∈fs,yW st.1 f.nm=none)→(∀ l∈st.2.1,l∈(fs.foldl (rFr s) st).2.1)∧∀ f∈fs,∃ no,(zR s f.sels f.on no).1∈(fs.foldl (rFr s) st).2.1:=by
  intro fs
  induction fs with
  | nil=>intro st _ _;exact⟨fun l h=>h,fun o h=>by cases h⟩
  | cons f fs ih =>
   intro st hnd hf
   have hff:=hf f (ZI ..)
   have e2:rFr s st f=(st.1++[(f.nm,(zR s f.sels f.on st.2.2).1)],st.2.1++[(zR s f.sels f.on st.2.2).1],(zR s f.sels f.on st.2.2).2):=by unfold rFr;rw[hff]
   simp only[List.map_cons,List.nodup_cons] at hnd
   obtain⟨i1,i2⟩:=ih (rFr s st f) hnd.2 (fun g hg=>by
    rw[e2,zb9,hf g (Z0 _ hg)]
    have:¬ g.nm=f.nm:=fun e=>hnd.1 (List.mem_map.2 ⟨g,hg,e⟩)
    simp[this])
   rw[List.foldl_cons]
   refine⟨fun l h=>i1 l (by rw[e2];exact zaW _ h),fun o ho=>?_⟩
   rcases List.mem_cons.1 ho with rfl|ho
   ·exact⟨st.2.2,i1 _ (by rw[e2];exact List.mem_append_right _ (by simp))⟩
   ·exact i2 o ho
 intro f hf
 obtain⟨no,h1⟩:=(h d.frags ([],[],0) hn fun _ _=>rfl).2 f hf
 exact⟨no,h0 d.ops _ _ h1⟩
theorem zmP {s:SchD} {d:DocD} (hl:∀ x∈ya d,Sz d 40 x) (hb:zw d≤Lim) (hn:(d.frags.map (·.nm)).Nodup):mgM s d=true↔zbJ d=false∧(∀ f∈d.frags,lsq s d 64 f.on f.sels=true)∧∀ o∈d.ops,lsq s d 64 (ZQ s o) o.sels=true:=by
 have hex:=zl5 (s:=s) hl hb
 have hU:∀ l∈(yx s d).2.1,∀ y∈Yu l,y∈UI s d:=fun l h y hy=>List.mem_flatMap.2 ⟨l,h,hy⟩
 have hM0:MInv s d ([],[]):=⟨fun x _ y _ r h=>(by simp[Yl] at h),fun x _ y _ r h=>(by simp[Yl] at h)⟩
 have hL:∀ l∈(yx s d).2.1,∃ b,zid s d (lsF s (yx s d).1 64) l b:=fun l h=>by
  rcases zjC s d l h with ⟨f,hf,no,rfl⟩|⟨o,ho,no,rfl⟩
  ·exact⟨_,zml 64 _ _ _ (Al4 _) (hex _ h) (hU _ h)⟩
  ·exact⟨_,zml 64 _ _ _ (Al4 _) (hex _ h) (hU _ h)⟩
 have hall:=(zkJ (h:=lsF s (yx s d).1 64) (P:=fun l=>(lsF s (yx s d).1 64 l ([],[])).1) (yx s d).2.1 (fun l h=>by
  obtain⟨b,hb⟩:=hL l h
  intro S hS
  rw[(hb ([],[]) hM0).1]
  exact hb S hS) ([],[]) hM0).1
 have hval:∀ typ l no,(zR s l typ no).1∈(yx s d).2.1→(lsF s (yx s d).1 64 (zR s l typ no).1 ([],[])).1=lsq s d 64 typ l:=fun typ l no h=>(zml 64 typ l no (Al4 _) (hex _ h) (hU _ h) ([],[]) hM0).1
 unfold mgM
 rw[hall,Al0,Bool.not_eq_true',zdU]
 constructor
 ·rintro⟨h1,h2⟩
  refine⟨h1,fun f hf=>?_,fun o ho=>?_⟩
  ·obtain⟨no,h⟩:=zkz s d hn f hf
   rw[← hval _ _ no h];exact h2 _ h
  ·obtain⟨no,h⟩:=znl s d o ho
   rw[← hval _ _ no h];exact h2 _ h
 ·rintro⟨h1,h2,h3⟩
  refine⟨h1,fun l h=>?_⟩
  rcases zjC s d l h with ⟨f,hf,no,rfl⟩|⟨o,ho,no,rfl⟩
  ·rw[hval _ _ no h];exact h2 f hf
  ·rw[hval _ _ no h];exact h3 o ho
theorem zen (dp:Int) (fixed:Bool) (l:List DirD) (x:DirD):Zf dp fixed (l++[x])=(Zf dp fixed l&&zf4 dp fixed x):=by simp[Zf]
theorem zkE (l:List DirD) (x:DirD):tDs (l++[x])=tDs l++tD x:=by simp[tDs]
theorem zg7 (l:List DirD) (x:DirD):bDs (l++[x])=bDs l+bD x:=by simp[bDs]
theorem yP (fixed:Bool) (m:List DirD) (hw:zlt m) (hm:8*bDs m≤Lim):WC 193 [.bool fixed,.sl .no 2 (cDs m)] (8*bDs m) 0 32 (fun dp=>Zf dp fixed m) (tDs m):=by
 intro H w o l ok dp h h0 h1 hb
 have hml:=zau m
 have hcl:=YP m
 have hm':=hm
 simp only[Lim] at hm'
 refine zj.go ir193 ck193 (Al4 _) fun KP Q hQ=>?_
 have w0:=WR.refl h
 simp(disch:=omega) only[ir193,hcl,go_sem]
 refine zf m 10 (fun x:Own×List Tok=>[]) (fun done rest x H'=>WR H o w l ok dp (8*bDs done) (Zf dp fixed done) (tDs done) H' x.1 x.2) (o,l) (by simp(disch:=omega) only[go_sem]) (w0.cast (by omega) rfl rfl) ?_ ?_
 ·rintro⟨o3,l3⟩ H3 J w3 hlt
  simp only at w3
  simp(disch:=omega) only[hcl,hlt,go_sem]
  exact hQ _ _ H3 H3 [] nofun rfl (Low.refl _) ⟨rfl,w3.fin rfl (fun _=>rfl) (by omega)⟩
 ·rintro done x rest ⟨o3,l3⟩ H3 J hd hlt hlt2 w3 hJ
  simp only at w3
  have hg:=zar hd
  have hbm:=zcp done x rest
  rw[← hd] at hbm
  have hmem:x∈m:=by rw[hd];simp
  have hwx:=hw x hmem
  obtain⟨s,args⟩:=x
  have hal:=Ze args
  simp only[bD] at hbm
  have ex:cD ⟨s,args⟩=[.str s,.sl .no 6 (cMs args)]:=rfl
  rw[ex] at hg
  simp(disch:=omega) only[hcl,hlt,hg,go_sem]
  refine zb fun b hb=>?_
  have hbw:b≠w:=fun e=>by subst e;rw[w3.here.cell] at hb;cases hb
  have w4:=w3.alloc (x:=.cells [.str s,.sl .no 6 (cMs args)]) hb
  have hbc:(H3.upd b (.cells [.str s,.sl .no 6 (cMs args)])) b=some (.cells [.str s,.sl .no 6 (cMs args)]):=upd_same ..
  simp(disch:=omega) only[go_sem]
  refine zn (yD [64] _) w4 (by omega) (by omega) (by omega) fun o5 l5 H5 w5 s5=>?_
  have hb5:=s5.box w4.here.own hbc hbw
  simp(disch:=omega) only[hb5,go_sem]
  refine zn (yu s (by simp only[Lim];omega)) w5 (by omega) (by omega) (by omega) fun o6 l6 H6 w6 s6=>?_
  have hb6:=s6.box w5.here.own hb5 hbw
  simp(disch:=omega) only[hb6,go_sem]
  refine zn (zd6 fixed args hwx (by simp only[Lim];omega)) w6 (by omega) (by omega) (by omega) fun o7 l7 H7 w7 s7=>?_
  simp(disch:=omega) only[wrap64,go_sem]
  exact goJ (hJ (o7,l7) H7 (w7.cast (by rw[zg7];simp only[bD];omega) (by rw[zen];simp[zf4,yg]) (by rw[zkE];simp[tD]))) (by simp(disch:=omega) only[go_sem])
def zoU (c:Nat):Prop:=∀ l:List SelD,bSs l≤c→zgv l→16*bSs l+2≤Lim→WC 224 [.sl .no 7 (cSs l)] (16*bSs l) 0 17 (fun dp=>yp dp l) (tSl l)
theorem yL {c:Nat} (hL:zoU c) (l:List SelD) (hc:bSs l≤c) (hw:zgv l) (hm:16*bSs l+2≤Lim):WC 194 [.sl .no 7 (cSs l)] (16*bSs l+2) 0 16 (fun dp=>yp (dp+1) l) (tBl l):=by
 intro H w o k ok dp h h0 h1 hb
 refine zj.go ir194 ck194 (Al4 _) fun KP Q hQ=>?_
 simp(disch:=omega) only[ir194,go_sem]
 refine zbj (yD [123] _) h (by omega) (by omega) (by omega) fun o2 l2 H2 h2 h3 h4 h5=>?_
 have c2:=h2.cell
 have w1:IntKind.wrap .i64 (dp+1)=dp+1:=wrap64 (by omega) (by omega)
 have w2:IntKind.wrap .i64 (dp+1-1)=dp:=by rw[wrap64 (by omega) (by omega)];omega
 simp(disch:=omega) only[c2,w1,go_sem]
 have g2:=h2.put (ok':=ok&&true) (dp':=dp+1)
 refine zbj (hL l hc hw hm) g2 (by omega) (by omega) (by omega) fun o3 l3 H3 h6 h7 h8 h9=>?_
 have c3:=h6.cell
 simp(disch:=omega) only[c3,w2,go_sem]
 have g3:=h6.put (ok':=(ok&&true)&&yp (dp+1) l) (dp':=dp)
 refine zbj (yD [125] _) g3 (by omega) (by omega) (by omega) fun o4 l4 H4 h10 h11 h12 h13=>?_
 simp(disch:=omega) only[go_sem]
 refine hQ _ _ H4 H4 [] nofun rfl (Low.refl _) ⟨rfl,o4,l4,by simpa using h10,?_,by omega,fun e=>?_⟩
 ·exact((h3.upd.trans (upd_same ..) h7).upd).trans (upd_same ..) h11
 ·simp only[Bool.and_true] at h5 h9 h13
  rw[h13 e,h9 e,h5 (by simp only[Al0] at e;exact e.1)]
  simp[tBl]
theorem zoy (k:Int) (al nm:List UInt8) (args:List Mem) (dirs:List DirD) (on:List UInt8) (sels:List SelD) (hk:k=1) (hw:wfS (.mk k al nm args dirs on sels)) (hm:16*bS (.mk k al nm args dirs on sels)≤Lim) :
  WC 243 [.agg (cS (.mk k al nm args dirs on sels))] (16*bS (.mk k al nm args dirs on sels)) 0 16 (fun dp=>yv dp (.mk k al nm args dirs on sels)) (tS (.mk k al nm args dirs on sels)):=by
 intro H w o l ok dp h h0 h1 hb
 have hm':=hm
 simp only[Lim,bS] at hm'
 simp only[bS] at hb
 have hcm:=Za args
 have hcs:=YS sels
 obtain⟨_,hwd,_⟩:=hw
 subst hk
 refine zj.go ir243 ck243 (Al4 _) fun KP Q hQ=>?_
 have w0:=WR.refl h
 obtain⟨b,hbd⟩:∃ b,b=(decide (nm≠[111,110])&&(decide (al=[])&&(decide (on=[])&&(decide (args.length=0)&&decide (sels.length=0))))):=⟨_,rfl⟩
 have er:yv dp (.mk 1 al nm args dirs on sels)=(b&&zP nm&&Zf dp false dirs):=by
  rw[hbd];simp only[yv,show ¬ ((1:Int)=0) by decide,if_false,if_true]
  cases zP nm<;>cases Zf dp false dirs<;>simp
 have et:b=true→tS (.mk 1 al nm args dirs on sels)=pk [46,46,46]::wk nm::tDs dirs:=fun e=>by
  rw[hbd] at e
  simp only[Al0,yX] at e
  simp[tS,e.2.2.2.2]
 by_cases h1:al=[]
 case neg =>
  have hbv:b=false:=by rw[hbd];simp[h1]
  simp(disch:=omega) only[ir243,Zb,h1,go_sem]
  refine zn (ZH _) w0 (by omega) (by omega) (by omega) fun o2 l2 H2 w2 _=>?_
  simp(disch:=omega) only[go_sem]
  refine zn (yD [46,46,46] _) w2 (by omega) (by omega) (by omega) fun o3 l3 H3 w3 _=>?_
  simp(disch:=omega) only[go_sem]
  refine zn (yu nm (by simp only[Lim];omega)) w3 (by omega) (by omega) (by omega) fun o4 l4 H4 w4 _=>?_
  simp(disch:=omega) only[go_sem]
  refine zn (yP false dirs hwd (by simp only[Lim];omega)) w4 (by omega) (by omega) (by omega) fun o5 l5 H5 w5 _=>?_
  simp(disch:=omega) only[go_sem]
  exact hQ _ _ H5 H5 [] nofun rfl (Low.refl _) ⟨rfl,w5.fin (by show _=yv dp _;rw[er,hbv];simp) (fun e=>by have e:yv dp (.mk 1 al nm args dirs on sels)=true:=e;rw[et (by rw[er] at e;simp only[Al0] at e;exact e.1.1)];simp) (by simp only[bS];omega)⟩
 by_cases h2:args.length=0
 case neg =>
  have hbv:b=false:=by rw[hbd];simp[h2]
  have h2':¬ ((args.length:Int)=0):=by omega
  simp(disch:=omega) only[ir243,Zb,h1,hcm,h2',go_sem]
  refine zn (ZH _) w0 (by omega) (by omega) (by omega) fun o2 l2 H2 w2 _=>?_
  simp(disch:=omega) only[go_sem]
  refine zn (yD [46,46,46] _) w2 (by omega) (by omega) (by omega) fun o3 l3 H3 w3 _=>?_
  simp(disch:=omega) only[go_sem]
  refine zn (yu nm (by simp only[Lim];omega)) w3 (by omega) (by omega) (by omega) fun o4 l4 H4 w4 _=>?_
  simp(disch:=omega) only[go_sem]
  refine zn (yP false dirs hwd (by simp only[Lim];omega)) w4 (by omega) (by omega) (by omega) fun o5 l5 H5 w5 _=>?_
  simp(disch:=omega) only[go_sem]
  exact hQ _ _ H5 H5 [] nofun rfl (Low.refl _) ⟨rfl,w5.fin (by show _=yv dp _;rw[er,hbv];simp) (fun e=>by have e:yv dp (.mk 1 al nm args dirs on sels)=true:=e;rw[et (by rw[er] at e;simp only[Al0] at e;exact e.1.1)];simp) (by simp only[bS];omega)⟩
 have h2':((args.length:Int)=0)=True:=eq_true (by omega)
 by_cases h3:on=[]
 case neg =>
  have hbv:b=false:=by rw[hbd];simp[h3]
  simp(disch:=omega) only[ir243,Zb,h1,hcm,h2',h3,go_sem]
  refine zn (ZH _) w0 (by omega) (by omega) (by omega) fun o2 l2 H2 w2 _=>?_
  simp(disch:=omega) only[go_sem]
  refine zn (yD [46,46,46] _) w2 (by omega) (by omega) (by omega) fun o3 l3 H3 w3 _=>?_
  simp(disch:=omega) only[go_sem]
  refine zn (yu nm (by simp only[Lim];omega)) w3 (by omega) (by omega) (by omega) fun o4 l4 H4 w4 _=>?_
  simp(disch:=omega) only[go_sem]
  refine zn (yP false dirs hwd (by simp only[Lim];omega)) w4 (by omega) (by omega) (by omega) fun o5 l5 H5 w5 _=>?_
  simp(disch:=omega) only[go_sem]
  exact hQ _ _ H5 H5 [] nofun rfl (Low.refl _) ⟨rfl,w5.fin (by show _=yv dp _;rw[er,hbv];simp) (fun e=>by have e:yv dp (.mk 1 al nm args dirs on sels)=true:=e;rw[et (by rw[er] at e;simp only[Al0] at e;exact e.1.1)];simp) (by simp only[bS];omega)⟩
 by_cases h4:sels.length=0
 case neg =>
  have hbv:b=false:=by rw[hbd];simp[h4]
  have h4':¬ ((sels.length:Int)=0):=by omega
  simp(disch:=omega) only[ir243,Zb,h1,hcm,h2',h3,hcs,h4',go_sem]
  refine zn (ZH _) w0 (by omega) (by omega) (by omega) fun o2 l2 H2 w2 _=>?_
  simp(disch:=omega) only[go_sem]
  refine zn (yD [46,46,46] _) w2 (by omega) (by omega) (by omega) fun o3 l3 H3 w3 _=>?_
  simp(disch:=omega) only[go_sem]
  refine zn (yu nm (by simp only[Lim];omega)) w3 (by omega) (by omega) (by omega) fun o4 l4 H4 w4 _=>?_
  simp(disch:=omega) only[go_sem]
  refine zn (yP false dirs hwd (by simp only[Lim];omega)) w4 (by omega) (by omega) (by omega) fun o5 l5 H5 w5 _=>?_
  simp(disch:=omega) only[go_sem]
  exact hQ _ _ H5 H5 [] nofun rfl (Low.refl _) ⟨rfl,w5.fin (by show _=yv dp _;rw[er,hbv];simp) (fun e=>by have e:yv dp (.mk 1 al nm args dirs on sels)=true:=e;rw[et (by rw[er] at e;simp only[Al0] at e;exact e.1.1)];simp) (by simp only[bS];omega)⟩
 have h4':((sels.length:Int)=0)=True:=eq_true (by omega)
 by_cases h5:nm=[111,110]
 case pos =>
  have hbv:b=false:=by rw[hbd];simp[h5]
  simp(disch:=omega) only[ir243,Zb,h1,hcm,h2',h3,hcs,h4',h5,go_sem]
  subst h5
  refine zn (ZH _) w0 (by omega) (by omega) (by omega) fun o2 l2 H2 w2 _=>?_
  simp(disch:=omega) only[go_sem]
  refine zn (yD [46,46,46] _) w2 (by omega) (by omega) (by omega) fun o3 l3 H3 w3 _=>?_
  simp(disch:=omega) only[go_sem]
  refine zn (yu [111,110] (by simp only[Lim];omega)) w3 (by omega) (by omega) (by omega) fun o4 l4 H4 w4 _=>?_
  simp(disch:=omega) only[go_sem]
  refine zn (yP false dirs hwd (by simp only[Lim];omega)) w4 (by omega) (by omega) (by omega) fun o5 l5 H5 w5 _=>?_
  simp(disch:=omega) only[go_sem]
  exact hQ _ _ H5 H5 [] nofun rfl (Low.refl _) ⟨rfl,w5.fin (by show _=yv dp _;rw[er,hbv];simp) (fun e=>by have e:yv dp (.mk 1 al [111,110] args dirs on sels)=true:=e;rw[et (by rw[er] at e;simp only[Al0] at e;exact e.1.1)];simp) (by simp only[bS];omega)⟩
 have hbv:b=true:=by rw[hbd];simp[h1,h2,h3,h4,h5]
 simp(disch:=omega) only[ir243,Zb,h1,hcm,h2',h3,hcs,h4',h5,go_sem]
 refine zn (ZH _) w0 (by omega) (by omega) (by omega) fun o2 l2 H2 w2 _=>?_
 simp(disch:=omega) only[go_sem]
 refine zn (yD [46,46,46] _) w2 (by omega) (by omega) (by omega) fun o3 l3 H3 w3 _=>?_
 simp(disch:=omega) only[go_sem]
 refine zn (yu nm (by simp only[Lim];omega)) w3 (by omega) (by omega) (by omega) fun o4 l4 H4 w4 _=>?_
 simp(disch:=omega) only[go_sem]
 refine zn (yP false dirs hwd (by simp only[Lim];omega)) w4 (by omega) (by omega) (by omega) fun o5 l5 H5 w5 _=>?_
 simp(disch:=omega) only[go_sem]
 exact hQ _ _ H5 H5 [] nofun rfl (Low.refl _) ⟨rfl,w5.fin (by show _=yv dp _;rw[er,hbv];simp) (fun e=>by have e:yv dp (.mk 1 al nm args dirs on sels)=true:=e;rw[et (by rw[er] at e;simp only[Al0] at e;exact e.1.1)];simp) (by simp only[bS];omega)⟩
theorem zjt:zP [111,110]=true:=by decide
theorem zo6 {c:Nat} (hL:zoU c) (k:Int) (al nm:List UInt8) (args:List Mem) (dirs:List DirD) (on:List UInt8) (sels:List SelD) (hk:k=2) (hc:bSs sels≤c) (hw:wfS (.mk k al nm args dirs on sels)) (hm:16*bS (.mk k al nm args dirs on sels)≤Lim) :
  WC 244 [.agg (cS (.mk k al nm args dirs on sels))] (16*bS (.mk k al nm args dirs on sels)) 0 16 (fun dp=>yv dp (.mk k al nm args dirs on sels)) (tS (.mk k al nm args dirs on sels)):=by
 intro H w o l ok dp h h0 h1 hb
 have hm':=hm
 simp only[Lim,bS] at hm'
 simp only[bS] at hb
 have hcm:=Za args
 obtain⟨_,hwd,hws⟩:=hw
 subst hk
 refine zj.go ir244 ck244 (Al4 _) fun KP Q hQ=>?_
 have w0:=WR.refl h
 obtain⟨b,hbd⟩:∃ b,b=(decide (nm=[])&&(decide (al=[])&&decide (args.length=0))):=⟨_,rfl⟩
 have er:yv dp (.mk 2 al nm args dirs on sels)=(b&&(decide (on=[])||zP on)&&Zf dp false dirs&&yp (dp+1) sels):=by
  rw[hbd];simp only[yv,yp,show ¬ ((2:Int)=0) by decide,show ¬ ((2:Int)=1) by decide,if_false,if_true]
  cases Zf dp false dirs<;>simp[yg]
 have et:b=true∧yp (dp+1) sels=true→tS (.mk 2 al nm args dirs on sels)=pk [46,46,46]::((if on=[] then [] else [wk [111,110],wk on])++(tDs dirs++tBl sels)):=fun⟨e,e2⟩=>by
  simp only[yp,Al0,yX] at e2
  simp[tS,e2.1,tBl]
 by_cases h1:al=[]
 case neg =>
  have hbv:b=false:=by rw[hbd];simp[h1]
  simp(disch:=omega) only[ir244,Zb,h1,go_sem]
  refine zn (ZH _) w0 (by omega) (by omega) (by omega) fun o2 l2 H2 w2 _=>?_
  simp(disch:=omega) only[go_sem]
  refine zn (yD [46,46,46] _) w2 (by omega) (by omega) (by omega) fun o3 l3 H3 w3 _=>?_
  by_cases ho:on=[]
  case pos =>
   simp(disch:=omega) only[ho,go_sem]
   refine zn (yP false dirs hwd (by simp only[Lim];omega)) w3 (by omega) (by omega) (by omega) fun o5 l5 H5 w5 _=>?_
   simp(disch:=omega) only[go_sem]
   refine zn (yL hL sels hc hws (by simp only[Lim];omega)) w5 (by omega) (by omega) (by omega) fun o6 l6 H6 w6 _=>?_
   simp(disch:=omega) only[go_sem]
   exact hQ _ _ H6 H6 [] nofun rfl (Low.refl _) ⟨rfl,w6.fin (by show _=yv dp _;rw[er,hbv,ho];simp[yg]) (fun e=>by have e:yv dp (.mk 2 al nm args dirs on sels)=true:=e;rw[et (by rw[er] at e;simp only[Al0] at e;exact⟨e.1.1.1,e.2⟩),if_pos ho];simp) (by simp only[bS];omega)⟩
  case neg =>
   simp(disch:=omega) only[ho,go_sem]
   refine zn (yu [111,110] (by simp[Lim])) w3 (by omega) (by omega) (by omega) fun o4 l4 H4 w4 _=>?_
   simp(disch:=omega) only[go_sem]
   refine zn (yu on (by simp only[Lim];omega)) w4 (by omega) (by omega) (by omega) fun o5 l5 H5 w5 _=>?_
   simp(disch:=omega) only[go_sem]
   refine zn (yP false dirs hwd (by simp only[Lim];omega)) w5 (by omega) (by omega) (by omega) fun o6 l6 H6 w6 _=>?_
   simp(disch:=omega) only[go_sem]
   refine zn (yL hL sels hc hws (by simp only[Lim];omega)) w6 (by omega) (by omega) (by omega) fun o7 l7 H7 w7 _=>?_
   simp(disch:=omega) only[go_sem]
   exact hQ _ _ H7 H7 [] nofun rfl (Low.refl _) ⟨rfl,w7.fin (by show _=yv dp _;rw[er,hbv,zjt];simp[ho,yg]) (fun e=>by have e:yv dp (.mk 2 al nm args dirs on sels)=true:=e;rw[et (by rw[er] at e;simp only[Al0] at e;exact⟨e.1.1.1,e.2⟩),if_neg ho];simp) (by simp only[bS];omega)⟩
 by_cases h2:nm=[]
 case neg =>
  have hbv:b=false:=by rw[hbd];simp[h2]
  simp(disch:=omega) only[ir244,Zb,h1,h2,go_sem]
  refine zn (ZH _) w0 (by omega) (by omega) (by omega) fun o2 l2 H2 w2 _=>?_
  simp(disch:=omega) only[go_sem]
  refine zn (yD [46,46,46] _) w2 (by omega) (by omega) (by omega) fun o3 l3 H3 w3 _=>?_
  by_cases ho:on=[]
  case pos =>
   simp(disch:=omega) only[ho,go_sem]
   refine zn (yP false dirs hwd (by simp only[Lim];omega)) w3 (by omega) (by omega) (by omega) fun o5 l5 H5 w5 _=>?_
   simp(disch:=omega) only[go_sem]
   refine zn (yL hL sels hc hws (by simp only[Lim];omega)) w5 (by omega) (by omega) (by omega) fun o6 l6 H6 w6 _=>?_
   simp(disch:=omega) only[go_sem]
   exact hQ _ _ H6 H6 [] nofun rfl (Low.refl _) ⟨rfl,w6.fin (by show _=yv dp _;rw[er,hbv,ho];simp[yg]) (fun e=>by have e:yv dp (.mk 2 al nm args dirs on sels)=true:=e;rw[et (by rw[er] at e;simp only[Al0] at e;exact⟨e.1.1.1,e.2⟩),if_pos ho];simp) (by simp only[bS];omega)⟩
  case neg =>
   simp(disch:=omega) only[ho,go_sem]
   refine zn (yu [111,110] (by simp[Lim])) w3 (by omega) (by omega) (by omega) fun o4 l4 H4 w4 _=>?_
   simp(disch:=omega) only[go_sem]
   refine zn (yu on (by simp only[Lim];omega)) w4 (by omega) (by omega) (by omega) fun o5 l5 H5 w5 _=>?_
   simp(disch:=omega) only[go_sem]
   refine zn (yP false dirs hwd (by simp only[Lim];omega)) w5 (by omega) (by omega) (by omega) fun o6 l6 H6 w6 _=>?_
   simp(disch:=omega) only[go_sem]
   refine zn (yL hL sels hc hws (by simp only[Lim];omega)) w6 (by omega) (by omega) (by omega) fun o7 l7 H7 w7 _=>?_
   simp(disch:=omega) only[go_sem]
   exact hQ _ _ H7 H7 [] nofun rfl (Low.refl _) ⟨rfl,w7.fin (by show _=yv dp _;rw[er,hbv,zjt];simp[ho,yg]) (fun e=>by have e:yv dp (.mk 2 al nm args dirs on sels)=true:=e;rw[et (by rw[er] at e;simp only[Al0] at e;exact⟨e.1.1.1,e.2⟩),if_neg ho];simp) (by simp only[bS];omega)⟩
 by_cases h3:args.length=0
 case neg =>
  have hbv:b=false:=by rw[hbd];simp[h3]
  have h3':¬ ((args.length:Int)=0):=by omega
  simp(disch:=omega) only[ir244,Zb,h1,h2,hcm,h3',go_sem]
  refine zn (ZH _) w0 (by omega) (by omega) (by omega) fun o2 l2 H2 w2 _=>?_
  simp(disch:=omega) only[go_sem]
  refine zn (yD [46,46,46] _) w2 (by omega) (by omega) (by omega) fun o3 l3 H3 w3 _=>?_
  by_cases ho:on=[]
  case pos =>
   simp(disch:=omega) only[ho,go_sem]
   refine zn (yP false dirs hwd (by simp only[Lim];omega)) w3 (by omega) (by omega) (by omega) fun o5 l5 H5 w5 _=>?_
   simp(disch:=omega) only[go_sem]
   refine zn (yL hL sels hc hws (by simp only[Lim];omega)) w5 (by omega) (by omega) (by omega) fun o6 l6 H6 w6 _=>?_
   simp(disch:=omega) only[go_sem]
   exact hQ _ _ H6 H6 [] nofun rfl (Low.refl _) ⟨rfl,w6.fin (by show _=yv dp _;rw[er,hbv,ho];simp[yg]) (fun e=>by have e:yv dp (.mk 2 al nm args dirs on sels)=true:=e;rw[et (by rw[er] at e;simp only[Al0] at e;exact⟨e.1.1.1,e.2⟩),if_pos ho];simp) (by simp only[bS];omega)⟩
  case neg =>
   simp(disch:=omega) only[ho,go_sem]
   refine zn (yu [111,110] (by simp[Lim])) w3 (by omega) (by omega) (by omega) fun o4 l4 H4 w4 _=>?_
   simp(disch:=omega) only[go_sem]
   refine zn (yu on (by simp only[Lim];omega)) w4 (by omega) (by omega) (by omega) fun o5 l5 H5 w5 _=>?_
   simp(disch:=omega) only[go_sem]
   refine zn (yP false dirs hwd (by simp only[Lim];omega)) w5 (by omega) (by omega) (by omega) fun o6 l6 H6 w6 _=>?_
   simp(disch:=omega) only[go_sem]
   refine zn (yL hL sels hc hws (by simp only[Lim];omega)) w6 (by omega) (by omega) (by omega) fun o7 l7 H7 w7 _=>?_
   simp(disch:=omega) only[go_sem]
   exact hQ _ _ H7 H7 [] nofun rfl (Low.refl _) ⟨rfl,w7.fin (by show _=yv dp _;rw[er,hbv,zjt];simp[ho,yg]) (fun e=>by have e:yv dp (.mk 2 al nm args dirs on sels)=true:=e;rw[et (by rw[er] at e;simp only[Al0] at e;exact⟨e.1.1.1,e.2⟩),if_neg ho];simp) (by simp only[bS];omega)⟩
 have h3':((args.length:Int)=0)=True:=eq_true (by omega)
 have hbv:b=true:=by rw[hbd];simp[h1,h2,h3]
 simp(disch:=omega) only[ir244,Zb,h1,h2,hcm,h3',go_sem]
 refine zn (ZH _) w0 (by omega) (by omega) (by omega) fun o2 l2 H2 w2 _=>?_
 simp(disch:=omega) only[go_sem]
 refine zn (yD [46,46,46] _) w2 (by omega) (by omega) (by omega) fun o3 l3 H3 w3 _=>?_
 by_cases ho:on=[]
 case pos =>
  simp(disch:=omega) only[ho,go_sem]
  refine zn (yP false dirs hwd (by simp only[Lim];omega)) w3 (by omega) (by omega) (by omega) fun o5 l5 H5 w5 _=>?_
  simp(disch:=omega) only[go_sem]
  refine zn (yL hL sels hc hws (by simp only[Lim];omega)) w5 (by omega) (by omega) (by omega) fun o6 l6 H6 w6 _=>?_
  simp(disch:=omega) only[go_sem]
  exact hQ _ _ H6 H6 [] nofun rfl (Low.refl _) ⟨rfl,w6.fin (by show _=yv dp _;rw[er,hbv,ho];simp[yg]) (fun e=>by have e:yv dp (.mk 2 al nm args dirs on sels)=true:=e;rw[et (by rw[er] at e;simp only[Al0] at e;exact⟨e.1.1.1,e.2⟩),if_pos ho];simp) (by simp only[bS];omega)⟩
 case neg =>
  simp(disch:=omega) only[ho,go_sem]
  refine zn (yu [111,110] (by simp[Lim])) w3 (by omega) (by omega) (by omega) fun o4 l4 H4 w4 _=>?_
  simp(disch:=omega) only[go_sem]
  refine zn (yu on (by simp only[Lim];omega)) w4 (by omega) (by omega) (by omega) fun o5 l5 H5 w5 _=>?_
  simp(disch:=omega) only[go_sem]
  refine zn (yP false dirs hwd (by simp only[Lim];omega)) w5 (by omega) (by omega) (by omega) fun o6 l6 H6 w6 _=>?_
  simp(disch:=omega) only[go_sem]
  refine zn (yL hL sels hc hws (by simp only[Lim];omega)) w6 (by omega) (by omega) (by omega) fun o7 l7 H7 w7 _=>?_
  simp(disch:=omega) only[go_sem]
  exact hQ _ _ H7 H7 [] nofun rfl (Low.refl _) ⟨rfl,w7.fin (by show _=yv dp _;rw[er,hbv,zjt];simp[ho,yg]) (fun e=>by have e:yv dp (.mk 2 al nm args dirs on sels)=true:=e;rw[et (by rw[er] at e;simp only[Al0] at e;exact⟨e.1.1.1,e.2⟩),if_neg ho];simp) (by simp only[bS];omega)⟩
theorem zD (dp:Int) (l:List SelD) (x:SelD):Zl dp (l++[x])=(Zl dp l&&yv dp x):=by rw[zcI];simp[Zl]
theorem ZO (l:List SelD) (x:SelD):tSl (l++[x])=tSl l++tS x:=by rw[zmf];simp[tSl]
theorem ZL (l:List SelD) (x:SelD):bSs (l++[x])=bSs l+bS x:=by rw[zbn];simp[bSs]
theorem zj5 {dp:Int} {l a b:List SelD} {x:SelD} (h:l=a++x::b) (hr:Zl dp a=false):Zl dp l=false:=by
 rw[h,zcI,hr];rfl
theorem WR.castC {H0 H:zc} {o0 o:Own} {w B B':Nat} {l0 l tk tk':List Tok} {ok0 r r':Bool} {dp:Int} (h:WR H0 o0 w l0 ok0 dp B r tk H o l) (hB:B≤B') (hr:r=r') (ht:r'=true→tk=tk'):WR H0 o0 w l0 ok0 dp B' r' tk' H o l:=by
 subst hr
 refine⟨h.here,h.st,by have:=h.len;omega,fun e=>?_⟩
 rw[h.eq e,ht (by simp only[Al0] at e;exact e.2)]
set_option maxHeartbeats 4000000 in
theorem zac:∀ c,zoU c:=by
 intro c
 induction c using Nat.strongRecOn with
 | _ c ih =>
 intro L hc hwL hm H w o l ok dp h h0 h1 hb
 have hm':=hm
 simp only[Lim] at hm'
 have hcs:=YS L
 have hLl:=YT L
 refine zj.go ir224 ck224 (Al4 _) fun KP Q hQ=>?_
 have w0:=WR.refl h
 have hcell:=h.cell
 by_cases hl0:L.length=0
 ·have hl':¬ ((0:Int)<(L.length:Int)):=by omega
  have hneed:false=yp dp L:=by simp[yp,hl0]
  simp(disch:=omega) only[ir224,hcs,hl',go_sem]
  refine zn (ZH _) w0 (by omega) (by omega) (by omega) fun o2 l2 H2 w2 _=>?_
  have hf:(ok&&yp dp L)=false:=by rw[← hneed];simp
  simp(disch:=omega) only[hcs,go_sem]
  refine zf L 20 (fun x:Unit=>[]) (fun done rest x H'=>H'=H2) () (by simp(disch:=omega) only[go_sem]) rfl ?_ ?_
  case refine_1 =>
   rintro _ H3 J rfl hlt
   simp(disch:=omega) only[hcs,hlt,go_sem]
   exact hQ _ _ H3 H3 [] nofun rfl (Low.refl _) ⟨rfl,w2.fin (by show _=yp dp L;rw[← hneed];simp) (fun e=>by have e:yp dp L=true:=e;rw[← hneed] at e;cases e) (by omega)⟩
  case refine_2 =>
   rintro done x rest _ H3 J hd hlt hlt2 rfl hJ
   have hg:=zao hd
   obtain⟨k,al,nm,args,dirs,on,sels⟩:=x
   rw[Zb] at hg
   simp(disch:=omega) only[hcs,hlt,hg,go_sem]
   refine zb fun b hb=>?_
   have w5:=w2.alloc (x:=.cells [.int .i64 k,.str al,.str nm,.sl .no 6 (cMs args),.sl .no 2 (cDs dirs),.str on,.sl .no 7 (cSs sels)]) hb
   have hc5:=w5.here.cell
   simp only[Bool.true_and,Bool.and_false] at hc5
   simp(disch:=omega) only[hc5,go_sem]
   exact hQ _ _ _ _ [] nofun rfl (Low.refl _) ⟨rfl,w5.fin (by show _=yp dp L;rw[← hneed];simp) (fun e=>by have e:yp dp L=true:=e;rw[← hneed] at e;cases e) (by omega)⟩
 have hl':((0:Int)<(L.length:Int))=True:=eq_true (by omega)
 by_cases hdp:dp≤16
 case neg =>
  have hneed:false=yp dp L:=by simp[yp,hdp]
  simp(disch:=omega) only[ir224,hcs,hl',hcell,hdp,go_sem]
  refine zn (ZH _) w0 (by omega) (by omega) (by omega) fun o2 l2 H2 w2 _=>?_
  have hf:(ok&&yp dp L)=false:=by rw[← hneed];simp
  simp(disch:=omega) only[hcs,go_sem]
  refine zf L 20 (fun x:Unit=>[]) (fun done rest x H'=>H'=H2) () (by simp(disch:=omega) only[go_sem]) rfl ?_ ?_
  case refine_1 =>
   rintro _ H3 J rfl hlt
   simp(disch:=omega) only[hcs,hlt,go_sem]
   exact hQ _ _ H3 H3 [] nofun rfl (Low.refl _) ⟨rfl,w2.fin (by show _=yp dp L;rw[← hneed];simp) (fun e=>by have e:yp dp L=true:=e;rw[← hneed] at e;cases e) (by omega)⟩
  case refine_2 =>
   rintro done x rest _ H3 J hd hlt hlt2 rfl hJ
   have hg:=zao hd
   obtain⟨k,al,nm,args,dirs,on,sels⟩:=x
   rw[Zb] at hg
   simp(disch:=omega) only[hcs,hlt,hg,go_sem]
   refine zb fun b hb=>?_
   have w5:=w2.alloc (x:=.cells [.int .i64 k,.str al,.str nm,.sl .no 6 (cMs args),.sl .no 2 (cDs dirs),.str on,.sl .no 7 (cSs sels)]) hb
   have hc5:=w5.here.cell
   simp only[Bool.true_and,Bool.and_false] at hc5
   simp(disch:=omega) only[hc5,go_sem]
   exact hQ _ _ _ _ [] nofun rfl (Low.refl _) ⟨rfl,w5.fin (by show _=yp dp L;rw[← hneed];simp) (fun e=>by have e:yp dp L=true:=e;rw[← hneed] at e;cases e) (by omega)⟩
 have er0:yp dp L=Zl dp L:=by simp[yp,hdp,hl0]
 simp(disch:=omega) only[ir224,hcs,hl',hcell,hdp,go_sem]
 refine zn (ZH _) w0 (by omega) (by omega) (by omega) fun o2 l2 H2 w2 _=>?_
 simp(disch:=omega) only[hcs,go_sem]
 refine zf L 20 (fun x:Own×List Tok=>[]) (fun done rest x H'=>WR H o w l ok dp (16*bSs done) (Zl dp done) (tSl done) H' x.1 x.2) (o2,l2) (by simp(disch:=omega) only[go_sem]) (w2.cast (by simp[bSs]) (by simp[Zl]) (by simp[tSl])) ?_ ?_
 ·rintro⟨o3,l3⟩ H3 J w3 hlt
  simp only at w3
  simp(disch:=omega) only[hcs,hlt,go_sem]
  exact hQ _ _ H3 H3 [] nofun rfl (Low.refl _) ⟨rfl,w3.fin er0.symm (fun _=>rfl) (by omega)⟩
 ·rintro done x rest ⟨o3,l3⟩ H3 J hd hlt hlt2 w3 hJ
  simp only at w3
  have hg:=zao hd
  have hbm:=zbn done x rest
  rw[← hd] at hbm
  have hmem:x∈L:=by rw[hd];simp
  have hwx:=zkD hwL x hmem
  obtain⟨k,al,nm,args,dirs,on,sels⟩:=x
  have hbx:bS (.mk k al nm args dirs on sels)=1+al.length+nm.length+on.length+bMs args+bDs dirs+bSs sels:=rfl
  have hcss:=YS sels
  rw[Zb] at hg
  simp(disch:=omega) only[hcs,hlt,hg,go_sem]
  refine zb fun b hb=>?_
  have hbw:b≠w:=fun e=>by subst e;rw[w3.here.cell] at hb;cases hb
  have w5:=w3.alloc (x:=.cells [.int .i64 k,.str al,.str nm,.sl .no 6 (cMs args),.sl .no 2 (cDs dirs),.str on,.sl .no 7 (cSs sels)]) hb
  have hbc:(H3.upd b (.cells [.int .i64 k,.str al,.str nm,.sl .no 6 (cMs args),.sl .no 2 (cDs dirs),.str on,.sl .no 7 (cSs sels)])) b=some (.cells [.int .i64 k,.str al,.str nm,.sl .no 6 (cMs args),.sl .no 2 (cDs dirs),.str on,.sl .no 7 (cSs sels)]):=upd_same ..
  have hc5:=w5.here.cell
  cases hok:ok&&Zl dp done with
  | false =>
   rw[hok] at hc5
   have hf:(ok&&yp dp L)=false:=by
    cases ok
    ·rfl
    ·rw[Bool.true_and] at hok ⊢;rw[er0];exact zj5 hd hok
   simp(disch:=omega) only[hc5,go_sem]
   refine hQ _ _ _ _ [] nofun rfl (Low.refl _) ⟨rfl,o3,l3,?_,w5.st,by have:=w5.len;omega,fun e=>?_⟩
   ·show WAt _ w o3 l3 (ok&&yp dp L) dp
    rw[hf,← hok];exact w5.here
   ·have e:(ok&&yp dp L)=true:=e
    rw[hf] at e;cases e
  | true =>
   rw[hok] at hc5
   have hstep:∀(o6:Own) (l6:List Tok) (H6:zc),WR H o w l ok dp (16*bSs done+16*bS (.mk k al nm args dirs on sels)) (Zl dp done&&yv dp (.mk k al nm args dirs on sels)) (tSl done++tS (.mk k al nm args dirs on sels)) H6 o6 l6→J ((zaj _ [(20,.int .i64 ((done.length:Int)+1))]).keep [0,18,19,20]) H6:=fun o6 l6 H6 w6 =>
    hJ (o6,l6) H6 (w6.cast (by rw[ZL];omega) (zD ..).symm (ZO ..).symm)
   by_cases k1:k=1
   ·have hsp:=zoy k al nm args dirs on sels k1 hwx (by simp only[Lim];omega)
    rw[Zb] at hsp
    subst k1
    simp(disch:=omega) only[hc5,hbc,go_sem]
    refine zn hsp w5 (by omega) (by omega) (by omega) fun o6 l6 H6 w6 s6=>?_
    simp(disch:=omega) only[wrap64,go_sem]
    exact goJ (hstep o6 l6 H6 w6) (by simp(disch:=omega) only[go_sem])
   by_cases k2:k=2
   ·have hsp:=zo6 (c:=bSs sels) (ih (bSs sels) (by omega)) k al nm args dirs on sels k2 (Al4 _) hwx (by simp only[Lim];omega)
    rw[Zb] at hsp
    subst k2
    simp(disch:=omega) only[hc5,hbc,go_sem]
    refine zn hsp w5 (by omega) (by omega) (by omega) fun o6 l6 H6 w6 s6=>?_
    simp(disch:=omega) only[wrap64,go_sem]
    exact goJ (hstep o6 l6 H6 w6) (by simp(disch:=omega) only[go_sem])
   have hLB:=ih (bSs sels) (by omega)
   obtain⟨hwa,hwd,hws⟩:=hwx
   obtain⟨n,hnd⟩:∃ n,n=(decide (k=0)&&decide (on=[])):=⟨_,rfl⟩
   have er:yv dp (.mk k al nm args dirs on sels)=(n&&(decide (al=[])||zP al)&&zP nm&&Y3 dp false args&&Zf dp false dirs&&(decide (sels.length=0)||yp (dp+1) sels)):=by
    rw[hnd];simp only[yv,k1,k2,if_false]
    by_cases k0:k=0
    ·simp only[k0,if_true,yp]
     by_cases hz:sels.length=0
     ·simp only[hz,decide_true,Bool.true_or]
      cases Zf dp false dirs<;>cases zP nm<;>cases Y3 dp false args<;>simp[Bool.and_comm]
     ·simp only[hz,decide_false,Bool.false_or,ne_eq,not_false_eq_true,decide_true,Bool.true_and]
      cases Zf dp false dirs<;>cases zP nm<;>cases Y3 dp false args<;>simp[Bool.and_comm,yg,Bool.and_left_comm]
    ·simp[k0]
   have et:n=true→tS (.mk k al nm args dirs on sels)=(if al=[] then [] else [wk al,pk [58]])++(wk nm::zgD args)++(tDs dirs++(if sels.length=0 then [] else tBl sels)):=fun e=>by
    rw[hnd] at e;simp only[Al0,yX] at e
    simp only[tS,e.1,if_true,tBl]
   by_cases k0:k=0
   case neg =>
    have hbv:n=false:=by rw[hnd];simp[k0]
    simp(disch:=omega) only[hc5,hbc,k1,k2,k0,go_sem]
    refine zn (ZH _) w5 (by omega) (by omega) (by omega) fun o6 l6 H6 w6 s6=>?_
    have hb6:=s6.box w5.here.own hbc hbw
    by_cases hal:al=[]
    case pos =>
     simp(disch:=omega) only[hb6,hal,go_sem]
     refine zn (yu nm (by simp only[Lim];omega)) w6 (by omega) (by omega) (by omega) fun o9 l9 H9 w9 s9=>?_
     have hb9:=s9.box w6.here.own hb6 hbw
     simp(disch:=omega) only[hb9,go_sem]
     refine zn (zd6 false args hwa (by simp only[Lim];omega)) w9 (by omega) (by omega) (by omega) fun oY lY HY wY sY=>?_
     have hbY:=sY.box w9.here.own hb9 hbw
     simp(disch:=omega) only[hbY,go_sem]
     refine zn (yP false dirs hwd (by simp only[Lim];omega)) wY (by omega) (by omega) (by omega) fun oZ lZ HZ wZ sZ=>?_
     have hbZ:=sZ.box wY.here.own hbY hbw
     simp(disch:=omega) only[hbZ,go_sem]
     by_cases hz:sels.length=0
     case pos =>
      have hz':¬ ((0:Int)<(sels.length:Int)):=by omega
      simp(disch:=omega) only[hcss,hz',wrap64,go_sem]
      exact goJ (hJ (oZ,lZ) HZ (wZ.castC (by rw[ZL];simp only[bS];omega) (by rw[zD,er,hbv];simp[hz,hal,yg]) (fun e=>by rw[ZO,et (by rw[zD,er] at e;simp only[Al0] at e;exact e.2.1.1.1.1.1)];simp[hz,hal]))) (by simp(disch:=omega) only[go_sem])
     case neg =>
      have hz':((0:Int)<(sels.length:Int))=True:=eq_true (by omega)
      have hbox:=sZ.box wY.here.own hbY hbw
      simp(disch:=omega) only[hcss,hz',hbox,go_sem]
      refine zn (yL hLB sels (Al4 _) hws (by simp only[Lim];omega)) wZ (by omega) (by omega) (by omega) fun oU lU HU wU _=>?_
      simp(disch:=omega) only[wrap64,go_sem]
      exact goJ (hJ (oU,lU) HU (wU.castC (by rw[ZL];simp only[bS];omega) (by rw[zD,er,hbv];simp[hz,hal,yg]) (fun e=>by rw[ZO,et (by rw[zD,er] at e;simp only[Al0] at e;exact e.2.1.1.1.1.1)];simp[hz,hal,tBl]))) (by simp(disch:=omega) only[go_sem])
    case neg =>
     simp(disch:=omega) only[hb6,hal,go_sem]
     refine zn (yu al (by simp only[Lim];omega)) w6 (by omega) (by omega) (by omega) fun o7 l7 H7 w7 s7=>?_
     have hb7:=s7.box w6.here.own hb6 hbw
     simp(disch:=omega) only[hb7,go_sem]
     refine zn (yD [58] _) w7 (by omega) (by omega) (by omega) fun o8 l8 H8 w8 s8=>?_
     have hb8:=s8.box w7.here.own hb7 hbw
     simp(disch:=omega) only[hb8,go_sem]
     refine zn (yu nm (by simp only[Lim];omega)) w8 (by omega) (by omega) (by omega) fun o9 l9 H9 w9 s9=>?_
     have hb9:=s9.box w8.here.own hb8 hbw
     simp(disch:=omega) only[hb9,go_sem]
     refine zn (zd6 false args hwa (by simp only[Lim];omega)) w9 (by omega) (by omega) (by omega) fun oY lY HY wY sY=>?_
     have hbY:=sY.box w9.here.own hb9 hbw
     simp(disch:=omega) only[hbY,go_sem]
     refine zn (yP false dirs hwd (by simp only[Lim];omega)) wY (by omega) (by omega) (by omega) fun oZ lZ HZ wZ sZ=>?_
     have hbZ:=sZ.box wY.here.own hbY hbw
     simp(disch:=omega) only[hbZ,go_sem]
     by_cases hz:sels.length=0
     case pos =>
      have hz':¬ ((0:Int)<(sels.length:Int)):=by omega
      simp(disch:=omega) only[hcss,hz',wrap64,go_sem]
      exact goJ (hJ (oZ,lZ) HZ (wZ.castC (by rw[ZL];simp only[bS];omega) (by rw[zD,er,hbv];simp[hz,hal,yg]) (fun e=>by rw[ZO,et (by rw[zD,er] at e;simp only[Al0] at e;exact e.2.1.1.1.1.1)];simp[hz,hal]))) (by simp(disch:=omega) only[go_sem])
     case neg =>
      have hz':((0:Int)<(sels.length:Int))=True:=eq_true (by omega)
      have hbox:=sZ.box wY.here.own hbY hbw
      simp(disch:=omega) only[hcss,hz',hbox,go_sem]
      refine zn (yL hLB sels (Al4 _) hws (by simp only[Lim];omega)) wZ (by omega) (by omega) (by omega) fun oU lU HU wU _=>?_
      simp(disch:=omega) only[wrap64,go_sem]
      exact goJ (hJ (oU,lU) HU (wU.castC (by rw[ZL];simp only[bS];omega) (by rw[zD,er,hbv];simp[hz,hal,yg]) (fun e=>by rw[ZO,et (by rw[zD,er] at e;simp only[Al0] at e;exact e.2.1.1.1.1.1)];simp[hz,hal,tBl]))) (by simp(disch:=omega) only[go_sem])
   subst k0
   by_cases ho:on=[]
   case neg =>
    have hbv:n=false:=by rw[hnd];simp[ho]
    simp(disch:=omega) only[hc5,hbc,ho,go_sem]
    refine zn (ZH _) w5 (by omega) (by omega) (by omega) fun o6 l6 H6 w6 s6=>?_
    have hb6:=s6.box w5.here.own hbc hbw
    by_cases hal:al=[]
    case pos =>
     simp(disch:=omega) only[hb6,hal,go_sem]
     refine zn (yu nm (by simp only[Lim];omega)) w6 (by omega) (by omega) (by omega) fun o9 l9 H9 w9 s9=>?_
     have hb9:=s9.box w6.here.own hb6 hbw
     simp(disch:=omega) only[hb9,go_sem]
     refine zn (zd6 false args hwa (by simp only[Lim];omega)) w9 (by omega) (by omega) (by omega) fun oY lY HY wY sY=>?_
     have hbY:=sY.box w9.here.own hb9 hbw
     simp(disch:=omega) only[hbY,go_sem]
     refine zn (yP false dirs hwd (by simp only[Lim];omega)) wY (by omega) (by omega) (by omega) fun oZ lZ HZ wZ sZ=>?_
     have hbZ:=sZ.box wY.here.own hbY hbw
     simp(disch:=omega) only[hbZ,go_sem]
     by_cases hz:sels.length=0
     case pos =>
      have hz':¬ ((0:Int)<(sels.length:Int)):=by omega
      simp(disch:=omega) only[hcss,hz',wrap64,go_sem]
      exact goJ (hJ (oZ,lZ) HZ (wZ.castC (by rw[ZL];simp only[bS];omega) (by rw[zD,er,hbv];simp[hz,hal,yg]) (fun e=>by rw[ZO,et (by rw[zD,er] at e;simp only[Al0] at e;exact e.2.1.1.1.1.1)];simp[hz,hal]))) (by simp(disch:=omega) only[go_sem])
     case neg =>
      have hz':((0:Int)<(sels.length:Int))=True:=eq_true (by omega)
      have hbox:=sZ.box wY.here.own hbY hbw
      simp(disch:=omega) only[hcss,hz',hbox,go_sem]
      refine zn (yL hLB sels (Al4 _) hws (by simp only[Lim];omega)) wZ (by omega) (by omega) (by omega) fun oU lU HU wU _=>?_
      simp(disch:=omega) only[wrap64,go_sem]
      exact goJ (hJ (oU,lU) HU (wU.castC (by rw[ZL];simp only[bS];omega) (by rw[zD,er,hbv];simp[hz,hal,yg]) (fun e=>by rw[ZO,et (by rw[zD,er] at e;simp only[Al0] at e;exact e.2.1.1.1.1.1)];simp[hz,hal,tBl]))) (by simp(disch:=omega) only[go_sem])
    case neg =>
     simp(disch:=omega) only[hb6,hal,go_sem]
     refine zn (yu al (by simp only[Lim];omega)) w6 (by omega) (by omega) (by omega) fun o7 l7 H7 w7 s7=>?_
     have hb7:=s7.box w6.here.own hb6 hbw
     simp(disch:=omega) only[hb7,go_sem]
     refine zn (yD [58] _) w7 (by omega) (by omega) (by omega) fun o8 l8 H8 w8 s8=>?_
     have hb8:=s8.box w7.here.own hb7 hbw
     simp(disch:=omega) only[hb8,go_sem]
     refine zn (yu nm (by simp only[Lim];omega)) w8 (by omega) (by omega) (by omega) fun o9 l9 H9 w9 s9=>?_
     have hb9:=s9.box w8.here.own hb8 hbw
     simp(disch:=omega) only[hb9,go_sem]
     refine zn (zd6 false args hwa (by simp only[Lim];omega)) w9 (by omega) (by omega) (by omega) fun oY lY HY wY sY=>?_
     have hbY:=sY.box w9.here.own hb9 hbw
     simp(disch:=omega) only[hbY,go_sem]
     refine zn (yP false dirs hwd (by simp only[Lim];omega)) wY (by omega) (by omega) (by omega) fun oZ lZ HZ wZ sZ=>?_
     have hbZ:=sZ.box wY.here.own hbY hbw
     simp(disch:=omega) only[hbZ,go_sem]
     by_cases hz:sels.length=0
     case pos =>
      have hz':¬ ((0:Int)<(sels.length:Int)):=by omega
      simp(disch:=omega) only[hcss,hz',wrap64,go_sem]
      exact goJ (hJ (oZ,lZ) HZ (wZ.castC (by rw[ZL];simp only[bS];omega) (by rw[zD,er,hbv];simp[hz,hal,yg]) (fun e=>by rw[ZO,et (by rw[zD,er] at e;simp only[Al0] at e;exact e.2.1.1.1.1.1)];simp[hz,hal]))) (by simp(disch:=omega) only[go_sem])
     case neg =>
      have hz':((0:Int)<(sels.length:Int))=True:=eq_true (by omega)
      have hbox:=sZ.box wY.here.own hbY hbw
      simp(disch:=omega) only[hcss,hz',hbox,go_sem]
      refine zn (yL hLB sels (Al4 _) hws (by simp only[Lim];omega)) wZ (by omega) (by omega) (by omega) fun oU lU HU wU _=>?_
      simp(disch:=omega) only[wrap64,go_sem]
      exact goJ (hJ (oU,lU) HU (wU.castC (by rw[ZL];simp only[bS];omega) (by rw[zD,er,hbv];simp[hz,hal,yg]) (fun e=>by rw[ZO,et (by rw[zD,er] at e;simp only[Al0] at e;exact e.2.1.1.1.1.1)];simp[hz,hal,tBl]))) (by simp(disch:=omega) only[go_sem])
   subst ho
   have hbv:n=true:=by rw[hnd];simp
   simp(disch:=omega) only[hc5,hbc,go_sem]
   refine zn (ZH _) w5 (by omega) (by omega) (by omega) fun o6 l6 H6 w6 s6=>?_
   have hb6:=s6.box w5.here.own hbc hbw
   by_cases hal:al=[]
   case pos =>
    simp(disch:=omega) only[hb6,hal,go_sem]
    refine zn (yu nm (by simp only[Lim];omega)) w6 (by omega) (by omega) (by omega) fun o9 l9 H9 w9 s9=>?_
    have hb9:=s9.box w6.here.own hb6 hbw
    simp(disch:=omega) only[hb9,go_sem]
    refine zn (zd6 false args hwa (by simp only[Lim];omega)) w9 (by omega) (by omega) (by omega) fun oY lY HY wY sY=>?_
    have hbY:=sY.box w9.here.own hb9 hbw
    simp(disch:=omega) only[hbY,go_sem]
    refine zn (yP false dirs hwd (by simp only[Lim];omega)) wY (by omega) (by omega) (by omega) fun oZ lZ HZ wZ sZ=>?_
    have hbZ:=sZ.box wY.here.own hbY hbw
    simp(disch:=omega) only[hbZ,go_sem]
    by_cases hz:sels.length=0
    case pos =>
     have hz':¬ ((0:Int)<(sels.length:Int)):=by omega
     simp(disch:=omega) only[hcss,hz',wrap64,go_sem]
     exact goJ (hJ (oZ,lZ) HZ (wZ.castC (by rw[ZL];simp only[bS];omega) (by rw[zD,er,hbv];simp[hz,hal,yg]) (fun e=>by rw[ZO,et (by rw[zD,er] at e;simp only[Al0] at e;exact e.2.1.1.1.1.1)];simp[hz,hal]))) (by simp(disch:=omega) only[go_sem])
    case neg =>
     have hz':((0:Int)<(sels.length:Int))=True:=eq_true (by omega)
     have hbox:=sZ.box wY.here.own hbY hbw
     simp(disch:=omega) only[hcss,hz',hbox,go_sem]
     refine zn (yL hLB sels (Al4 _) hws (by simp only[Lim];omega)) wZ (by omega) (by omega) (by omega) fun oU lU HU wU _=>?_
     simp(disch:=omega) only[wrap64,go_sem]
     exact goJ (hJ (oU,lU) HU (wU.castC (by rw[ZL];simp only[bS];omega) (by rw[zD,er,hbv];simp[hz,hal,yg]) (fun e=>by rw[ZO,et (by rw[zD,er] at e;simp only[Al0] at e;exact e.2.1.1.1.1.1)];simp[hz,hal,tBl]))) (by simp(disch:=omega) only[go_sem])
   case neg =>
    simp(disch:=omega) only[hb6,hal,go_sem]
    refine zn (yu al (by simp only[Lim];omega)) w6 (by omega) (by omega) (by omega) fun o7 l7 H7 w7 s7=>?_
    have hb7:=s7.box w6.here.own hb6 hbw
    simp(disch:=omega) only[hb7,go_sem]
    refine zn (yD [58] _) w7 (by omega) (by omega) (by omega) fun o8 l8 H8 w8 s8=>?_
    have hb8:=s8.box w7.here.own hb7 hbw
    simp(disch:=omega) only[hb8,go_sem]
    refine zn (yu nm (by simp only[Lim];omega)) w8 (by omega) (by omega) (by omega) fun o9 l9 H9 w9 s9=>?_
    have hb9:=s9.box w8.here.own hb8 hbw
    simp(disch:=omega) only[hb9,go_sem]
    refine zn (zd6 false args hwa (by simp only[Lim];omega)) w9 (by omega) (by omega) (by omega) fun oY lY HY wY sY=>?_
    have hbY:=sY.box w9.here.own hb9 hbw
    simp(disch:=omega) only[hbY,go_sem]
    refine zn (yP false dirs hwd (by simp only[Lim];omega)) wY (by omega) (by omega) (by omega) fun oZ lZ HZ wZ sZ=>?_
    have hbZ:=sZ.box wY.here.own hbY hbw
    simp(disch:=omega) only[hbZ,go_sem]
    by_cases hz:sels.length=0
    case pos =>
     have hz':¬ ((0:Int)<(sels.length:Int)):=by omega
     simp(disch:=omega) only[hcss,hz',wrap64,go_sem]
     exact goJ (hJ (oZ,lZ) HZ (wZ.castC (by rw[ZL];simp only[bS];omega) (by rw[zD,er,hbv];simp[hz,hal,yg]) (fun e=>by rw[ZO,et (by rw[zD,er] at e;simp only[Al0] at e;exact e.2.1.1.1.1.1)];simp[hz,hal]))) (by simp(disch:=omega) only[go_sem])
    case neg =>
     have hz':((0:Int)<(sels.length:Int))=True:=eq_true (by omega)
     have hbox:=sZ.box wY.here.own hbY hbw
     simp(disch:=omega) only[hcss,hz',hbox,go_sem]
     refine zn (yL hLB sels (Al4 _) hws (by simp only[Lim];omega)) wZ (by omega) (by omega) (by omega) fun oU lU HU wU _=>?_
     simp(disch:=omega) only[wrap64,go_sem]
     exact goJ (hJ (oU,lU) HU (wU.castC (by rw[ZL];simp only[bS];omega) (by rw[zD,er,hbv];simp[hz,hal,yg]) (fun e=>by rw[ZO,et (by rw[zD,er] at e;simp only[Al0] at e;exact e.2.1.1.1.1.1)];simp[hz,hal,tBl]))) (by simp(disch:=omega) only[go_sem])
end Go.Proofs.YtbcocdloklbkjaaGreatDoor
