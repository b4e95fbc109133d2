import Derived.Test.YtaielcdfcgpbiaaGreatDoorM1
import Derived.Test.YtaielcdfcgpbiaaGreatDoorM2
import Derived.Test.YtaielcdfcgpbiaaGreatDoorM3
import Derived.Test.YtaielcdfcgpbiaaGreatDoorM4
import Derived.Test.YtaielcdfcgpbiaaGreatDoorM5
import Derived.Test.YtaielcdfcgpbiaaGreatDoorM6
set_option maxRecDepth 100000
set_option linter.all false
namespace Go.Proofs.YtaielcdfcgpbiaaGreatDoor
open Go.Ab
theorem zik:zm [116,121,112,101]=true:=by decide
theorem zij:zm [105,110,116,101,114,102,97,99,101]=true:=by decide
theorem zbP:zm [117,110,105,111,110]=true:=by decide
theorem zc3:zm [101,110,117,109]=true:=by decide
theorem zca:zm [105,110,112,117,116]=true:=by decide
theorem zae:zm [105,109,112,108,101,109,101,110,116,115]=true:=by decide
theorem zcJ:zm [115,99,104,101,109,97]=true:=by decide
theorem zdR:zm [113,117,101,114,121]=true:=by decide
theorem zhY:zm [109,117,116,97,116,105,111,110]=true:=by decide
noncomputable def Zu (x:DefD):Bool:=zm x.nm&&(x.faces.all zm&&(x.flds.all Zm&&(decide (x.flds.length≠0)&&(decide (x.parts.length=0)&&decide (x.ps.length=0)))))
def zfX (w:List UInt8) (x:DefD):List Tok:=wk w::wk x.nm::((if x.faces.length=0 then [] else wk [105,109,112,108,101,109,101,110,116,115]::tNs [38] x.faces)++(pk [123]::(x.flds.flatMap tL++[pk [125]])))
theorem zga (wd:List UInt8) (x:DefD) (hnw:zm wd=true) (hwd:wd.length≤Lim) (hwx:wfE x) (hm:64*bE x≤Lim):WS 166 [.str wd,.agg (cE x)] (64*bE x) (Zu x) (zfX wd x):=by
 intro H w o l ok h hb
 obtain⟨k,nm,faces,flds,parts,ps⟩:=x
 have hm':=hm
 simp only[Lim,bE] at hm'
 simp only[bE] at hb
 have h1:=zaq faces
 have h2:=zcd flds
 have h3:=zaq parts
 have h4:=zbf ps
 have hfc:=yq faces
 have hfl:=zav flds
 have hfp:=yq parts
 have hfs:=zam ps
 rw[zdu]
 refine ACalls.go ir166 ck166 (Al4 _) fun KP Q hQ=>?_
 have w0:=WR.refl h
 obtain⟨n,hn⟩:∃ n,n=(decide (flds.length≠0)&&(decide (parts.length=0)&&decide (ps.length=0))):=⟨_,rfl⟩
 by_cases a1:flds.length=0
 ·have a1':¬ ((0:Int)<(flds.length:Int)):=by omega
  have hbv:n=false:=by rw[hn];simp[a1]
  simp(disch:=first|omega|assumption) only[ir166,hfl,a1',go_sem]
  refine zh (yo _) w0 (by omega) (by omega) (by omega) fun o1 l1 H1 w1 _=>?_
  simp(disch:=first|omega|assumption) only[go_sem]
  refine zh (zq wd hwd) w1 (by omega) (by omega) (by omega) fun o2 l2 H2 w2 _=>?_
  simp(disch:=first|omega|assumption) only[go_sem]
  refine zh (zq nm (by simp only[Lim];omega)) w2 (by omega) (by omega) (by omega) fun o3 l3 H3 w3 _=>?_
  by_cases hf0:faces.length=0
  ·have hf1:¬ ((0:Int)<(faces.length:Int)):=by omega
   have hf:=Zi.1 hf0
   simp(disch:=first|omega|assumption) only[hfc,hf1,go_sem]
   refine zh (zz [123] _) w3 (by omega) (by omega) (by omega) fun oB lB HB wB sB=>?_
   simp(disch:=first|omega|assumption) only[go_sem]
   refine Zb (YX flds hwx.1 (by simp only[Lim];omega)) wB (by omega) fun oC lC HC wC sC=>?_
   simp(disch:=first|omega|assumption) only[go_sem]
   refine zh (zz [125] _) wC (by omega) (by omega) (by omega) fun oD lD HD wD sD=>?_
   simp(disch:=first|omega|assumption) only[go_sem]
   exact hQ _ _ HD HD [] nofun rfl (Low.refl _) ⟨rfl,wD.fin (by simp only[Zu,← hn,hbv,hnw,zae,hf];simp[yI,Bool.and_comm,Bool.and_left_comm]) (fun _=>by simp[zfX,hf]) (by simp only[bE];omega)⟩
  ·have hf1:((0:Int)<(faces.length:Int))=True:=eq_true (by omega)
   have hf:=hf0
   simp(disch:=first|omega|assumption) only[hfc,hf1,go_sem]
   refine zh (zq [105,109,112,108,101,109,101,110,116,115] (by simp[Lim])) w3 (by omega) (by omega) (by omega) fun o4 l4 H4 w4 _=>?_
   simp(disch:=first|omega|assumption) only[go_sem]
   refine Zb (zbd [38] faces (by simp only[Lim];omega)) w4 (by omega) fun o5 l5 H5 w5 _=>?_
   simp(disch:=first|omega|assumption) only[go_sem]
   refine zh (zz [123] _) w5 (by omega) (by omega) (by omega) fun oB lB HB wB sB=>?_
   simp(disch:=first|omega|assumption) only[go_sem]
   refine Zb (YX flds hwx.1 (by simp only[Lim];omega)) wB (by omega) fun oC lC HC wC sC=>?_
   simp(disch:=first|omega|assumption) only[go_sem]
   refine zh (zz [125] _) wC (by omega) (by omega) (by omega) fun oD lD HD wD sD=>?_
   simp(disch:=first|omega|assumption) only[go_sem]
   exact hQ _ _ HD HD [] nofun rfl (Low.refl _) ⟨rfl,wD.fin (by simp only[Zu,← hn,hbv,hnw,zae,hf];simp[yI,Bool.and_comm,Bool.and_left_comm]) (fun _=>by simp[zfX,hf]) (by simp only[bE];omega)⟩
 ·have a1':((0:Int)<(flds.length:Int))=True:=eq_true (by omega)
  have e1:IntKind.wrap .i64 ((parts.length:Int)+(ps.length:Int))=((parts.length+ps.length:Nat):Int):=by rw[wrap64 (by omega) (by omega)];omega
  by_cases a2:parts.length+ps.length=0
  ·have a2':(((parts.length+ps.length:Nat):Int)=0)=True:=eq_true (by omega)
   have hbv:n=true:=by rw[hn];simp only[ne_eq,Al0,zn];omega
   simp(disch:=first|omega|assumption) only[ir166,hfl,a1',hfp,hfs,e1,a2',go_sem]
   refine zh (yo _) w0 (by omega) (by omega) (by omega) fun o1 l1 H1 w1 _=>?_
   simp(disch:=first|omega|assumption) only[go_sem]
   refine zh (zq wd hwd) w1 (by omega) (by omega) (by omega) fun o2 l2 H2 w2 _=>?_
   simp(disch:=first|omega|assumption) only[go_sem]
   refine zh (zq nm (by simp only[Lim];omega)) w2 (by omega) (by omega) (by omega) fun o3 l3 H3 w3 _=>?_
   by_cases hf0:faces.length=0
   ·have hf1:¬ ((0:Int)<(faces.length:Int)):=by omega
    have hf:=Zi.1 hf0
    simp(disch:=first|omega|assumption) only[hfc,hf1,go_sem]
    refine zh (zz [123] _) w3 (by omega) (by omega) (by omega) fun oB lB HB wB sB=>?_
    simp(disch:=first|omega|assumption) only[go_sem]
    refine Zb (YX flds hwx.1 (by simp only[Lim];omega)) wB (by omega) fun oC lC HC wC sC=>?_
    simp(disch:=first|omega|assumption) only[go_sem]
    refine zh (zz [125] _) wC (by omega) (by omega) (by omega) fun oD lD HD wD sD=>?_
    simp(disch:=first|omega|assumption) only[go_sem]
    exact hQ _ _ HD HD [] nofun rfl (Low.refl _) ⟨rfl,wD.fin (by simp only[Zu,← hn,hbv,hnw,zae,hf];simp[yI,Bool.and_comm,Bool.and_left_comm]) (fun _=>by simp[zfX,hf]) (by simp only[bE];omega)⟩
   ·have hf1:((0:Int)<(faces.length:Int))=True:=eq_true (by omega)
    have hf:=hf0
    simp(disch:=first|omega|assumption) only[hfc,hf1,go_sem]
    refine zh (zq [105,109,112,108,101,109,101,110,116,115] (by simp[Lim])) w3 (by omega) (by omega) (by omega) fun o4 l4 H4 w4 _=>?_
    simp(disch:=first|omega|assumption) only[go_sem]
    refine Zb (zbd [38] faces (by simp only[Lim];omega)) w4 (by omega) fun o5 l5 H5 w5 _=>?_
    simp(disch:=first|omega|assumption) only[go_sem]
    refine zh (zz [123] _) w5 (by omega) (by omega) (by omega) fun oB lB HB wB sB=>?_
    simp(disch:=first|omega|assumption) only[go_sem]
    refine Zb (YX flds hwx.1 (by simp only[Lim];omega)) wB (by omega) fun oC lC HC wC sC=>?_
    simp(disch:=first|omega|assumption) only[go_sem]
    refine zh (zz [125] _) wC (by omega) (by omega) (by omega) fun oD lD HD wD sD=>?_
    simp(disch:=first|omega|assumption) only[go_sem]
    exact hQ _ _ HD HD [] nofun rfl (Low.refl _) ⟨rfl,wD.fin (by simp only[Zu,← hn,hbv,hnw,zae,hf];simp[yI,Bool.and_comm,Bool.and_left_comm]) (fun _=>by simp[zfX,hf]) (by simp only[bE];omega)⟩
  ·have a2':¬ (((parts.length+ps.length:Nat):Int)=0):=by omega
   have hbv:n=false:=by rw[hn,Bool.eq_false_iff];simp only[ne_eq,Al0,zn];omega
   simp(disch:=first|omega|assumption) only[ir166,hfl,a1',hfp,hfs,e1,a2',go_sem]
   refine zh (yo _) w0 (by omega) (by omega) (by omega) fun o1 l1 H1 w1 _=>?_
   simp(disch:=first|omega|assumption) only[go_sem]
   refine zh (zq wd hwd) w1 (by omega) (by omega) (by omega) fun o2 l2 H2 w2 _=>?_
   simp(disch:=first|omega|assumption) only[go_sem]
   refine zh (zq nm (by simp only[Lim];omega)) w2 (by omega) (by omega) (by omega) fun o3 l3 H3 w3 _=>?_
   by_cases hf0:faces.length=0
   ·have hf1:¬ ((0:Int)<(faces.length:Int)):=by omega
    have hf:=Zi.1 hf0
    simp(disch:=first|omega|assumption) only[hfc,hf1,go_sem]
    refine zh (zz [123] _) w3 (by omega) (by omega) (by omega) fun oB lB HB wB sB=>?_
    simp(disch:=first|omega|assumption) only[go_sem]
    refine Zb (YX flds hwx.1 (by simp only[Lim];omega)) wB (by omega) fun oC lC HC wC sC=>?_
    simp(disch:=first|omega|assumption) only[go_sem]
    refine zh (zz [125] _) wC (by omega) (by omega) (by omega) fun oD lD HD wD sD=>?_
    simp(disch:=first|omega|assumption) only[go_sem]
    exact hQ _ _ HD HD [] nofun rfl (Low.refl _) ⟨rfl,wD.fin (by simp only[Zu,← hn,hbv,hnw,zae,hf];simp[yI,Bool.and_comm,Bool.and_left_comm]) (fun _=>by simp[zfX,hf]) (by simp only[bE];omega)⟩
   ·have hf1:((0:Int)<(faces.length:Int))=True:=eq_true (by omega)
    have hf:=hf0
    simp(disch:=first|omega|assumption) only[hfc,hf1,go_sem]
    refine zh (zq [105,109,112,108,101,109,101,110,116,115] (by simp[Lim])) w3 (by omega) (by omega) (by omega) fun o4 l4 H4 w4 _=>?_
    simp(disch:=first|omega|assumption) only[go_sem]
    refine Zb (zbd [38] faces (by simp only[Lim];omega)) w4 (by omega) fun o5 l5 H5 w5 _=>?_
    simp(disch:=first|omega|assumption) only[go_sem]
    refine zh (zz [123] _) w5 (by omega) (by omega) (by omega) fun oB lB HB wB sB=>?_
    simp(disch:=first|omega|assumption) only[go_sem]
    refine Zb (YX flds hwx.1 (by simp only[Lim];omega)) wB (by omega) fun oC lC HC wC sC=>?_
    simp(disch:=first|omega|assumption) only[go_sem]
    refine zh (zz [125] _) wC (by omega) (by omega) (by omega) fun oD lD HD wD sD=>?_
    simp(disch:=first|omega|assumption) only[go_sem]
    exact hQ _ _ HD HD [] nofun rfl (Low.refl _) ⟨rfl,wD.fin (by simp only[Zu,← hn,hbv,hnw,zae,hf];simp[yI,Bool.and_comm,Bool.and_left_comm]) (fun _=>by simp[zfX,hf]) (by simp only[bE];omega)⟩
noncomputable def ZY (x:DefD):Bool:=decide (x.parts.length≠0)&&(decide (x.faces.length=0)&&(decide (x.flds.length=0)&&decide (x.ps.length=0)))
noncomputable def ZA (x:DefD):Bool:=zm x.nm&&(if x.k=3 then x.parts.all zm&&ZY x else (x.parts.all zm&&x.parts.all yK)&&ZY x)
def zfY (x:DefD):List Tok:=if x.k=3 then wk [117,110,105,111,110]::wk x.nm::pk [61]::tNs [124] x.parts else wk [101,110,117,109]::wk x.nm::pk [123]::(x.parts.map wk++[pk [125]])
theorem zfT {α:Type} (p q:α→Bool) (l:List α):(l.all fun x=>q x&&p x)=(l.all p&&l.all q):=by
 induction l with
 | nil=>rfl
 | cons a r ih=>simp only[List.all_cons,ih];cases p a<;>cases q a<;>simp
theorem zlp (x:DefD) (hm:64*bE x≤Lim):WS 167 [.agg (cE x)] (64*bE x) (ZA x) (zfY x):=by
 intro H w o l ok h hb
 obtain⟨k,nm,faces,flds,parts,ps⟩:=x
 have hm':=hm
 simp only[Lim,bE] at hm'
 simp only[bE] at hb
 have h1:=zaq faces
 have h2:=zcd flds
 have h3:=zaq parts
 have h4:=zbf ps
 have hfc:=yq faces
 have hfl:=zav flds
 have hfp:=yq parts
 have hfs:=zam ps
 rw[zdu]
 refine ACalls.go ir167 ck167 (Al4 _) fun KP Q hQ=>?_
 have w0:=WR.refl h
 obtain⟨n,hn⟩:∃ n,n=(decide (parts.length≠0)&&(decide (faces.length=0)&&(decide (flds.length=0)&&decide (ps.length=0)))):=⟨_,rfl⟩
 by_cases a1:parts.length=0
 ·have a1':¬ ((0:Int)<(parts.length:Int)):=by omega
  have hbv:n=false:=by rw[hn];simp[a1]
  simp(disch:=first|omega|assumption) only[ir167,hfp,a1',go_sem]
  refine zh (yo _) w0 (by omega) (by omega) (by omega) fun o1 l1 H1 w1 _=>?_
  by_cases hk:k=3
  ·have hk':=eq_true hk
   simp(disch:=first|omega|assumption) only[hk',go_sem]
   refine zh (zq [117,110,105,111,110] (by simp[Lim])) w1 (by omega) (by omega) (by omega) fun o2 l2 H2 w2 _=>?_
   simp(disch:=first|omega|assumption) only[go_sem]
   refine zh (zq nm (by simp only[Lim];omega)) w2 (by omega) (by omega) (by omega) fun o3 l3 H3 w3 _=>?_
   simp(disch:=first|omega|assumption) only[go_sem]
   refine zh (zz [61] _) w3 (by omega) (by omega) (by omega) fun o4 l4 H4 w4 _=>?_
   simp(disch:=first|omega|assumption) only[go_sem]
   refine Zb (zbd [124] parts (by simp only[Lim];omega)) w4 (by omega) fun o5 l5 H5 w5 _=>?_
   simp(disch:=first|omega|assumption) only[go_sem]
   exact hQ _ _ H5 H5 [] nofun rfl (Low.refl _) ⟨rfl,w5.fin (by simp only[ZA,if_pos hk,ZY,← hn,hbv,zbP];simp[yI,Bool.and_comm,Bool.and_left_comm]) (fun _=>by simp[zfY,hk]) (by simp only[bE];omega)⟩
  ·simp(disch:=first|omega|assumption) only[hk,go_sem]
   refine zh (zq [101,110,117,109] (by simp[Lim])) w1 (by omega) (by omega) (by omega) fun o2 l2 H2 w2 _=>?_
   simp(disch:=first|omega|assumption) only[go_sem]
   refine zh (zq nm (by simp only[Lim];omega)) w2 (by omega) (by omega) (by omega) fun o3 l3 H3 w3 _=>?_
   simp(disch:=first|omega|assumption) only[go_sem]
   refine zh (zz [123] _) w3 (by omega) (by omega) (by omega) fun o4 l4 H4 w4 _=>?_
   simp(disch:=first|omega|assumption) only[hfp,go_sem]
   refine goL_range parts 61 (fun x:Own×List Tok=>[]) (fun done rest x H'=>WR H o w l ok 0 (4+bT done) (n&&(zm nm&&done.all fun s=>yK s&&zm s)) (wk [101,110,117,109]::wk nm::pk [123]::done.map wk) H' x.1 x.2) (o4,l4) (by simp(disch:=first|omega|assumption) only[go_sem]) (w4.cast (by omega) (by simp[hbv,zc3]) (by simp)) ?_ ?_
   ·rintro⟨o5,l5⟩ H5 J5 w5 hlt
    simp only at w5
    simp(disch:=first|omega|assumption) only[hfp,hlt,go_sem]
    refine zh (zz [125] _) w5 (by omega) (by omega) (by omega) fun o6 l6 H6 w6 _=>?_
    simp(disch:=first|omega|assumption) only[go_sem]
    exact hQ _ _ H6 H6 [] nofun rfl (Low.refl _) ⟨rfl,w6.fin (by rw[zfT];simp only[ZA,if_neg hk,ZY,← hn];simp[yI,Bool.and_comm,Bool.and_left_comm]) (fun _=>by simp[zfY,hk]) (by simp only[bE];omega)⟩
   ·rintro done x rest ⟨o5,l5⟩ H5 J5 hd hlt hlt2 w5 hJ5
    simp only at w5
    have hg:=zd3 hd
    have hbm:=zfz done x rest
    rw[← hd] at hbm
    simp(disch:=first|omega|assumption) only[hfp,hlt,hg,go_sem]
    by_cases q1:x=[116,114,117,101]
    ·have q1':=eq_true q1
     have hno:yK x=false:=by rw[q1];decide
     simp(disch:=first|omega|assumption) only[q1',go_sem]
     refine zh (yo _) w5 (by omega) (by omega) (by omega) fun o6 l6 H6 w6 _=>?_
     simp(disch:=first|omega|assumption) only[go_sem]
     refine zh (zq x (by simp only[Lim];omega)) w6 (by omega) (by omega) (by omega) fun o7 l7 H7 w7 _=>?_
     simp(disch:=first|omega|assumption) only[wrap64,go_sem]
     exact goJ (hJ5 (o7,l7) H7 (w7.cast (by rw[yQ];omega) (by simp[hno,yI]) (by simp))) (by simp(disch:=first|omega|assumption) only[go_sem])
    by_cases q2:x=[102,97,108,115,101]
    ·have q2':=eq_true q2
     have hno:yK x=false:=by rw[q2];decide
     simp(disch:=first|omega|assumption) only[q1,q2',go_sem]
     refine zh (yo _) w5 (by omega) (by omega) (by omega) fun o6 l6 H6 w6 _=>?_
     simp(disch:=first|omega|assumption) only[go_sem]
     refine zh (zq x (by simp only[Lim];omega)) w6 (by omega) (by omega) (by omega) fun o7 l7 H7 w7 _=>?_
     simp(disch:=first|omega|assumption) only[wrap64,go_sem]
     exact goJ (hJ5 (o7,l7) H7 (w7.cast (by rw[yQ];omega) (by simp[hno,yI]) (by simp))) (by simp(disch:=first|omega|assumption) only[go_sem])
    by_cases q3:x=[110,117,108,108]
    ·have q3':=eq_true q3
     have hno:yK x=false:=by rw[q3];decide
     simp(disch:=first|omega|assumption) only[q1,q2,q3',go_sem]
     refine zh (yo _) w5 (by omega) (by omega) (by omega) fun o6 l6 H6 w6 _=>?_
     simp(disch:=first|omega|assumption) only[go_sem]
     refine zh (zq x (by simp only[Lim];omega)) w6 (by omega) (by omega) (by omega) fun o7 l7 H7 w7 _=>?_
     simp(disch:=first|omega|assumption) only[wrap64,go_sem]
     exact goJ (hJ5 (o7,l7) H7 (w7.cast (by rw[yQ];omega) (by simp[hno,yI]) (by simp))) (by simp(disch:=first|omega|assumption) only[go_sem])
    ·have hno:yK x=true:=by simp[yK,q1,q2,q3]
     simp(disch:=first|omega|assumption) only[q1,q2,q3,go_sem]
     refine zh (yo _) w5 (by omega) (by omega) (by omega) fun o6 l6 H6 w6 _=>?_
     simp(disch:=first|omega|assumption) only[go_sem]
     refine zh (zq x (by simp only[Lim];omega)) w6 (by omega) (by omega) (by omega) fun o7 l7 H7 w7 _=>?_
     simp(disch:=first|omega|assumption) only[wrap64,go_sem]
     exact goJ (hJ5 (o7,l7) H7 (w7.cast (by rw[yQ];omega) (by simp[hno,yI]) (by simp))) (by simp(disch:=first|omega|assumption) only[go_sem])
 ·have a1':((0:Int)<(parts.length:Int))=True:=eq_true (by omega)
  have e1:IntKind.wrap .i64 ((faces.length:Int)+(flds.length:Int))=((faces.length+flds.length:Nat):Int):=by rw[wrap64 (by omega) (by omega)];omega
  have e2:IntKind.wrap .i64 (((faces.length+flds.length:Nat):Int)+(ps.length:Int))=((faces.length+flds.length+ps.length:Nat):Int):=by rw[wrap64 (by omega) (by omega)];omega
  by_cases a2:faces.length+flds.length+ps.length=0
  ·have a2':(((faces.length+flds.length+ps.length:Nat):Int)=0)=True:=eq_true (by omega)
   have hbv:n=true:=by rw[hn];simp only[ne_eq,Al0,zn];omega
   simp(disch:=first|omega|assumption) only[ir167,hfp,a1',hfc,hfl,hfs,e1,e2,a2',go_sem]
   refine zh (yo _) w0 (by omega) (by omega) (by omega) fun o1 l1 H1 w1 _=>?_
   by_cases hk:k=3
   ·have hk':=eq_true hk
    simp(disch:=first|omega|assumption) only[hk',go_sem]
    refine zh (zq [117,110,105,111,110] (by simp[Lim])) w1 (by omega) (by omega) (by omega) fun o2 l2 H2 w2 _=>?_
    simp(disch:=first|omega|assumption) only[go_sem]
    refine zh (zq nm (by simp only[Lim];omega)) w2 (by omega) (by omega) (by omega) fun o3 l3 H3 w3 _=>?_
    simp(disch:=first|omega|assumption) only[go_sem]
    refine zh (zz [61] _) w3 (by omega) (by omega) (by omega) fun o4 l4 H4 w4 _=>?_
    simp(disch:=first|omega|assumption) only[go_sem]
    refine Zb (zbd [124] parts (by simp only[Lim];omega)) w4 (by omega) fun o5 l5 H5 w5 _=>?_
    simp(disch:=first|omega|assumption) only[go_sem]
    exact hQ _ _ H5 H5 [] nofun rfl (Low.refl _) ⟨rfl,w5.fin (by simp only[ZA,if_pos hk,ZY,← hn,hbv,zbP];simp[yI,Bool.and_comm,Bool.and_left_comm]) (fun _=>by simp[zfY,hk]) (by simp only[bE];omega)⟩
   ·simp(disch:=first|omega|assumption) only[hk,go_sem]
    refine zh (zq [101,110,117,109] (by simp[Lim])) w1 (by omega) (by omega) (by omega) fun o2 l2 H2 w2 _=>?_
    simp(disch:=first|omega|assumption) only[go_sem]
    refine zh (zq nm (by simp only[Lim];omega)) w2 (by omega) (by omega) (by omega) fun o3 l3 H3 w3 _=>?_
    simp(disch:=first|omega|assumption) only[go_sem]
    refine zh (zz [123] _) w3 (by omega) (by omega) (by omega) fun o4 l4 H4 w4 _=>?_
    simp(disch:=first|omega|assumption) only[hfp,go_sem]
    refine goL_range parts 61 (fun x:Own×List Tok=>[]) (fun done rest x H'=>WR H o w l ok 0 (4+bT done) (n&&(zm nm&&done.all fun s=>yK s&&zm s)) (wk [101,110,117,109]::wk nm::pk [123]::done.map wk) H' x.1 x.2) (o4,l4) (by simp(disch:=first|omega|assumption) only[go_sem]) (w4.cast (by omega) (by simp[hbv,zc3]) (by simp)) ?_ ?_
    ·rintro⟨o5,l5⟩ H5 J5 w5 hlt
     simp only at w5
     simp(disch:=first|omega|assumption) only[hfp,hlt,go_sem]
     refine zh (zz [125] _) w5 (by omega) (by omega) (by omega) fun o6 l6 H6 w6 _=>?_
     simp(disch:=first|omega|assumption) only[go_sem]
     exact hQ _ _ H6 H6 [] nofun rfl (Low.refl _) ⟨rfl,w6.fin (by rw[zfT];simp only[ZA,if_neg hk,ZY,← hn];simp[yI,Bool.and_comm,Bool.and_left_comm]) (fun _=>by simp[zfY,hk]) (by simp only[bE];omega)⟩
    ·rintro done x rest ⟨o5,l5⟩ H5 J5 hd hlt hlt2 w5 hJ5
     simp only at w5
     have hg:=zd3 hd
     have hbm:=zfz done x rest
     rw[← hd] at hbm
     simp(disch:=first|omega|assumption) only[hfp,hlt,hg,go_sem]
     by_cases q1:x=[116,114,117,101]
     ·have q1':=eq_true q1
      have hno:yK x=false:=by rw[q1];decide
      simp(disch:=first|omega|assumption) only[q1',go_sem]
      refine zh (yo _) w5 (by omega) (by omega) (by omega) fun o6 l6 H6 w6 _=>?_
      simp(disch:=first|omega|assumption) only[go_sem]
      refine zh (zq x (by simp only[Lim];omega)) w6 (by omega) (by omega) (by omega) fun o7 l7 H7 w7 _=>?_
      simp(disch:=first|omega|assumption) only[wrap64,go_sem]
      exact goJ (hJ5 (o7,l7) H7 (w7.cast (by rw[yQ];omega) (by simp[hno,yI]) (by simp))) (by simp(disch:=first|omega|assumption) only[go_sem])
     by_cases q2:x=[102,97,108,115,101]
     ·have q2':=eq_true q2
      have hno:yK x=false:=by rw[q2];decide
      simp(disch:=first|omega|assumption) only[q1,q2',go_sem]
      refine zh (yo _) w5 (by omega) (by omega) (by omega) fun o6 l6 H6 w6 _=>?_
      simp(disch:=first|omega|assumption) only[go_sem]
      refine zh (zq x (by simp only[Lim];omega)) w6 (by omega) (by omega) (by omega) fun o7 l7 H7 w7 _=>?_
      simp(disch:=first|omega|assumption) only[wrap64,go_sem]
      exact goJ (hJ5 (o7,l7) H7 (w7.cast (by rw[yQ];omega) (by simp[hno,yI]) (by simp))) (by simp(disch:=first|omega|assumption) only[go_sem])
     by_cases q3:x=[110,117,108,108]
     ·have q3':=eq_true q3
      have hno:yK x=false:=by rw[q3];decide
      simp(disch:=first|omega|assumption) only[q1,q2,q3',go_sem]
      refine zh (yo _) w5 (by omega) (by omega) (by omega) fun o6 l6 H6 w6 _=>?_
      simp(disch:=first|omega|assumption) only[go_sem]
      refine zh (zq x (by simp only[Lim];omega)) w6 (by omega) (by omega) (by omega) fun o7 l7 H7 w7 _=>?_
      simp(disch:=first|omega|assumption) only[wrap64,go_sem]
      exact goJ (hJ5 (o7,l7) H7 (w7.cast (by rw[yQ];omega) (by simp[hno,yI]) (by simp))) (by simp(disch:=first|omega|assumption) only[go_sem])
     ·have hno:yK x=true:=by simp[yK,q1,q2,q3]
      simp(disch:=first|omega|assumption) only[q1,q2,q3,go_sem]
      refine zh (yo _) w5 (by omega) (by omega) (by omega) fun o6 l6 H6 w6 _=>?_
      simp(disch:=first|omega|assumption) only[go_sem]
      refine zh (zq x (by simp only[Lim];omega)) w6 (by omega) (by omega) (by omega) fun o7 l7 H7 w7 _=>?_
      simp(disch:=first|omega|assumption) only[wrap64,go_sem]
      exact goJ (hJ5 (o7,l7) H7 (w7.cast (by rw[yQ];omega) (by simp[hno,yI]) (by simp))) (by simp(disch:=first|omega|assumption) only[go_sem])
  ·have a2':¬ (((faces.length+flds.length+ps.length:Nat):Int)=0):=by omega
   have hbv:n=false:=by rw[hn,Bool.eq_false_iff];simp only[ne_eq,Al0,zn];omega
   simp(disch:=first|omega|assumption) only[ir167,hfp,a1',hfc,hfl,hfs,e1,e2,a2',go_sem]
   refine zh (yo _) w0 (by omega) (by omega) (by omega) fun o1 l1 H1 w1 _=>?_
   by_cases hk:k=3
   ·have hk':=eq_true hk
    simp(disch:=first|omega|assumption) only[hk',go_sem]
    refine zh (zq [117,110,105,111,110] (by simp[Lim])) w1 (by omega) (by omega) (by omega) fun o2 l2 H2 w2 _=>?_
    simp(disch:=first|omega|assumption) only[go_sem]
    refine zh (zq nm (by simp only[Lim];omega)) w2 (by omega) (by omega) (by omega) fun o3 l3 H3 w3 _=>?_
    simp(disch:=first|omega|assumption) only[go_sem]
    refine zh (zz [61] _) w3 (by omega) (by omega) (by omega) fun o4 l4 H4 w4 _=>?_
    simp(disch:=first|omega|assumption) only[go_sem]
    refine Zb (zbd [124] parts (by simp only[Lim];omega)) w4 (by omega) fun o5 l5 H5 w5 _=>?_
    simp(disch:=first|omega|assumption) only[go_sem]
    exact hQ _ _ H5 H5 [] nofun rfl (Low.refl _) ⟨rfl,w5.fin (by simp only[ZA,if_pos hk,ZY,← hn,hbv,zbP];simp[yI,Bool.and_comm,Bool.and_left_comm]) (fun _=>by simp[zfY,hk]) (by simp only[bE];omega)⟩
   ·simp(disch:=first|omega|assumption) only[hk,go_sem]
    refine zh (zq [101,110,117,109] (by simp[Lim])) w1 (by omega) (by omega) (by omega) fun o2 l2 H2 w2 _=>?_
    simp(disch:=first|omega|assumption) only[go_sem]
    refine zh (zq nm (by simp only[Lim];omega)) w2 (by omega) (by omega) (by omega) fun o3 l3 H3 w3 _=>?_
    simp(disch:=first|omega|assumption) only[go_sem]
    refine zh (zz [123] _) w3 (by omega) (by omega) (by omega) fun o4 l4 H4 w4 _=>?_
    simp(disch:=first|omega|assumption) only[hfp,go_sem]
    refine goL_range parts 61 (fun x:Own×List Tok=>[]) (fun done rest x H'=>WR H o w l ok 0 (4+bT done) (n&&(zm nm&&done.all fun s=>yK s&&zm s)) (wk [101,110,117,109]::wk nm::pk [123]::done.map wk) H' x.1 x.2) (o4,l4) (by simp(disch:=first|omega|assumption) only[go_sem]) (w4.cast (by omega) (by simp[hbv,zc3]) (by simp)) ?_ ?_
    ·rintro⟨o5,l5⟩ H5 J5 w5 hlt
     simp only at w5
     simp(disch:=first|omega|assumption) only[hfp,hlt,go_sem]
     refine zh (zz [125] _) w5 (by omega) (by omega) (by omega) fun o6 l6 H6 w6 _=>?_
     simp(disch:=first|omega|assumption) only[go_sem]
     exact hQ _ _ H6 H6 [] nofun rfl (Low.refl _) ⟨rfl,w6.fin (by rw[zfT];simp only[ZA,if_neg hk,ZY,← hn];simp[yI,Bool.and_comm,Bool.and_left_comm]) (fun _=>by simp[zfY,hk]) (by simp only[bE];omega)⟩
    ·rintro done x rest ⟨o5,l5⟩ H5 J5 hd hlt hlt2 w5 hJ5
     simp only at w5
     have hg:=zd3 hd
     have hbm:=zfz done x rest
     rw[← hd] at hbm
     simp(disch:=first|omega|assumption) only[hfp,hlt,hg,go_sem]
     by_cases q1:x=[116,114,117,101]
     ·have q1':=eq_true q1
      have hno:yK x=false:=by rw[q1];decide
      simp(disch:=first|omega|assumption) only[q1',go_sem]
      refine zh (yo _) w5 (by omega) (by omega) (by omega) fun o6 l6 H6 w6 _=>?_
      simp(disch:=first|omega|assumption) only[go_sem]
      refine zh (zq x (by simp only[Lim];omega)) w6 (by omega) (by omega) (by omega) fun o7 l7 H7 w7 _=>?_
      simp(disch:=first|omega|assumption) only[wrap64,go_sem]
      exact goJ (hJ5 (o7,l7) H7 (w7.cast (by rw[yQ];omega) (by simp[hno,yI]) (by simp))) (by simp(disch:=first|omega|assumption) only[go_sem])
     by_cases q2:x=[102,97,108,115,101]
     ·have q2':=eq_true q2
      have hno:yK x=false:=by rw[q2];decide
      simp(disch:=first|omega|assumption) only[q1,q2',go_sem]
      refine zh (yo _) w5 (by omega) (by omega) (by omega) fun o6 l6 H6 w6 _=>?_
      simp(disch:=first|omega|assumption) only[go_sem]
      refine zh (zq x (by simp only[Lim];omega)) w6 (by omega) (by omega) (by omega) fun o7 l7 H7 w7 _=>?_
      simp(disch:=first|omega|assumption) only[wrap64,go_sem]
      exact goJ (hJ5 (o7,l7) H7 (w7.cast (by rw[yQ];omega) (by simp[hno,yI]) (by simp))) (by simp(disch:=first|omega|assumption) only[go_sem])
     by_cases q3:x=[110,117,108,108]
     ·have q3':=eq_true q3
      have hno:yK x=false:=by rw[q3];decide
      simp(disch:=first|omega|assumption) only[q1,q2,q3',go_sem]
      refine zh (yo _) w5 (by omega) (by omega) (by omega) fun o6 l6 H6 w6 _=>?_
      simp(disch:=first|omega|assumption) only[go_sem]
      refine zh (zq x (by simp only[Lim];omega)) w6 (by omega) (by omega) (by omega) fun o7 l7 H7 w7 _=>?_
      simp(disch:=first|omega|assumption) only[wrap64,go_sem]
      exact goJ (hJ5 (o7,l7) H7 (w7.cast (by rw[yQ];omega) (by simp[hno,yI]) (by simp))) (by simp(disch:=first|omega|assumption) only[go_sem])
     ·have hno:yK x=true:=by simp[yK,q1,q2,q3]
      simp(disch:=first|omega|assumption) only[q1,q2,q3,go_sem]
      refine zh (yo _) w5 (by omega) (by omega) (by omega) fun o6 l6 H6 w6 _=>?_
      simp(disch:=first|omega|assumption) only[go_sem]
      refine zh (zq x (by simp only[Lim];omega)) w6 (by omega) (by omega) (by omega) fun o7 l7 H7 w7 _=>?_
      simp(disch:=first|omega|assumption) only[wrap64,go_sem]
      exact goJ (hJ5 (o7,l7) H7 (w7.cast (by rw[yQ];omega) (by simp[hno,yI]) (by simp))) (by simp(disch:=first|omega|assumption) only[go_sem])
theorem zfa (l:List DefD) (x:DefD):bEs (l++[x])=bEs l+bE x:=by simp[bEs]
theorem zme (x:DefD) (hwx:wfE x) (hm:64*bE x≤Lim):WS 114 [.agg (cE x)] (64*bE x) (zL x) (tE x):=by
 have hO1:=zga [116,121,112,101] x zik (by simp[Lim]) hwx hm
 have hO2:=zga [105,110,116,101,114,102,97,99,101] x zij (by simp[Lim]) hwx hm
 have hP:=zlp x hm
 intro H w o l ok h hb
 obtain⟨k,nm,faces,flds,parts,ps⟩:=x
 rw[zdu] at hO1 hO2 hP ⊢
 have hm':=hm
 simp only[Lim,bE] at hm'
 have hb':=hb
 simp only[bE] at hb
 have h1:=zaq faces
 have h2:=zcd flds
 have h3:=zaq parts
 have h4:=zbf ps
 have hfc:=yq faces
 have hfl:=zav flds
 have hfp:=yq parts
 have hfs:=zam ps
 refine ACalls.go ir114 ck114 (Al4 _) fun KP Q hQ=>?_
 have w0:=WR.refl h
 by_cases k1:k=1
 ·have k1':=eq_true k1
  simp(disch:=first|omega|assumption) only[ir114,k1',go_sem]
  refine Zb hO1 w0 (by omega) fun o2 l2 H2 w2 _=>?_
  simp(disch:=first|omega|assumption) only[go_sem]
  exact hQ _ _ H2 H2 [] nofun rfl (Low.refl _) ⟨rfl,w2.fin (by subst k1;simp[zL,Zu]) (fun _=>by subst k1;simp[tE,zfX]) (by omega)⟩
 by_cases k2:k=2
 ·have k2':=eq_true k2
  simp(disch:=first|omega|assumption) only[ir114,k1,k2',go_sem]
  refine Zb hO2 w0 (by omega) fun o2 l2 H2 w2 _=>?_
  simp(disch:=first|omega|assumption) only[go_sem]
  exact hQ _ _ H2 H2 [] nofun rfl (Low.refl _) ⟨rfl,w2.fin (by subst k2;simp[zL,Zu]) (fun _=>by subst k2;simp[tE,zfX]) (by omega)⟩
 by_cases k3:k=3
 ·have k3':=eq_true k3
  simp(disch:=first|omega|assumption) only[ir114,k1,k2,k3',go_sem]
  refine Zb hP w0 (by omega) fun o2 l2 H2 w2 _=>?_
  simp(disch:=first|omega|assumption) only[go_sem]
  exact hQ _ _ H2 H2 [] nofun rfl (Low.refl _) ⟨rfl,w2.fin (by subst k3;simp[zL,ZA,ZY]) (fun _=>by subst k3;simp[tE,zfY]) (by omega)⟩
 by_cases k4:k=4
 ·have k4':=eq_true k4
  simp(disch:=first|omega|assumption) only[ir114,k1,k2,k3,k4',go_sem]
  refine Zb hP w0 (by omega) fun o2 l2 H2 w2 _=>?_
  simp(disch:=first|omega|assumption) only[go_sem]
  exact hQ _ _ H2 H2 [] nofun rfl (Low.refl _) ⟨rfl,w2.fin (by subst k4;simp[zL,ZA,ZY]) (fun _=>by subst k4;simp[tE,zfY]) (by omega)⟩
 by_cases k5:k=5
 ·have k5':=eq_true k5
  obtain⟨n,hn⟩:∃ n,n=(decide (ps.length≠0)&&(decide (faces.length=0)&&(decide (flds.length=0)&&decide (parts.length=0)))):=⟨_,rfl⟩
  by_cases a1:ps.length=0
  ·have a1':¬ ((0:Int)<(ps.length:Int)):=by omega
   have hbv:n=false:=by rw[hn];simp[a1]
   subst k5
   simp(disch:=first|omega|assumption) only[ir114,k1,k2,k3,k4,k5',hfs,a1',go_sem]
   refine zh (yo _) w0 (by omega) (by omega) (by omega) fun o1 l1 H1 w1 _=>?_
   simp(disch:=first|omega|assumption) only[go_sem]
   refine zh (zq [105,110,112,117,116] (by simp[Lim])) w1 (by omega) (by omega) (by omega) fun o2 l2 H2 w2 _=>?_
   simp(disch:=first|omega|assumption) only[go_sem]
   refine zh (zq nm (by simp only[Lim];omega)) w2 (by omega) (by omega) (by omega) fun o3 l3 H3 w3 _=>?_
   simp(disch:=first|omega|assumption) only[go_sem]
   refine zh (zz [123] _) w3 (by omega) (by omega) (by omega) fun o4 l4 H4 w4 _=>?_
   simp(disch:=first|omega|assumption) only[go_sem]
   refine Zb (zbU ps hwx.2 (by simp only[Lim];omega)) w4 (by omega) fun o5 l5 H5 w5 _=>?_
   simp(disch:=first|omega|assumption) only[go_sem]
   refine zh (zz [125] _) w5 (by omega) (by omega) (by omega) fun o6 l6 H6 w6 _=>?_
   simp(disch:=first|omega|assumption) only[go_sem]
   exact hQ _ _ H6 H6 [] nofun rfl (Low.refl _) ⟨rfl,w6.fin (by simp only[zL];rw[if_neg (by omega),if_neg (by omega),if_neg (by omega),if_pos trivial];simp only[← hn,hbv,zca];simp[yI,Bool.and_comm,Bool.and_left_comm]) (fun _=>by simp only[tE];rw[if_neg (by omega),if_neg (by omega),if_neg (by omega)];simp) (by simp only[bE];omega)⟩
  ·have a1':((0:Int)<(ps.length:Int))=True:=eq_true (by omega)
   have e1:IntKind.wrap .i64 ((faces.length:Int)+(flds.length:Int))=((faces.length+flds.length:Nat):Int):=by rw[wrap64 (by omega) (by omega)];omega
   have e2:IntKind.wrap .i64 (((faces.length+flds.length:Nat):Int)+(parts.length:Int))=((faces.length+flds.length+parts.length:Nat):Int):=by rw[wrap64 (by omega) (by omega)];omega
   by_cases a2:faces.length+flds.length+parts.length=0
   ·have a2':(((faces.length+flds.length+parts.length:Nat):Int)=0)=True:=eq_true (by omega)
    have hbv:n=true:=by rw[hn];simp only[ne_eq,Al0,zn];omega
    subst k5
    simp(disch:=first|omega|assumption) only[ir114,k1,k2,k3,k4,k5',hfs,a1',hfc,hfl,hfp,e1,e2,a2',go_sem]
    refine zh (yo _) w0 (by omega) (by omega) (by omega) fun o1 l1 H1 w1 _=>?_
    simp(disch:=first|omega|assumption) only[go_sem]
    refine zh (zq [105,110,112,117,116] (by simp[Lim])) w1 (by omega) (by omega) (by omega) fun o2 l2 H2 w2 _=>?_
    simp(disch:=first|omega|assumption) only[go_sem]
    refine zh (zq nm (by simp only[Lim];omega)) w2 (by omega) (by omega) (by omega) fun o3 l3 H3 w3 _=>?_
    simp(disch:=first|omega|assumption) only[go_sem]
    refine zh (zz [123] _) w3 (by omega) (by omega) (by omega) fun o4 l4 H4 w4 _=>?_
    simp(disch:=first|omega|assumption) only[go_sem]
    refine Zb (zbU ps hwx.2 (by simp only[Lim];omega)) w4 (by omega) fun o5 l5 H5 w5 _=>?_
    simp(disch:=first|omega|assumption) only[go_sem]
    refine zh (zz [125] _) w5 (by omega) (by omega) (by omega) fun o6 l6 H6 w6 _=>?_
    simp(disch:=first|omega|assumption) only[go_sem]
    exact hQ _ _ H6 H6 [] nofun rfl (Low.refl _) ⟨rfl,w6.fin (by simp only[zL];rw[if_neg (by omega),if_neg (by omega),if_neg (by omega),if_pos trivial];simp only[← hn,hbv,zca];simp[yI,Bool.and_comm,Bool.and_left_comm]) (fun _=>by simp only[tE];rw[if_neg (by omega),if_neg (by omega),if_neg (by omega)];simp) (by simp only[bE];omega)⟩
   ·have a2':¬ (((faces.length+flds.length+parts.length:Nat):Int)=0):=by omega
    have hbv:n=false:=by rw[hn,Bool.eq_false_iff];simp only[ne_eq,Al0,zn];omega
    subst k5
    simp(disch:=first|omega|assumption) only[ir114,k1,k2,k3,k4,k5',hfs,a1',hfc,hfl,hfp,e1,e2,a2',go_sem]
    refine zh (yo _) w0 (by omega) (by omega) (by omega) fun o1 l1 H1 w1 _=>?_
    simp(disch:=first|omega|assumption) only[go_sem]
    refine zh (zq [105,110,112,117,116] (by simp[Lim])) w1 (by omega) (by omega) (by omega) fun o2 l2 H2 w2 _=>?_
    simp(disch:=first|omega|assumption) only[go_sem]
    refine zh (zq nm (by simp only[Lim];omega)) w2 (by omega) (by omega) (by omega) fun o3 l3 H3 w3 _=>?_
    simp(disch:=first|omega|assumption) only[go_sem]
    refine zh (zz [123] _) w3 (by omega) (by omega) (by omega) fun o4 l4 H4 w4 _=>?_
    simp(disch:=first|omega|assumption) only[go_sem]
    refine Zb (zbU ps hwx.2 (by simp only[Lim];omega)) w4 (by omega) fun o5 l5 H5 w5 _=>?_
    simp(disch:=first|omega|assumption) only[go_sem]
    refine zh (zz [125] _) w5 (by omega) (by omega) (by omega) fun o6 l6 H6 w6 _=>?_
    simp(disch:=first|omega|assumption) only[go_sem]
    exact hQ _ _ H6 H6 [] nofun rfl (Low.refl _) ⟨rfl,w6.fin (by simp only[zL];rw[if_neg (by omega),if_neg (by omega),if_neg (by omega),if_pos trivial];simp only[← hn,hbv,zca];simp[yI,Bool.and_comm,Bool.and_left_comm]) (fun _=>by simp only[tE];rw[if_neg (by omega),if_neg (by omega),if_neg (by omega)];simp) (by simp only[bE];omega)⟩
 ·simp(disch:=first|omega|assumption) only[ir114,k1,k2,k3,k4,k5,go_sem]
  refine zh (yo false) w0 (by omega) (by omega) (by omega) fun o2 l2 H2 w2 _=>?_
  simp(disch:=first|omega|assumption) only[go_sem]
  exact hQ _ _ H2 H2 [] nofun rfl (Low.refl _) ⟨rfl,w2.fin (by simp[zL,k1,k2,k3,k4,k5]) (fun e=>by simp[zL,k1,k2,k3,k4,k5] at e) (by omega)⟩
theorem zg7 (s:SchD) (hw:zdh s) (hb:64*zcr s+64≤Lim) (hr:yF s=true):Pure Tryz.prog 57 [.agg (zbo s)] (.tup [.sl .no 2 (cKs (Yd s)),.bool true]):=by
 refine Pure.go ir57 ck57 (Al4 _) fun KP Q hQ=>?_
 obtain⟨defs,q,m⟩:=s
 have hle:=zig defs
 have hce:=zc7 defs
 have hb':=hb
 simp only[zcr,Lim] at hb'
 have ed:zbo ⟨defs,q,m⟩=[.sl .no 6 (cEs defs),.str q,.str m]:=rfl
 obtain⟨R3,hR3⟩:∃ R3,R3=(zm q&&(decide (m=[])||zm m)):=⟨_,rfl⟩
 simp(disch:=first|omega|assumption) only[ir57,ed,go_sem]
 refine goK_ret zn9 fun v H1 ⟨w,hv,hW⟩=>?_
 subst hv
 simp(disch:=first|omega|assumption) only[go_sem]
 refine goA_intro fun b hb=>?_
 have hbw:b≠w:=fun e=>by subst e;rw[hW.cell] at hb;cases hb
 have w0:=(WR.refl hW).alloc (x:=.cells [.ptr w 0]) hb
 have g0:(H1.upd b (.cells [.ptr w 0])) b=some (.cells [.ptr w 0]):=upd_same ..
 simp(disch:=first|omega|assumption) only[go_sem]
 refine zh (zq [115,99,104,101,109,97] (by simp[Lim])) w0 (by omega) (by omega) (by simp only[Lim,Al3];omega) fun o1 l1 H2 w1 s1=>?_
 have g1:=s1.box w0.here.own g0 hbw
 simp(disch:=first|omega|assumption) only[g1,go_sem]
 refine zh (zz [123] _) w1 (by omega) (by omega) (by simp only[Lim,Al3];omega) fun o2 l2 H3 w2 s2=>?_
 have g2:=s2.box w1.here.own g1 hbw
 simp(disch:=first|omega|assumption) only[g2,go_sem]
 refine zh (zq [113,117,101,114,121] (by simp[Lim])) w2 (by omega) (by omega) (by simp only[Lim,Al3];omega) fun o3 l3 H4 w3 s3=>?_
 have g3:=s3.box w2.here.own g2 hbw
 simp(disch:=first|omega|assumption) only[g3,go_sem]
 refine zh (zz [58] _) w3 (by omega) (by omega) (by simp only[Lim,Al3];omega) fun o4 l4 H5 w4 s4=>?_
 have g4:=s4.box w3.here.own g3 hbw
 simp(disch:=first|omega|assumption) only[g4,go_sem]
 refine zh (zq q (by simp only[Lim];omega)) w4 (by omega) (by omega) (by simp only[Lim,Al3];omega) fun o5 l5 H6 w5 s5=>?_
 have g5:=s5.box w4.here.own g4 hbw
 by_cases hm0:m=[]
 ·have hm1:=eq_true hm0
  simp(disch:=first|omega|assumption) only[hm1,g5,go_sem]
  refine zh (zz [125] _) w5 (by omega) (by omega) (by simp only[Lim,Al3];omega) fun oB lB HB wB sB=>?_
  have gB:=sB.box w5.here.own g5 hbw
  simp(disch:=first|omega|assumption) only[gB,hce,go_sem]
  refine goL_range defs 50 (fun x:Own×List Tok=>[]) (fun done rest x H'=>WR H1 .nil w [] true 0 (10+64*bEs done) (R3&&done.all zL) (tRt q m++done.flatMap tE) H' x.1 x.2∧H' b=some (.cells [.ptr w 0])) (oB,lB) (by simp(disch:=first|omega|assumption) only[go_sem]) ⟨wB.castC (by omega) (by rw[hR3];simp[zcJ,zdR,zhY,hm0,yI]) (fun _=>by simp[tRt,hm0]),gB⟩ ?_ ?_
  ·rintro⟨o4,l4⟩ H4 J4 ⟨w4,g4⟩ hlt4
   simp only at w4 g4
   have er:yF ⟨defs,q,m⟩=(R3&&defs.all zL):=by rw[hR3,Bool.and_comm];rfl
   have hc4:=w4.here.cell
   have e4:=w4.eq
   rw[← er,Bool.true_and] at hc4 e4
   rw[hr] at hc4
   have e5:=e4 hr
   rw[yR] at e5
   subst e5
   simp(disch:=first|omega|assumption) only[hce,hlt4,g4,hc4,go_sem]
   exact hQ _ _ _ _ nofun rfl (by simp[tupOf,envOf,AV.strip,AV.strip1,Yd])
  ·rintro done x rest ⟨o4,l4⟩ H4 J4 hd hlt4 hlt5 ⟨w4,g4⟩ hJ4
   simp only at w4 g4
   have hg:=zc0 hd
   have hbm:=zfH done x rest
   rw[← hd] at hbm
   have hwx:=hw x (by rw[hd];simp)
   have hfw:=zme x hwx (by simp only[Lim];omega)
   obtain⟨k,nm,faces,flds,parts,ps⟩:=x
   rw[zdu] at hg hfw
   simp(disch:=first|omega|assumption) only[hce,hlt4,hg,go_sem]
   refine goA_intro fun b6 hb6=>?_
   have h6:b6≠b:=fun e=>by subst e;rw[g4] at hb6;cases hb6
   have w5:=w4.alloc (x:=.cells [.int .i64 k,.str nm,.sl .no 1 (cT faces),.sl .no 6 (cLs flds),.sl .no 1 (cT parts),.sl .no 10 (cWs ps)]) hb6
   have g5:(H4.upd b6 (.cells [.int .i64 k,.str nm,.sl .no 1 (cT faces),.sl .no 6 (cLs flds),.sl .no 1 (cT parts),.sl .no 10 (cWs ps)])) b=some (.cells [.ptr w 0]):=by rw[upd_ne (Ne.symm h6)];exact g4
   simp(disch:=first|omega|assumption) only[g5,go_sem]
   refine Zb hfw w5 (by simp only[Lim,Al3];omega) fun o6 l6 H6 w6 s6=>?_
   have g6:=s6.box w5.here.own g5 hbw
   simp(disch:=first|omega|assumption) only[wrap64,go_sem]
   exact goJ (hJ4 (o6,l6) H6 ⟨w6.cast (by rw[zfa];omega) (by simp[yI]) (by simp),g6⟩) (by simp(disch:=first|omega|assumption) only[go_sem])
 ·simp(disch:=first|omega|assumption) only[hm0,g5,go_sem]
  refine zh (zq [109,117,116,97,116,105,111,110] (by simp[Lim])) w5 (by omega) (by omega) (by simp only[Lim,Al3];omega) fun o6 l6 H7 w6 s6=>?_
  have g6:=s6.box w5.here.own g5 hbw
  simp(disch:=first|omega|assumption) only[g6,go_sem]
  refine zh (zz [58] _) w6 (by omega) (by omega) (by simp only[Lim,Al3];omega) fun o7 l7 H8 w7 s7=>?_
  have g7:=s7.box w6.here.own g6 hbw
  simp(disch:=first|omega|assumption) only[g7,go_sem]
  refine zh (zq m (by simp only[Lim];omega)) w7 (by omega) (by omega) (by simp only[Lim,Al3];omega) fun o8 l8 H9 w8 s8=>?_
  have g8:=s8.box w7.here.own g7 hbw
  simp(disch:=first|omega|assumption) only[g8,go_sem]
  refine zh (zz [125] _) w8 (by omega) (by omega) (by simp only[Lim,Al3];omega) fun oB lB HB wB sB=>?_
  have gB:=sB.box w8.here.own g8 hbw
  simp(disch:=first|omega|assumption) only[gB,hce,go_sem]
  refine goL_range defs 50 (fun x:Own×List Tok=>[]) (fun done rest x H'=>WR H1 .nil w [] true 0 (10+64*bEs done) (R3&&done.all zL) (tRt q m++done.flatMap tE) H' x.1 x.2∧H' b=some (.cells [.ptr w 0])) (oB,lB) (by simp(disch:=first|omega|assumption) only[go_sem]) ⟨wB.castC (by omega) (by rw[hR3];simp[zcJ,zdR,zhY,hm0,yI]) (fun _=>by simp[tRt,hm0]),gB⟩ ?_ ?_
  ·rintro⟨o4,l4⟩ H4 J4 ⟨w4,g4⟩ hlt4
   simp only at w4 g4
   have er:yF ⟨defs,q,m⟩=(R3&&defs.all zL):=by rw[hR3,Bool.and_comm];rfl
   have hc4:=w4.here.cell
   have e4:=w4.eq
   rw[← er,Bool.true_and] at hc4 e4
   rw[hr] at hc4
   have e5:=e4 hr
   rw[yR] at e5
   subst e5
   simp(disch:=first|omega|assumption) only[hce,hlt4,g4,hc4,go_sem]
   exact hQ _ _ _ _ nofun rfl (by simp[tupOf,envOf,AV.strip,AV.strip1,Yd])
  ·rintro done x rest ⟨o4,l4⟩ H4 J4 hd hlt4 hlt5 ⟨w4,g4⟩ hJ4
   simp only at w4 g4
   have hg:=zc0 hd
   have hbm:=zfH done x rest
   rw[← hd] at hbm
   have hwx:=hw x (by rw[hd];simp)
   have hfw:=zme x hwx (by simp only[Lim];omega)
   obtain⟨k,nm,faces,flds,parts,ps⟩:=x
   rw[zdu] at hg hfw
   simp(disch:=first|omega|assumption) only[hce,hlt4,hg,go_sem]
   refine goA_intro fun b6 hb6=>?_
   have h6:b6≠b:=fun e=>by subst e;rw[g4] at hb6;cases hb6
   have w5:=w4.alloc (x:=.cells [.int .i64 k,.str nm,.sl .no 1 (cT faces),.sl .no 6 (cLs flds),.sl .no 1 (cT parts),.sl .no 10 (cWs ps)]) hb6
   have g5:(H4.upd b6 (.cells [.int .i64 k,.str nm,.sl .no 1 (cT faces),.sl .no 6 (cLs flds),.sl .no 1 (cT parts),.sl .no 10 (cWs ps)])) b=some (.cells [.ptr w 0]):=by rw[upd_ne (Ne.symm h6)];exact g4
   simp(disch:=first|omega|assumption) only[g5,go_sem]
   refine Zb hfw w5 (by simp only[Lim,Al3];omega) fun o6 l6 H6 w6 s6=>?_
   have g6:=s6.box w5.here.own g5 hbw
   simp(disch:=first|omega|assumption) only[wrap64,go_sem]
   exact goJ (hJ4 (o6,l6) H6 ⟨w6.cast (by rw[zfa];omega) (by simp[yI]) (by simp),g6⟩) (by simp(disch:=first|omega|assumption) only[go_sem])
theorem zls (s:SchD) (hw:zdh s) (hb:64*zcr s+64≤Lim) (hr:yF s=true):Pure Tryz.prog 28 [.agg (zbo s)] (.bool true):=by
 refine Pure.go ir28 ck28 (Al4 _) fun KP Q hQ=>?_
 have ed:zbo s=[.sl .no 6 (cEs s.defs),.str s.q,.str s.m]:=rfl
 have hT:=zg7 s hw hb hr
 rw[ed] at hT ⊢
 simp(disch:=first|omega|assumption) only[ir28,go_sem]
 refine goK_pure hT ?_
 simp(disch:=first|omega|assumption) only[go_sem]
 exact hQ _ _ _ _ nofun rfl (by simp[tupOf,envOf,AV.strip,AV.strip1])
def Yh (s:SchD):List UInt8×Bool:=if (ZV (Yd s)).2&&decide ((ZV (Yd s)).1.length≤8192) then ((ZV (Yd s)).1,true) else ([],false)
theorem zlL (s:SchD) (hw:zdh s) (hb:64*zcr s+64≤Lim) (hr:yF s=true) (hwt:8*wT (Yd s)≤Lim):Pure Tryz.prog 23 [.agg (zbo s)] (.tup [.str (Yh s).1,.bool (Yh s).2]):=by
 refine Pure.go ir23 ck23 (Al4 _) fun KP Q hQ=>?_
 have ed:zbo s=[.sl .no 6 (cEs s.defs),.str s.q,.str s.m]:=rfl
 have hT:=zg7 s hw hb hr
 have hp:=zlz (Yd s) hwt
 rw[ed] at hT ⊢
 simp(disch:=first|omega|assumption) only[ir23,go_sem]
 refine goK_pure hT ?_
 simp(disch:=first|omega|assumption) only[go_sem]
 refine goK_pure hp ?_
 cases h2:(ZV (Yd s)).2 with
 | false =>
  simp(disch:=first|omega|assumption) only[go_sem]
  exact hQ _ _ _ _ nofun rfl (by simp[tupOf,envOf,AV.strip,AV.strip1,Yh,h2])
 | true =>
  by_cases hl:(ZV (Yd s)).1.length≤8192
  ·have hl':¬ ((8192:Int)<((ZV (Yd s)).1.length:Int)):=by omega
   simp(disch:=first|omega|assumption) only[hl',go_sem]
   exact hQ _ _ _ _ nofun rfl (by simp[tupOf,envOf,AV.strip,AV.strip1,Yh,h2,hl])
  ·have hl':((8192:Int)<((ZV (Yd s)).1.length:Int))=True:=eq_true (by omega)
   simp(disch:=first|omega|assumption) only[hl',go_sem]
   exact hQ _ _ _ _ nofun rfl (by simp[tupOf,envOf,AV.strip,AV.strip1,Yh,h2,hl])
def ZE (x:Tok):AV:=.agg [.int .i64 x.k,.str x.s]
def yh (n:Int):AV:=.ifc 120 (.agg [.int .i64 n])
def prc (L p:TS) (dp:Nat):AObj:=.cells [.sl .no 2 (cKs L),.int .i64 (p.length:Int),.int .i64 (dp:Int)]
def Pat (H:Heap) (r:Nat) (L t:TS) (dp:Nat) (H':Heap):Prop:=∃ p,p++t=L∧H'=H.upd r (prc L p dp)
def zbm {α:Type} (H:Heap) (r:Nat) (L:TS) (dp:Nat) (x:PR α) (f:α→AV) (v:AV) (H':Heap):Prop:=∃ a t',x=.ok (a,t')∧v=f a∧Pat H r L t' dp H'
def zbF {α:Type} (x:PR α) (v:AV) (_:Heap):Prop:=∃ n,x=.error n∧v=yh n
abbrev zJ:Nat:=1000000
abbrev RpE {α:Type} (H:Heap) (r:Nat) (L:TS) (dp:Nat) (x:PR α) (f:α→AV):AEnd→Heap→Prop:=fun e H'=>match e with|.ret v=>zbm H r L dp x f v H'|.pan v=>zbF x v H'
theorem Pat.again {H H1 H2:Heap} {r:Nat} {L t t':TS} {dp dp':Nat} (h:Pat H r L t dp H1) (h':Pat H1 r L t' dp' H2):Pat H r L t' dp' H2:=by
 obtain⟨p,_,rfl⟩:=h
 obtain⟨q,hq,rfl⟩:=h'
 exact⟨q,hq,upd_upd ..⟩
theorem Pat.at {H H1:Heap} {r:Nat} {L t:TS} {dp:Nat} (h:Pat H r L t dp H1):∃ p,p++t=L∧H1 r=some (prc L p dp):=by
 obtain⟨p,hp,rfl⟩:=h
 exact⟨p,hp,upd_same ..⟩
theorem Pat.self {H:Heap} {r:Nat} {L p t:TS} {dp:Nat} (hs:p++t=L) (hr:H r=some (prc L p dp)):Pat H r L t dp H :=
 ⟨p,hs,by funext c;by_cases e:c=r<;>simp[Heap.upd,e,hr]⟩
structure KI (H:Heap) (r:Nat) (L t:TS) (dp:Nat) (H1:Heap):Prop where
 keep:∀ c x,c≠r→H c=some x→H1 c=some x
 here:∃ p,p++t=L∧H1 r=some (prc L p dp)
 hr:∃ x,H r=some x
theorem KI.start {H:Heap} {r:Nat} {L p t:TS} {dp:Nat} (hs:p++t=L) (hr:H r=some (prc L p dp)):KI H r L t dp H:=⟨fun _ _ _ h=>h,⟨p,hs,hr⟩,⟨_,hr⟩⟩
theorem KI.call {H H1 H2:Heap} {r:Nat} {L t t':TS} {dp dp':Nat} (h:KI H r L t dp H1) (ha:Pat H1 r L t' dp' H2):KI H r L t' dp' H2:=by
 obtain⟨q,hq,rfl⟩:=ha
 exact⟨fun c x hc hx=>by rw[upd_ne hc];exact h.keep c x hc hx,⟨q,hq,upd_same ..⟩,h.hr⟩
theorem KI.ne {H H1:Heap} {r b:Nat} {L t:TS} {dp:Nat} (h:KI H r L t dp H1) (hb:H b=none):r≠b:=fun e=>by
 subst e;obtain⟨x,hx⟩:=h.hr;rw[hb] at hx;cases hx
theorem KI.none {H H1:Heap} {r b:Nat} {L t:TS} {dp:Nat} (h:KI H r L t dp H1) (hb:H1 b=.none):H b=.none:=by
 cases hx:H b with
 | none=>rfl
 | some x =>
  by_cases e:b=r
  ·subst e;obtain⟨p,_,h2⟩:=h.here;rw[hb] at h2;cases h2
  ·have:=h.keep b x e hx;rw[hb] at this;cases this
theorem KI.box {H H1:Heap} {r b:Nat} {L t:TS} {dp:Nat} {x:AObj} (h:KI H r L t dp H1) (hb:H b=.none):KI H r L t dp (H1.upd b x):=by
 obtain⟨p,hp,h2⟩:=h.here
 exact⟨fun c y hc hy=>by rw[upd_ne (fun e=>by subst e;rw[hb] at hy;cases hy)];exact h.keep c y hc hy,⟨p,hp,by rw[upd_ne (h.ne hb)];exact h2⟩,h.hr⟩
theorem KI.low {H H1:Heap} {r:Nat} {L t:TS} {dp:Nat} (h:KI H r L t dp H1):∃ H2,Low H2 H1∧Pat H r L t dp H2:=by
 obtain⟨p,hp,h1⟩:=h.here
 refine⟨_,Low.of_sub fun c x hc=>?_,p,hp,rfl⟩
 by_cases e:c=r
 ·subst e;rw[upd_same] at hc;rw[← hc];exact h1
 ·rw[upd_ne e] at hc;exact h.keep c x e hc
structure KO (H:Heap) (r:Nat) (L t:TS) (dp:Nat) (H1:Heap) (o:Own) (n sz:Nat):Prop extends KI H r L t dp H1 where
 own:Owned H1 o n sz
 tip:∀ b d,o=.tip b d→H b=.none
theorem KO.call {H H1 H2:Heap} {r:Nat} {L t t':TS} {dp dp':Nat} {o:Own} {n sz:Nat} (h:KO H r L t dp H1 o n sz) (ha:Pat H1 r L t' dp' H2):KO H r L t' dp' H2 o n sz:=by
 obtain⟨p,hp,h1⟩:=h.here
 refine⟨h.toKI.call ha,?_,h.tip⟩
 obtain⟨q,hq,rfl⟩:=ha
 exact yP h.own h1
theorem KO.box {H H1:Heap} {r b:Nat} {L t:TS} {dp:Nat} {o:Own} {n sz:Nat} {cs cs':List AV} (h:KO H r L t dp H1 o n sz) (hb:H b=.none) (h1:H1 b=some (.cells cs)):KO H r L t dp (H1.upd b (.cells cs')) o n sz :=
 ⟨h.toKI.box hb,yP h.own h1,h.tip⟩
theorem KO.app {H H1 H2:Heap} {r:Nat} {L t:TS} {dp:Nat} {o o':Own} {n n' sz:Nat} (h:KO H r L t dp H1 o n sz) (hs:OwnS H1 o H2 o' n' sz):KO H r L t dp H2 o' n' sz:=by
 obtain⟨p,hp,h1⟩:=h.here
 refine⟨⟨fun c x hc hx=>hs.kept c x (h.keep c x hc hx) fun d e=>?_,⟨p,hp,zS h.own h1 hs.kept⟩,h.hr⟩,hs.own,fun b d e=>?_⟩
 ·have:=h.tip c d e;rw[hx] at this;cases this
 ·rcases hs.new b d e with h2|⟨d0,e2⟩
  ·exact h.toKI.none h2
  ·exact h.tip b d0 e2
theorem KO.stay {H H1 H2:Heap} {r b:Nat} {L t:TS} {dp:Nat} {o o':Own} {n n' sz:Nat} {cs:List AV} (h:KO H r L t dp H1 o n sz) (hs:OwnS H1 o H2 o' n' sz) (hb:H1 b=some (.cells cs)):H2 b=some (.cells cs) :=
 zS h.own hb hs.kept
theorem KI.done {α:Type} {H:Heap} {r:Nat} {L:TS} {dp:Nat} {x:PR α} {f:α→AV} {Q:AExit→Env→Heap→Prop} {res:List ARes}
  (hQ:∀ e ρ H1 H2 vs,(∀ i,e≠.exit i)→resvs ρ H1 res=some vs→Low H2 H1→zbm H r L dp x f (tupOf vs).strip H2→Q e ρ H1)
  (ρ1:Env) (H1:Heap) (vs:List AV) (a:α) (t':TS) (h1:resvs ρ1 H1 res=some vs) (h2:x=.ok (a,t')) (h3:KI H r L t' dp H1) (h4:(tupOf vs).strip=f a):Q .ret ρ1 H1:=by
 obtain⟨H2,hl,ha⟩:=h3.low
 exact hQ .ret ρ1 H1 H2 vs nofun h1 hl ⟨a,t',h2,h4,ha⟩
theorem zdM:∀ L:TS,L.length≤wT L
 | []=>Al4 _
 | x::L=>by have:=zdM L;rw[zI];simp only[Al2,wK];omega
theorem zoj {p t L:TS} (h:p++t=L):(hdT t).s.length≤wT L:=by
 subst h
 cases t with
 | nil=>simp[hdT]
 | cons x t =>
  have:wT (p++x::t)=wT p+wT (x::t):=by simp[wT]
  rw[this,zI];simp only[hdT,List.headD_cons,wK];omega
theorem Pat.other {H H1:Heap} {r c:Nat} {L t:TS} {dp:Nat} (h:Pat H r L t dp H1) (hc:c≠r):H1 c=H c:=by
 obtain⟨p,_,rfl⟩:=h
 exact upd_ne hc
theorem zaX (H:Heap) (r:Nat) (n:Int):ACalls Tryz.prog 75 [.ptr r 0,.int .i64 n] H (fun e H'=>match e with|.ret v=>False|.pan v=>v=yh n):=by
 refine ACalls.goO (R:=fun _ _=>False) (RP:=fun v _=>v=yh n) ir75 ck75 (Al4 _) fun KP Q hQ hP=>?_
 simp(disch:=first|omega|assumption) only[ir75,go_sem]
 exact hP _ _ H (Low.refl _) rfl
section
variable {H:Heap} {r:Nat} {L p t:TS} {dp:Nat}
theorem zj7 (hs:p++t=L) (hr:H r=some (prc L p dp)):ACalls Tryz.prog 43 [.ptr r 0] H (fun e H'=>∃ v,e=.ret v∧(v=.bool (decide (t≠[]))∧H'=H)):=by
 refine ACalls.go ir43 ck43 (Al4 _) fun KP Q hQ=>?_
 simp only[prc] at hr
 have hcl:=zQ L
 have hlen:p.length+t.length=L.length:=by rw[← hs];simp
 simp(disch:=first|omega|assumption) only[ir43,hr,hcl,go_sem]
 cases t with
 | nil =>
  have h1:¬ ((p.length:Int)<(L.length:Int)):=by simp at hlen;omega
  simp(disch:=first|omega|assumption) only[h1,go_sem]
  exact hQ _ _ _ _ [_] nofun rfl (Low.refl _) ⟨(by simp[tupOf,envOf,AV.strip,AV.strip1]),rfl⟩
 | cons c u =>
  have h1:((p.length:Int)<(L.length:Int))=True:=eq_true (by simp at hlen;omega)
  simp(disch:=first|omega|assumption) only[h1,go_sem]
  exact hQ _ _ _ _ [_] nofun rfl (Low.refl _) ⟨(by simp[tupOf,envOf,AV.strip,AV.strip1]),rfl⟩
theorem zgG (hs:p++t=L) (hr:H r=some (prc L p dp)):ACalls Tryz.prog 76 [.ptr r 0] H (fun e H'=>∃ v,e=.ret v∧(v=ZE (hdT t)∧H'=H)):=by
 refine ACalls.go ir76 ck76 (Al4 _) fun KP Q hQ=>?_
 have hcl:=zQ L
 have hlen:p.length+t.length=L.length:=by rw[← hs];simp
 simp(disch:=first|omega|assumption) only[ir76,go_sem]
 refine goA_intro fun b hb=>?_
 have hbr:r≠b:=fun e=>by subst e;rw[hb] at hr;cases hr
 have hr2:(H.upd b (.cells [.int .i64 0,.str []])) r=some (prc L p dp):=by rw[upd_ne hbr];exact hr
 simp(disch:=first|omega|assumption) only[go_sem]
 refine goK_ret (zj7 hs hr2) fun v H1 ⟨hv,hH⟩=>?_
 subst hv;subst hH
 have hlow:∀ x,Low H (H.upd b x):=fun x=>(Low.refl _).upd hb
 cases t with
 | nil =>
  simp(disch:=first|omega|assumption) only[go_sem]
  exact hQ _ _ _ H [.agg [.int .i64 0,.str []]] nofun (by simp(disch:=first|omega|assumption) only[ir76,resvs,resv,go_sem]) (hlow _) ⟨rfl,rfl⟩
 | cons c u =>
  simp only[prc] at hr2
  have h1:((p.length:Int)<(L.length:Int))=True:=eq_true (by simp at hlen;omega)
  have hg:(cKs L).getD p.length []=[.int .i64 c.k,.str c.s]:=by rw[← hs];simp[cKs,cK]
  simp(disch:=first|omega|assumption) only[hr2,hcl,h1,hg,go_sem]
  exact hQ _ _ _ H [.agg [.int .i64 c.k,.str c.s]] nofun (by simp(disch:=first|omega|assumption) only[ir76,resvs,resv,go_sem]) (hlow _) ⟨rfl,rfl⟩
theorem zmz (hs:p++t=L) (hr:H r=some (prc L p dp)) (m:List UInt8):ACalls Tryz.prog 97 [.ptr r 0,.str m] H (fun e H'=>∃ v,e=.ret v∧(v=.bool (isP m t)∧H'=H)):=by
 refine ACalls.go ir97 ck97 (Al4 _) fun KP Q hQ=>?_
 simp(disch:=first|omega|assumption) only[ir97,go_sem]
 refine goK_ret (zgG hs hr) fun v H1 ⟨hv,hH⟩=>?_
 subst hv;subst hH
 simp(disch:=first|omega|assumption) only[ZE,fitsAll,K1.fits,keqs,AV.keq1,Bool.and_true,go_sem]
 exact hQ _ _ _ _ [_] nofun rfl (Low.refl _) ⟨by simp[tupOf,envOf,AV.strip,AV.strip1,isP],rfl⟩
theorem znY (hs:p++t=L) (hr:H r=some (prc L p dp)) (m:List UInt8):ACalls Tryz.prog 158 [.ptr r 0,.str m] H (fun e H'=>∃ v,e=.ret v∧(v=.bool (isW m t)∧H'=H)):=by
 refine ACalls.go ir158 ck158 (Al4 _) fun KP Q hQ=>?_
 simp(disch:=first|omega|assumption) only[ir158,go_sem]
 refine goK_ret (zgG hs hr) fun v H1 ⟨hv,hH⟩=>?_
 subst hv;subst hH
 simp(disch:=first|omega|assumption) only[ZE,fitsAll,K1.fits,keqs,AV.keq1,Bool.and_true,go_sem]
 exact hQ _ _ _ _ [_] nofun rfl (Low.refl _) ⟨by simp[tupOf,envOf,AV.strip,AV.strip1,isW],rfl⟩
theorem ziY (hs:p++t=L) (hk:(hdT t).k≠0):(p++[hdT t])++t.tail=L:=by
 rw[ZF,List.singleton_append,← zcZ hk];exact hs
theorem Yp (hs:p++t=L) (hk:(hdT t).k≠0) (H:Heap):Pat H r L t.tail dp (H.upd r (.cells [.sl .no 2 (cKs L),.int .i64 ((p.length:Int)+1),.int .i64 (dp:Int)])) :=
 ⟨p++[hdT t],ziY hs hk,by simp[prc]⟩
def Zg (m:List UInt8) (t:TS):TS:=if isP m t then t.tail else t
theorem zbq (hs:p++t=L) (hl:L.length≤zJ) (hr:H r=some (prc L p dp)) (m:List UInt8):ACalls Tryz.prog 98 [.ptr r 0,.str m] H (fun e H'=>∃ v,e=.ret v∧(v=.bool (isP m t)∧Pat H r L (Zg m t) dp H')):=by
 refine ACalls.go ir98 ck98 (Al4 _) fun KP Q hQ=>?_
 simp only[zJ] at hl
 have hlen:p.length+t.length=L.length:=by rw[← hs];simp
 simp(disch:=first|omega|assumption) only[ir98,go_sem]
 refine goK_ret (zmz hs hr m) fun v H1 ⟨hv,hH⟩=>?_
 subst hv;subst hH
 have hr':=hr
 simp only[prc] at hr'
 cases hi:isP m t with
 | true =>
  simp(disch:=first|omega|assumption) only[hr',wrap64,go_sem]
  refine hQ _ _ _ _ [_] nofun rfl (Low.refl _) ⟨(by simp[tupOf,envOf,AV.strip,AV.strip1,hi]),?_⟩
  simp only[Zg,hi,if_true]
  exact Yp hs (zdD hi) _
 | false =>
  simp(disch:=first|omega|assumption) only[go_sem]
  refine hQ _ _ _ _ [_] nofun rfl (Low.refl _) ⟨(by simp[tupOf,envOf,AV.strip,AV.strip1,hi]),?_⟩
  simp only[Zg,hi,Al7,if_false]
  exact Pat.self hs hr
theorem znG (hs:p++t=L) (hl:L.length≤zJ) (hr:H r=some (prc L p dp)) (m:List UInt8):ACalls Tryz.prog 100 [.ptr r 0,.str m] H (fun e H'=>∃ v,e=.ret v∧(v=.bool (isW m t)∧Pat H r L (zR m t) dp H')):=by
 refine ACalls.go ir100 ck100 (Al4 _) fun KP Q hQ=>?_
 simp only[zJ] at hl
 have hlen:p.length+t.length=L.length:=by rw[← hs];simp
 simp(disch:=first|omega|assumption) only[ir100,go_sem]
 refine goK_ret (znY hs hr m) fun v H1 ⟨hv,hH⟩=>?_
 subst hv;subst hH
 have hr':=hr
 simp only[prc] at hr'
 cases hi:isW m t with
 | true =>
  simp(disch:=first|omega|assumption) only[hr',wrap64,go_sem]
  refine hQ _ _ _ _ [_] nofun rfl (Low.refl _) ⟨(by simp[tupOf,envOf,AV.strip,AV.strip1,hi]),?_⟩
  simp only[zR,hi,if_true]
  exact Yp hs (zlg hi) _
 | false =>
  simp(disch:=first|omega|assumption) only[go_sem]
  refine hQ _ _ _ _ [_] nofun rfl (Low.refl _) ⟨(by simp[tupOf,envOf,AV.strip,AV.strip1,hi]),?_⟩
  simp only[zR,hi,Al7,if_false]
  exact Pat.self hs hr
theorem zft (hs:p++t=L) (hl:L.length≤zJ) (hr:H r=some (prc L p dp)) (m:List UInt8):ACalls Tryz.prog 84 [.ptr r 0,.str m] H (RpE H r L dp (yp m t) fun _=>.tup []):=by
 refine ACalls.goO ir84 ck84 (Al4 _) fun KP Q hQ hP=>?_
 simp(disch:=first|omega|assumption) only[ir84,go_sem]
 refine goK_ret (zbq hs hl hr m) fun v H1 ⟨hv,hH⟩=>?_
 subst hv
 cases hi:isP m t with
 | true =>
  rw[Zg,hi] at hH
  simp(disch:=first|omega|assumption) only[go_sem]
  exact hQ _ _ _ _ [] nofun rfl (Low.refl _) ⟨(),t.tail,by unfold yp;rw[hi];rfl,rfl,hH⟩
 | false =>
  simp(disch:=first|omega|assumption) only[go_sem]
  exact goK_both (zaX H1 r 2) (fun _ _ h=>h.elim) fun v H2 h=>hP v H2 H2 (Low.refl _) ⟨2,by unfold yp;rw[hi];rfl,h⟩
theorem zd5 (hs:p++t=L) (hl:L.length≤zJ) (hr:H r=some (prc L p dp)):ACalls Tryz.prog 85 [.ptr r 0] H (RpE H r L dp (zZ t) AV.str):=by
 refine ACalls.goO ir85 ck85 (Al4 _) fun KP Q hQ hP=>?_
 simp only[zJ] at hl
 have hlen:p.length+t.length=L.length:=by rw[← hs];simp
 simp(disch:=first|omega|assumption) only[ir85,go_sem]
 refine goK_ret (zgG hs hr) fun v H1 ⟨hv,hH⟩=>?_
 subst hv;subst hH
 simp(disch:=first|omega|assumption) only[go_sem]
 refine goA_intro fun b hb=>?_
 have hbr:r≠b:=fun e=>by subst e;rw[hb] at hr;cases hr
 have hr':=hr
 simp only[prc] at hr'
 by_cases hk:(hdT t).k=2
 ·have hk':((hdT t).k=2)=True:=eq_true hk
  simp(disch:=first|omega|assumption) only[ZE,hk',hr',hbr,Ne.symm hbr,wrap64,go_sem]
  refine hQ _ _ _ (H1.upd r (.cells [.sl .no 2 (cKs L),.int .i64 ((p.length:Int)+1),.int .i64 (dp:Int)])) [_] nofun rfl ?_ ⟨(hdT t).s,t.tail,by unfold zZ;rw[if_pos hk],(by simp[tupOf,envOf,AV.strip,AV.strip1]),Yp hs (by rw[hk];decide) _⟩
  refine Low.of_sub fun c x hc=>?_
  by_cases e:c=r
  ·subst e;rw[upd_same] at hc ⊢;exact hc
  ·rw[upd_ne e] at hc ⊢
   rw[upd_ne (fun e2=>by subst e2;rw[hb] at hc;cases hc)];exact hc
 ·simp(disch:=first|omega|assumption) only[ZE,hk,go_sem]
  exact goK_both (zaX _ r 2) (fun _ _ h=>h.elim) fun v H2 h=>hP v H2 H2 (Low.refl _) ⟨2,by unfold zZ;rw[if_neg hk],h⟩
theorem zkB (hs:p++t=L) (hl:L.length≤zJ) (hd:dp≤16) (hr:H r=some (prc L p dp)) (m:List UInt8):ACalls Tryz.prog 81 [.ptr r 0,.str m] H
  (fun e H'=>match e with
   | .ret v=>v=.bool (isP m t)∧(isP m t=true→dp<16∧Pat H r L t.tail (dp+1) H')∧(isP m t=false→Pat H r L t dp H')
   | .pan v=>isP m t=true∧dp=16∧v=yh 4):=by
 refine ACalls.goO (R:=fun v H'=>v=.bool (isP m t)∧(isP m t=true→dp<16∧Pat H r L t.tail (dp+1) H')∧(isP m t=false→Pat H r L t dp H')) (RP:=fun v _=>isP m t=true∧dp=16∧v=yh 4) ir81 ck81 (Al4 _) fun KP Q hQ hP=>?_
 have hlen:p.length+t.length=L.length:=by rw[← hs];simp
 simp(disch:=first|omega|assumption) only[ir81,go_sem]
 refine goK_ret (zmz hs hr m) fun v H1 ⟨hv,hH⟩=>?_
 subst hv;subst hH
 have hr':=hr
 simp only[prc] at hr'
 cases hi:isP m t with
 | true =>
  by_cases h16:(16:Int)≤(dp:Int)
  ·simp(disch:=first|omega|assumption) only[hr',h16,go_sem]
   exact goK_both (zaX _ r 4) (fun _ _ h=>h.elim) fun v H2 h=>hP v H2 H2 (Low.refl _) ⟨hi,by omega,h⟩
  ·simp(disch:=first|omega|assumption) only[hr',h16,go_sem]
   refine goK_ret (zbq hs hl hr m) fun v H2 ⟨hv,hH⟩=>?_
   subst hv
   rw[Zg,hi] at hH
   obtain⟨q,hq,h2⟩:=hH.at
   simp only[prc] at h2
   rw[hi]
   simp(disch:=first|omega|assumption) only[h2,wrap64,go_sem]
   exact hQ _ _ _ _ [_] nofun rfl (Low.refl _) ⟨(by simp[tupOf,envOf,AV.strip,AV.strip1,hi]),fun _=>⟨by omega,hH.again ⟨q,hq,by simp[prc]⟩⟩,fun h=>(by rw[hi] at h;cases h)⟩
 | false =>
  simp(disch:=first|omega|assumption) only[go_sem]
  refine goK_ret (zbq hs hl hr m) fun v H2 ⟨hv,hH⟩=>?_
  subst hv
  rw[Zg,hi] at hH
  rw[hi]
  simp(disch:=first|omega|assumption) only[go_sem]
  exact hQ _ _ _ _ [_] nofun rfl (Low.refl _) ⟨(by simp[tupOf,envOf,AV.strip,AV.strip1,hi]),fun h=>(by rw[hi] at h;cases h),fun _=>by simpa using hH⟩
theorem zh8 (hs:p++t=L) (hl:L.length≤zJ) (hd:1≤dp∧dp≤16) (hr:H r=some (prc L p dp)) (m:List UInt8):ACalls Tryz.prog 82 [.ptr r 0,.str m] H
  (fun e H'=>∃ v,e=.ret v∧(v=.bool (isP m t)∧(isP m t=true→Pat H r L t.tail (dp-1) H')∧(isP m t=false→Pat H r L t dp H'))):=by
 refine ACalls.go ir82 ck82 (Al4 _) fun KP Q hQ=>?_
 simp(disch:=first|omega|assumption) only[ir82,go_sem]
 refine goK_ret (zbq hs hl hr m) fun v H2 ⟨hv,hH⟩=>?_
 subst hv
 cases hi:isP m t with
 | true =>
  rw[Zg,hi] at hH
  obtain⟨q,hq,h2⟩:=hH.at
  simp only[prc] at h2
  simp(disch:=first|omega|assumption) only[h2,wrap64,go_sem]
  refine hQ _ _ _ _ [_] nofun rfl (Low.refl _) ⟨(by simp[tupOf,envOf,AV.strip,AV.strip1,hi]),fun _=>hH.again ⟨q,hq,?_⟩,fun h=>(by rw[hi] at h;cases h)⟩
  have e:((dp-1:Nat):Int)=(dp:Int)-1:=by omega
  simp only[prc,e]
 | false =>
  rw[Zg,hi] at hH
  simp(disch:=first|omega|assumption) only[go_sem]
  exact hQ _ _ _ _ [_] nofun rfl (Low.refl _) ⟨(by simp[tupOf,envOf,AV.strip,AV.strip1,hi]),fun h=>(by rw[hi] at h;cases h),fun _=>by simpa using hH⟩
end
theorem zm9 (s:List UInt8):Pure Tryz.prog 77 [.str s] (.agg (cV (Yb s))):=by
 refine Pure.go ir77 ck77 (Al4 _) fun KP Q hQ=>?_
 simp(disch:=first|omega|assumption) only[ir77,go_sem]
 refine goA_intro fun b hb=>?_
 by_cases h1:s=[110,117,108,108]
 ·have h1':(s=[110,117,108,108])=True:=eq_true h1
  simp(disch:=first|omega|assumption) only[h1',go_sem]
  exact hQ _ _ _ [.agg [.int .i64 0,.int .i64 0,.str [],.sl .nil 5 [],.sl .nil 6 []]] nofun (by simp(disch:=first|omega|assumption) only[ir77,resvs,resv,go_sem]) (by rw[Yb,if_pos h1];rfl)
 by_cases h2:s=[116,114,117,101]
 ·have h2':(s=[116,114,117,101])=True:=eq_true h2
  simp(disch:=first|omega|assumption) only[h1,h2',go_sem]
  exact hQ _ _ _ [.agg [.int .i64 1,.int .i64 1,.str [],.sl .nil 5 [],.sl .nil 6 []]] nofun (by simp(disch:=first|omega|assumption) only[ir77,resvs,resv,go_sem]) (by rw[Yb,if_neg h1,if_pos h2];rfl)
 by_cases h3:s=[102,97,108,115,101]
 ·have h3':(s=[102,97,108,115,101])=True:=eq_true h3
  simp(disch:=first|omega|assumption) only[h1,h2,h3',go_sem]
  exact hQ _ _ _ [.agg [.int .i64 1,.int .i64 0,.str [],.sl .nil 5 [],.sl .nil 6 []]] nofun (by simp(disch:=first|omega|assumption) only[ir77,resvs,resv,go_sem]) (by rw[Yb,if_neg h1,if_neg h2,if_pos h3];rfl)
 simp(disch:=first|omega|assumption) only[h1,h2,h3,go_sem]
 exact hQ _ _ _ [.agg [.int .i64 5,.int .i64 0,.str s,.sl .nil 5 [],.sl .nil 6 []]] nofun (by simp(disch:=first|omega|assumption) only[ir77,resvs,resv,go_sem]) (by rw[Yb,if_neg h1,if_neg h2,if_neg h3];rfl)
def ziP (fixed:Bool) (k:Nat):Prop:=∀(H:Heap) (r:Nat) (L p t:TS),p++t=L→wT L≤zJ→H r=some (prc L p (16-k)) →
 ACalls Tryz.prog 33 [.ptr r 0,.bool fixed] H (RpE H r L (16-k) (yy fixed k t) fun v=>.agg (cV v))
theorem zdr {fixed:Bool} {k:Nat} (hv:ziP fixed k) {H:Heap} {r:Nat} {L p t:TS} (hs:p++t=L) (hl:wT L≤zJ) (hr:H r=some (prc L p (16-k))) :
  ACalls Tryz.prog 83 [.ptr r 0,.bool fixed] H (RpE H r L (16-k) (zX (yy fixed k) t) fun m=>.agg (cM m)):=by
 refine yz (ACalls.goO (R:=fun v H'=>zbm H r L (16-k) (zX (yy fixed k) t) (fun m=>.agg (cM m)) v.strip H') (RP:=fun v H'=>zbF (zX (yy fixed k) t) v H') ir83 ck83 (Al4 _) fun KP Q hQ hP=>?_)
 have hll:L.length≤zJ:=Nat.le_trans (zdM L) hl
 have pan:∀(v:AV) (H1:Heap) (n:Int),v=yh n→zX (yy fixed k) t=.error n→KP v H1:=fun v H1 n h1 h2=>hP v H1 H1 (Low.refl _) ⟨n,h2,h1⟩
 have fin:=KI.done hQ
 have K0:=KI.start hs hr
 simp(disch:=first|omega|assumption) only[ir83,go_sem]
 refine goA_intro fun b4 hb4=>?_
 have n4:=K0.ne hb4
 have K1:=K0.box (x:=.cells [.str [],.int .i64 0,.int .i64 0,.str [],.sl .nil 5 [],.sl .nil 6 []]) hb4
 simp(disch:=first|omega|assumption) only[go_sem]
 refine goK_both (zd5 (dp:=16-k) hs hll (by rw[upd_ne n4];exact hr)) (fun v H1 ⟨nm,t1,e1,hv1,ha1⟩=>?_) fun v H1 ⟨n,e1,hv1⟩=>pan v H1 n hv1 (by rw[zX,e1];rfl)
 subst hv1
 have K2:=K1.call ha1
 obtain⟨p1,hp1,hr1⟩:=K2.here
 have g1:H1 b4=some (.cells [.str [],.int .i64 0,.int .i64 0,.str [],.sl .nil 5 [],.sl .nil 6 []]):=by rw[ha1.other (Ne.symm n4),upd_same]
 simp(disch:=first|omega|assumption) only[go_sem]
 refine goK_both (zft (dp:=16-k) hp1 hll hr1 [58]) (fun v H2 ⟨_,t2,e2,hv2,ha2⟩=>?_) fun v H2 ⟨n,e2,hv2⟩=>pan v H2 n hv2 (by rw[zX,e1,zk,e2];rfl)
 subst hv2
 have K3:=K2.call ha2
 obtain⟨p2,hp2,hr2⟩:=K3.here
 have g2:H2 b4=some (.cells [.str [],.int .i64 0,.int .i64 0,.str [],.sl .nil 5 [],.sl .nil 6 []]):=by rw[ha2.other (Ne.symm n4),g1]
 simp(disch:=first|omega|assumption) only[go_sem]
 refine goK_both (hv _ r L p2 t2 hp2 hl hr2) (fun v H3 ⟨x,t3,e3,hv3,ha3⟩=>?_) fun v H3 ⟨n,e3,hv3⟩=>pan v H3 n hv3 (by rw[zX,e1,zk,e2,zk,e3];rfl)
 subst hv3
 have K4:=K3.call ha3
 have g3:H3 b4=some (.cells [.str [],.int .i64 0,.int .i64 0,.str [],.sl .nil 5 [],.sl .nil 6 []]):=by rw[ha3.other (Ne.symm n4),g2]
 simp(disch:=first|omega|assumption) only[zf,zd,za,zg,zc,zb,zj,g3,go_sem]
 refine fin _ _ [.agg (.str nm::cV x)] (.mk nm x) t3 (by simp(disch:=first|omega|assumption) only[zf,zd,za,zg,zc,zb,zj,ir83,resvs,resv,go_sem]) (by rw[zX,e1,zk,e2,zk,e3];rfl) (K4.box hb4) ?_
 simp[tupOf,AV.strip,AV.strip1,zj,Z2]
abbrev zB:List AV:=[.int .i64 0,.int .i64 0,.str [],.sl .nil 5 [],.sl .nil 6 []]
theorem zh5 (fixed:Bool) (k:Nat) (hk:k≤16) (ih:∀ n,k=n+1→ziP fixed n):ziP fixed k:=by
 intro H r L p t hs hl hr
 refine yz (ACalls.goO (R:=fun v H'=>zbm H r L (16-k) (yy fixed k t) (fun v=>.agg (cV v)) v.strip H') (RP:=fun v H'=>zbF (yy fixed k t) v H') ir33 ck33 (Al4 _) fun KP Q hQ hP=>?_)
 have hll:L.length≤zJ:=Nat.le_trans (zdM L) hl
 have hsl:(hdT t).s.length≤zJ:=Nat.le_trans (zoj hs) hl
 have hplen:p.length+t.length=L.length:=by rw[← hs];simp
 have pan:∀(v:AV) (H1:Heap) (n:Int),v=yh n→yy fixed k t=.error n→KP v H1:=fun v H1 n h1 h2=>hP v H1 H1 (Low.refl _) ⟨n,h2,h1⟩
 have fin:=KI.done hQ
 have K0:=KI.start hs hr
 simp(disch:=first|omega|assumption) only[ir33,go_sem]
 refine goA_intro fun b4 hb4=>?_
 have n4:=K0.ne hb4
 simp(disch:=first|omega|assumption) only[go_sem]
 refine goK_ret (zgG (dp:=16-k) hs (by rw[upd_ne n4];exact hr)) fun v H1 ⟨hv,hH⟩=>?_
 subst hv;subst hH
 simp(disch:=first|omega|assumption) only[ZE,go_sem]
 refine goA_intro fun b5 hb5=>?_
 have h54:b5≠b4:=fun e=>by subst e;rw[upd_same] at hb5;cases hb5
 have hb5H:H b5=none:=by rw[upd_ne h54] at hb5;exact hb5
 have n5:=K0.ne hb5H
 simp(disch:=first|omega|assumption) only[go_sem]
 generalize hHa:Heap.upd (Heap.upd H b4 _) b5 _=Ha
 have g5:Ha b5=some (.cells [.int .i64 (hdT t).k,.str (hdT t).s]):=by rw[← hHa,upd_same]
 have g4:Ha b4=some (.cells zB):=by rw[← hHa,upd_ne (Ne.symm h54),upd_same]
 have gr:Ha r=some (prc L p (16-k)):=by rw[← hHa,upd_ne n5,upd_ne n4];exact hr
 have KA:KI H r L t (16-k) Ha:=by rw[← hHa];exact(K0.box hb4).box hb5H
 clear hHa
 have gr':=gr
 simp only[prc] at gr'
 simp only[zB] at g4
 have n5s:=Ne.symm n5
 have n4s:=Ne.symm n4
 simp only[zJ] at hsl
 have hll2:=hll
 simp only[zJ] at hll2
 by_cases hk2:(hdT t).k=2
 ·have hk2':((hdT t).k=2)=True:=eq_true hk2
  have e1:yy fixed k t=.ok (Yb (hdT t).s,t.tail):=by rw[zY,Z8.eq_def,if_pos hk2]
  simp(disch:=first|omega|assumption) only[hk2',g5,gr',wrap64,n5s,n4s,go_sem]
  refine goK_pure (zm9 _) ?_
  simp(disch:=first|omega|assumption) only[zf,zd,za,zg,zc,zb,zj,g4,n4s,go_sem]
  exact fin _ _ [.agg (cV (Yb (hdT t).s))] _ _ (by simp(disch:=first|omega|assumption) only[zf,zd,za,zg,zc,zb,zj,ir33,resvs,resv,go_sem]) e1 ((KA.call (Yp hs (by rw[hk2];decide) _)).box hb4) (by simp[tupOf,AV.strip,Z2])
 by_cases hk34:(hdT t).k=3∨(hdT t).k=4
 ·have e1:yy fixed k t=.ok (zcq (hdT t).s,t.tail):=by rw[zY,Z8.eq_def,if_neg hk2,if_pos hk34]
  have hk0:(hdT t).k≠0:=by omega
  have hd3:(decide ((hdT t).k=3)||decide ((hdT t).k=4))=true:=by simpa using hk34
  rcases Classical.em ((hdT t).k=3) with hk3|hk3
  ·have hk3':((hdT t).k=3)=True:=eq_true hk3
   simp(disch:=first|omega|assumption) only[hk2,hk3',g5,gr',wrap64,n5s,n4s,go_sem]
   refine goK_pure (zho _ (by simp only[Lim];omega)) ?_
   cases hw:Zd (hdT t).s with
   | true =>
    simp(disch:=first|omega|assumption) only[go_sem]
    refine goK_pure (znA _) ?_
    simp(disch:=first|omega|assumption) only[zf,zd,za,zg,zc,zb,zj,g4,n4s,go_sem]
    refine fin _ _ [.agg (cV (.mk 2 (zer (hdT t).s) [] [] []))] _ _ (by simp(disch:=first|omega|assumption) only[zf,zd,za,zg,zc,zb,zj,ir33,resvs,resv,go_sem]) e1 ((KA.call (Yp hs hk0 _)).box hb4) ?_
    simp[tupOf,AV.strip,Z2,zcq,hw]
   | false =>
    simp(disch:=first|omega|assumption) only[g5,g4,n5s,n4s,go_sem]
    refine fin _ _ [.agg [.int .i64 3,.int .i64 0,.str (hdT t).s,.sl .nil 5 [],.sl .nil 6 []]] _ _ (by simp(disch:=first|omega|assumption) only[zf,zd,za,zg,zc,zb,zj,ir33,resvs,resv,go_sem]) e1 ((KA.call (Yp hs hk0 _)).box hb4) ?_
    simp[tupOf,AV.strip,AV.strip1,zcq,hw,cV,cVs,cMs]
  ·have hk4':((hdT t).k=4)=True:=eq_true (by omega)
   simp(disch:=first|omega|assumption) only[hk2,hk3,hk4',g5,gr',wrap64,n5s,n4s,go_sem]
   refine goK_pure (zho _ (by simp only[Lim];omega)) ?_
   cases hw:Zd (hdT t).s with
   | true =>
    simp(disch:=first|omega|assumption) only[go_sem]
    refine goK_pure (znA _) ?_
    simp(disch:=first|omega|assumption) only[zf,zd,za,zg,zc,zb,zj,g4,n4s,go_sem]
    refine fin _ _ [.agg (cV (.mk 2 (zer (hdT t).s) [] [] []))] _ _ (by simp(disch:=first|omega|assumption) only[zf,zd,za,zg,zc,zb,zj,ir33,resvs,resv,go_sem]) e1 ((KA.call (Yp hs hk0 _)).box hb4) ?_
    simp[tupOf,AV.strip,Z2,zcq,hw]
   | false =>
    simp(disch:=first|omega|assumption) only[g5,g4,n5s,n4s,go_sem]
    refine fin _ _ [.agg [.int .i64 3,.int .i64 0,.str (hdT t).s,.sl .nil 5 [],.sl .nil 6 []]] _ _ (by simp(disch:=first|omega|assumption) only[zf,zd,za,zg,zc,zb,zj,ir33,resvs,resv,go_sem]) e1 ((KA.call (Yp hs hk0 _)).box hb4) ?_
    simp[tupOf,AV.strip,AV.strip1,zcq,hw,cV,cVs,cMs]
 by_cases hk5:(hdT t).k=5
 ·have hk5':((hdT t).k=5)=True:=eq_true hk5
  have hk3:¬ ((hdT t).k=3):=by omega
  have hk4:¬ ((hdT t).k=4):=by omega
  have e1:yy fixed k t=.ok (.mk 4 0 (hdT t).s [] [],t.tail):=by rw[zY,Z8.eq_def,if_neg hk2,if_neg hk34,if_pos hk5]
  simp(disch:=first|omega|assumption) only[hk2,hk3,hk4,hk5',g5,gr',wrap64,n5s,n4s,go_sem]
  refine goK_pure (znv _) ?_
  simp(disch:=first|omega|assumption) only[zf,zd,za,zg,zc,zb,zj,g4,n4s,go_sem]
  exact fin _ _ [.agg (cV (.mk 4 0 (hdT t).s [] []))] _ _ (by simp(disch:=first|omega|assumption) only[zf,zd,za,zg,zc,zb,zj,ir33,resvs,resv,go_sem]) e1 ((KA.call (Yp hs (by rw[hk5];decide) _)).box hb4) (by simp[tupOf,AV.strip,Z2])
 have hk3:¬ ((hdT t).k=3):=fun e=>hk34 (.inl e)
 have hk4:¬ ((hdT t).k=4):=fun e=>hk34 (.inr e)
 have bad1:isP [91] t=true→k=0→yy fixed k t=.error 4:=fun hi h=>by
  subst h
  rw[zY,Z8.eq_def,if_neg hk2,if_neg hk34,if_neg hk5,if_pos hi];rfl
 have bad2:¬ (isP [91] t=true)→isP [123] t=true→k=0→yy fixed k t=.error 4:=fun h0 hi h=>by
  subst h
  rw[zY,Z8.eq_def,if_neg hk2,if_neg hk34,if_neg hk5,if_neg h0,if_pos hi];rfl
 simp(disch:=first|omega|assumption) only[hk2,hk3,hk4,hk5,g5,go_sem]
 refine goK_both (zkB (dp:=16-k) hs hll (by omega) gr [91]) (fun v H1 ⟨hv,hat,haf⟩=>?_) fun v H1 ⟨hi,h16,hv⟩=>pan v H1 4 hv (bad1 hi (by omega))
 subst hv
 cases hi:isP [91] t with
 | true =>
  obtain⟨hd16,ha1⟩:=hat hi
  obtain⟨n,rfl⟩:∃ n,k=n+1:=⟨k-1,by omega⟩
  rw[show 16-(n+1)+1=16-n by omega] at ha1
  have K1:=KA.call ha1
  have g41:H1 b4=some (.cells zB):=by rw[ha1.other n4s,g4]
  have hi0:isP [91] t=true:=hi
  have hi2:isP [91] t=true:=hi
  simp(disch:=first|omega|assumption) only[go_sem]
  refine goA_intro fun b8 hb8=>?_
  have hb8':=hb8
  have hb8H:H b8=none:=K1.none hb8
  have n8:=K1.ne hb8H
  have h84:b8≠b4:=fun e=>by subst e;rw[g41] at hb8;cases hb8
  have K2:KO H r L t.tail (16-n) (H1.upd b8 (.cells [.int .i64 6,.int .i64 0,.str [],.sl .nil 5 [],.sl .nil 6 []])) .nil 0 5:=⟨K1.box hb8H,rfl,nofun⟩
  obtain⟨R,hR⟩:∃ R,zA [93] (yy fixed n) (t.tail.length+1) [] t.tail=R:=⟨_,rfl⟩
  have hx:yy fixed (n+1) t=pb R fun l t=>.ok (Val.mk 6 0 [] l [],t):=by rw[← hR,zY,Z8.eq_def,if_neg hk2,if_neg hk34,if_neg hk5,if_pos hi2];rfl
  simp(disch:=first|omega|assumption) only[List.map_nil,go_sem]
  refine goL_st (fun x:Own×List Val×TS=>[]) (fun x H'=>KO H r L x.2.2 (16-n) H' x.1 x.2.1.length 5∧H' b8=some (.cells [.int .i64 6,.int .i64 0,.str [],.sl x.1 5 (cVs x.2.1),.sl .nil 6 []])∧H' b4=some (.cells zB)∧(∃ m,x.2.2.length<m∧zA [93] (yy fixed n) m x.2.1 x.2.2=R)∧x.2.1.length+x.2.2.length≤L.length) (fun x=>x.2.2.length) (.nil,[],t.tail) (by simp(disch:=first|omega|assumption) only[go_sem]) ⟨K2,upd_same ..,by rw[upd_ne (Ne.symm h84)];exact g41,⟨_,Nat.lt_succ_self _,hR⟩,by have:=K1.here;obtain⟨q,hq,_⟩:=this;rw[← hq];simp⟩ ?_
  rintro⟨o,l,u⟩ H3 J ⟨K3,g8,g4,⟨m,hm,hR3⟩,hlen⟩ hJ
  simp only at K3 g8 g4 hm hR3 hlen
  obtain⟨m,rfl⟩:∃ j,m=j+1:=⟨m-1,by omega⟩
  obtain⟨p3,hp3,hr3⟩:=K3.here
  have hcl:=ZZ l
  simp(disch:=first|omega|assumption) only[go_sem]
  refine goK_ret (zh8 hp3 hll (by omega) hr3 [93]) fun v H4 ⟨hv4,hat,haf⟩=>?_
  subst hv4
  cases hj:isP [93] u with
  | true =>
   have ha4:=hat hj
   have K4:=K3.call ha4
   rw[show 16-n-1=16-(n+1) by omega] at K4
   have g84:H4 b8=some (.cells [.int .i64 6,.int .i64 0,.str [],.sl o 5 (cVs l),.sl .nil 6 []]):=by rw[ha4.other (Ne.symm n8),g8]
   have g44:H4 b4=some (.cells zB):=by rw[ha4.other (Ne.symm n4),g4]
   simp only[zB] at g44
   have e1:R=.ok (l,u.tail):=by rw[← hR3,zA,hj];rfl
   simp(disch:=first|omega|assumption) only[g84,g44,Ne.symm h84,h84,go_sem]
   refine fin _ _ [.agg [.int .i64 6,.int .i64 0,.str [],.sl o 5 (cVs l),.sl .nil 6 []]] (Val.mk 6 0 [] l []) u.tail (by simp(disch:=first|omega|assumption) only[ir33,resvs,resv,go_sem]) (by rw[hx,e1];rfl) (K4.toKI.box hb4) ?_
   simp[tupOf,AV.strip,AV.strip1,cV,cVs,cMs,zji]
  | false =>
   have ha4:=haf hj
   have K4:=K3.call ha4
   obtain⟨p4,hp4,hr4⟩:=K4.here
   have g84:H4 b8=some (.cells [.int .i64 6,.int .i64 0,.str [],.sl o 5 (cVs l),.sl .nil 6 []]):=by rw[ha4.other (Ne.symm n8),g8]
   have g44:H4 b4=some (.cells zB):=by rw[ha4.other (Ne.symm n4),g4]
   rw[zA,hj] at hR3
   simp only[Al7,if_false] at hR3
   simp(disch:=first|omega|assumption) only[g84,go_sem]
   refine goK_both (ih n rfl _ r L p4 u hp4 hl hr4) (fun v H5 ⟨x,t5,e5,hv5,ha5⟩=>?_) fun v H5 ⟨n5,e5,hv5⟩=>pan v H5 n5 hv5 (by rw[hx,← hR3,e5];rfl)
   subst hv5
   rw[e5,zk] at hR3
   have hlt:=(Zs fixed n).lt (by decide) _ _ _ e5
   have K5:=K4.call ha5
   have g85:H5 b8=some (.cells [.int .i64 6,.int .i64 0,.str [],.sl o 5 (cVs l),.sl .nil 6 []]):=by rw[ha5.other (Ne.symm n8),g84]
   have g45:H5 b4=some (.cells zB):=by rw[ha5.other (Ne.symm n4),g44]
   simp(disch:=first|omega|assumption) only[zf,zd,za,zg,zc,zb,zj,g85,go_sem]
   refine goP_ownS (by rw[hcl];exact K5.own) (by simp only[hcl,Al2,Al3];simp only[zJ] at hll;omega) (by simp only[hcl,Al2,Al3,maxLen];simp only[zJ] at hll;omega) fun o6 H6 hs6=>?_
   have K6:=K5.app (by simpa[hcl] using hs6)
   have g86:=K5.stay hs6 g85
   have g46:=K5.stay hs6 g45
   simp(disch:=first|omega|assumption) only[zf,zd,za,zg,zc,zb,zj,g86,go_sem]
   refine goJ (hJ (o6,l++[x],t5) _ (by simp only;omega) ⟨by simpa using K6.box hb8H g86,by rw[upd_same];simp[zb0,Z2],by rw[upd_ne (Ne.symm h84)];exact g46,⟨m,by simp only;omega,hR3⟩,by simp only[Al5,Al2,Al3];omega⟩) (by simp(disch:=first|omega|assumption) only[go_sem])
 | false =>
  have ha1:=haf hi
  have K1:=KA.call ha1
  have g41:H1 b4=some (.cells zB):=by rw[ha1.other n4s,g4]
  obtain⟨p1,hp1,hr1⟩:=K1.here
  have hi0:¬ (isP [91] t=true):=by rw[hi];decide
  clear hat haf
  simp(disch:=first|omega|assumption) only[go_sem]
  refine goK_both (zkB (dp:=16-k) hp1 hll (by omega) hr1 [123]) (fun v H2 ⟨hv,hat,haf⟩=>?_) fun v H2 ⟨hi,h16,hv⟩=>pan v H2 4 hv (bad2 hi0 hi (by omega))
  subst hv
  cases hi:isP [123] t with
  | true =>
   obtain⟨hd16,ha2⟩:=hat hi
   obtain⟨n,rfl⟩:∃ n,k=n+1:=⟨k-1,by omega⟩
   rw[show 16-(n+1)+1=16-n by omega] at ha2
   have K1:=K1.call ha2
   have g41:H2 b4=some (.cells zB):=by rw[ha2.other n4s,g41]
   clear hat haf
   have hi2:isP [123] t=true:=hi
   simp(disch:=first|omega|assumption) only[go_sem]
   refine goA_intro fun b8 hb8=>?_
   have hb8':=hb8
   have hb8H:H b8=none:=K1.none hb8
   have n8:=K1.ne hb8H
   have h84:b8≠b4:=fun e=>by subst e;rw[g41] at hb8;cases hb8
   have K2:KO H r L t.tail (16-n) (H2.upd b8 (.cells [.int .i64 7,.int .i64 0,.str [],.sl .nil 5 [],.sl .nil 6 []])) .nil 0 6:=⟨K1.box hb8H,rfl,nofun⟩
   obtain⟨R,hR⟩:∃ R,zA [125] (zX (yy fixed n)) (t.tail.length+1) [] t.tail=R:=⟨_,rfl⟩
   have hx:yy fixed (n+1) t=pb R fun l t=>.ok (Val.mk 7 0 [] [] l,t):=by rw[← hR,zY,Z8.eq_def,if_neg hk2,if_neg hk34,if_neg hk5,if_neg hi0,if_pos hi2];rfl
   simp(disch:=first|omega|assumption) only[List.map_nil,go_sem]
   refine goL_st (fun x:Own×List Mem×TS=>[]) (fun x H'=>KO H r L x.2.2 (16-n) H' x.1 x.2.1.length 6∧H' b8=some (.cells [.int .i64 7,.int .i64 0,.str [],.sl .nil 5 [],.sl x.1 6 (cMs x.2.1)])∧H' b4=some (.cells zB)∧(∃ m,x.2.2.length<m∧zA [125] (zX (yy fixed n)) m x.2.1 x.2.2=R)∧x.2.1.length+x.2.2.length≤L.length) (fun x=>x.2.2.length) (.nil,[],t.tail) (by simp(disch:=first|omega|assumption) only[go_sem]) ⟨K2,upd_same ..,by rw[upd_ne (Ne.symm h84)];exact g41,⟨_,Nat.lt_succ_self _,hR⟩,by have:=K1.here;obtain⟨q,hq,_⟩:=this;rw[← hq];simp⟩ ?_
   rintro⟨o,l,u⟩ H3 J ⟨K3,g8,g4,⟨m,hm,hR3⟩,hlen⟩ hJ
   simp only at K3 g8 g4 hm hR3 hlen
   obtain⟨m,rfl⟩:∃ j,m=j+1:=⟨m-1,by omega⟩
   obtain⟨p3,hp3,hr3⟩:=K3.here
   have hcl:=Zj l
   simp(disch:=first|omega|assumption) only[go_sem]
   refine goK_ret (zh8 hp3 hll (by omega) hr3 [125]) fun v H4 ⟨hv4,hat,haf⟩=>?_
   subst hv4
   cases hj:isP [125] u with
   | true =>
    have ha4:=hat hj
    have K4:=K3.call ha4
    rw[show 16-n-1=16-(n+1) by omega] at K4
    have g84:H4 b8=some (.cells [.int .i64 7,.int .i64 0,.str [],.sl .nil 5 [],.sl o 6 (cMs l)]):=by rw[ha4.other (Ne.symm n8),g8]
    have g44:H4 b4=some (.cells zB):=by rw[ha4.other (Ne.symm n4),g4]
    simp only[zB] at g44
    have e1:R=.ok (l,u.tail):=by rw[← hR3,zA,hj];rfl
    simp(disch:=first|omega|assumption) only[g84,g44,Ne.symm h84,h84,go_sem]
    refine fin _ _ [.agg [.int .i64 7,.int .i64 0,.str [],.sl .nil 5 [],.sl o 6 (cMs l)]] (Val.mk 7 0 [] [] l) u.tail (by simp(disch:=first|omega|assumption) only[ir33,resvs,resv,go_sem]) (by rw[hx,e1];rfl) (K4.toKI.box hb4) ?_
    simp[tupOf,AV.strip,AV.strip1,cV,cVs,cMs,zet]
   | false =>
    have ha4:=haf hj
    have K4:=K3.call ha4
    obtain⟨p4,hp4,hr4⟩:=K4.here
    have g84:H4 b8=some (.cells [.int .i64 7,.int .i64 0,.str [],.sl .nil 5 [],.sl o 6 (cMs l)]):=by rw[ha4.other (Ne.symm n8),g8]
    have g44:H4 b4=some (.cells zB):=by rw[ha4.other (Ne.symm n4),g4]
    rw[zA,hj] at hR3
    simp only[Al7,if_false] at hR3
    simp(disch:=first|omega|assumption) only[g84,go_sem]
    refine goK_both (zdr (ih n rfl) hp4 hl hr4) (fun v H5 ⟨x,t5,e5,hv5,ha5⟩=>?_) fun v H5 ⟨n5,e5,hv5⟩=>pan v H5 n5 hv5 (by rw[hx,← hR3,e5];rfl)
    subst hv5
    rw[e5,zk] at hR3
    have hlt:=(y1 (Zs fixed n)).lt (by decide) _ _ _ e5
    have K5:=K4.call ha5
    have g85:H5 b8=some (.cells [.int .i64 7,.int .i64 0,.str [],.sl .nil 5 [],.sl o 6 (cMs l)]):=by rw[ha5.other (Ne.symm n8),g84]
    have g45:H5 b4=some (.cells zB):=by rw[ha5.other (Ne.symm n4),g44]
    simp(disch:=first|omega|assumption) only[zf,zd,za,zg,zc,zb,zj,g85,go_sem]
    refine goP_ownS (by rw[hcl];exact K5.own) (by simp only[hcl,Al2,Al3];simp only[zJ] at hll;omega) (by simp only[hcl,Al2,Al3,maxLen];simp only[zJ] at hll;omega) fun o6 H6 hs6=>?_
    have K6:=K5.app (by simpa[hcl] using hs6)
    have g86:=K5.stay hs6 g85
    have g46:=K5.stay hs6 g45
    simp(disch:=first|omega|assumption) only[zf,zd,za,zg,zc,zb,zj,g86,go_sem]
    refine goJ (hJ (o6,l++[x],t5) _ (by simp only;omega) ⟨by simpa using K6.box hb8H g86,by rw[upd_same];simp[za7,zce],by rw[upd_ne (Ne.symm h84)];exact g46,⟨m,by simp only;omega,hR3⟩,by simp only[Al5,Al2,Al3];omega⟩) (by simp(disch:=first|omega|assumption) only[go_sem])
  | false =>
   have ha2:=haf hi
   have K2:=K1.call ha2
   have g42:H2 b4=some (.cells zB):=by rw[ha2.other n4s,g41]
   obtain⟨p2,hp2,hr2⟩:=K2.here
   have hi1:¬ (isP [123] t=true):=by rw[hi];decide
   cases hfx:fixed with
   | true =>
    subst hfx
    simp(disch:=first|omega|assumption) only[go_sem]
    exact goK_both (zaX _ r 2) (fun _ _ h=>h.elim) fun v H3 h=>pan v H3 2 h (by rw[zY,Z8.eq_def,if_neg hk2,if_neg hk34,if_neg hk5,if_neg hi0,if_neg hi1];rfl)
   | false =>
    subst hfx
    have hx:yy false k t=pb (yp [36] t) fun _ t=>pb (zZ t) fun s t=>.ok (.mk 8 0 s [] [],t):=by rw[zY,Z8.eq_def,if_neg hk2,if_neg hk34,if_neg hk5,if_neg hi0,if_neg hi1];rfl
    simp(disch:=first|omega|assumption) only[go_sem]
    refine goK_both (zft (dp:=16-k) hp2 hll hr2 [36]) (fun v H3 ⟨_,t3,e3,hv3,ha3⟩=>?_) fun v H3 ⟨n,e3,hv3⟩=>pan v H3 n hv3 (by rw[hx,e3];rfl)
    subst hv3
    have K3:=K2.call ha3
    obtain⟨p3,hp3,hr3⟩:=K3.here
    have g43:H3 b4=some (.cells zB):=by rw[ha3.other n4s,g42]
    simp(disch:=first|omega|assumption) only[go_sem]
    refine goK_both (zd5 (dp:=16-k) hp3 hll hr3) (fun v H4 ⟨s,t4,e4,hv4,ha4⟩=>?_) fun v H4 ⟨n,e4,hv4⟩=>pan v H4 n hv4 (by rw[hx,e3,zk,e4];rfl)
    subst hv4
    have K4:=K3.call ha4
    have g44:H4 b4=some (.cells zB):=by rw[ha4.other n4s,g43]
    simp only[zB] at g44
    simp(disch:=first|omega|assumption) only[g44,go_sem]
    exact fin _ _ [.agg [.int .i64 8,.int .i64 0,.str s,.sl .nil 5 [],.sl .nil 6 []]] (.mk 8 0 s [] []) t4 (by simp(disch:=first|omega|assumption) only[ir33,resvs,resv,go_sem]) (by rw[hx,e3,zk,e4];rfl) (K4.box hb4) rfl
theorem zcm (fixed:Bool):∀ k,k≤16→ziP fixed k
 | 0,h=>zh5 fixed 0 h fun n e=>by cases e
 | k+1,h=>zh5 fixed (k+1) h fun n e=>by cases e;exact zcm fixed k (by omega)
theorem zaf {p t L:TS} (h:p++t=L):t.length≤L.length:=by rw[← h];simp
theorem zhF (l:List DirD):cDs l=l.map cD:=rfl
theorem zmV {fixed:Bool} {k:Nat} (hk:k≤16) {H:Heap} {r:Nat} {L p t:TS} (hs:p++t=L) (hl:wT L≤zJ) (hr:H r=some (prc L p (16-k))) :
  ACalls Tryz.prog 233 [.ptr r 0,.bool fixed] H (RpE H r L (16-k) (Z9 fixed k t) (fun l=>.sl .no 6 (cMs l))):=by
 refine yz (ACalls.goO (R:=fun v H'=>zbm H r L (16-k) (Z9 fixed k t) (fun l=>.sl .no 6 (cMs l)) v.strip H') (RP:=fun v H'=>zbF (Z9 fixed k t) v H') ir233 ck233 (Al4 _) fun KP Q hQ hP=>?_)
 have hll:L.length≤zJ:=Nat.le_trans (zdM L) hl
 have hll2:=hll
 simp only[zJ] at hll2
 have pan:∀(v:AV) (H1:Heap) (n:Int),v=yh n→(Z9 fixed k t)=.error n→KP v H1:=fun v H1 n h1 h2=>hP v H1 H1 (Low.refl _) ⟨n,h2,h1⟩
 have fin:=KI.done hQ
 have K0:=KI.start hs hr
 have hv:=zcm fixed k hk
 simp(disch:=first|omega|assumption) only[ir233,go_sem]
 refine goK_ret (zbq (dp:=16-k) hs hll hr [40]) fun v H1 ⟨hv1,ha1⟩=>?_
 subst hv1
 cases hi:isP [40] t with
 | false =>
  rw[Zg,hi] at ha1
  simp(disch:=first|omega|assumption) only[go_sem]
  exact fin _ _ [.sl .nil 6 []] [] t (by simp(disch:=first|omega|assumption) only[ir233,resvs,resv,go_sem]) (by unfold Z9;rw[hi];rfl) (K0.call (by simpa using ha1)) (by simp[tupOf,AV.strip,AV.strip1,cMs])
 | true =>
  rw[Zg,hi,if_pos rfl] at ha1
  have K1:=K0.call ha1
  obtain⟨p1,hp1,hr1⟩:=K1.here
  have hx:Z9 fixed k t=pb (zX (yy fixed k) t.tail) fun x t=>zA [41] (zX (yy fixed k)) (t.length+1) [x] t:=by
   unfold Z9;rw[hi]
   rfl
  simp(disch:=first|omega|assumption) only[go_sem]
  refine goK_both (zdr hv hp1 hl hr1) (fun v H2 ⟨x1,t2,e2,hv2,ha2⟩=>?_) fun v H2 ⟨n,e2,hv2⟩=>pan v H2 n hv2 (by rw[hx,e2];rfl)
  subst hv2
  have K2:=K1.call ha2
  have hlt1:=(y1 (Zs fixed k)).lt (by decide) _ _ _ e2
  have hsl:=zaf hp1
  rw[e2,zk] at hx
  obtain⟨R,hR⟩:∃ R,zA [41] (zX (yy fixed k)) (t2.length+1) [x1] t2=R:=⟨_,rfl⟩
  rw[hR] at hx
  simp(disch:=first|omega|assumption) only[zf,zd,za,zg,zc,zb,zj,go_sem]
  refine goL_st (fun x:Own×List Mem×TS=>[(5,.sl x.1 6 (cMs x.2.1))]) (fun x H'=>KO H r L x.2.2 (16-k) H' x.1 x.2.1.length 6∧(∃ m,x.2.2.length<m∧zA [41] (zX (yy fixed k)) m x.2.1 x.2.2=R)∧x.2.1.length+x.2.2.length≤L.length) (fun x=>x.2.2.length) (.full,[x1],t2) (by simp(disch:=first|omega|assumption) only[zf,zd,za,zg,zc,zb,zj,cMs,zce,go_sem]) ⟨⟨K2,Owned.full _ _ _,nofun⟩,⟨_,Nat.lt_succ_self _,hR⟩,by simp only[List.length_singleton];omega⟩ ?_
  rintro⟨o,l,u⟩ H3 J ⟨K3,⟨m,hm,hR3⟩,hlen⟩ hJ
  simp only at K3 hm hR3 hlen
  obtain⟨m,rfl⟩:∃ j,m=j+1:=⟨m-1,by omega⟩
  obtain⟨p3,hp3,hr3⟩:=K3.here
  have hcl:=Zj l
  simp(disch:=first|omega|assumption) only[go_sem]
  refine goK_ret (zbq (dp:=16-k) hp3 hll hr3 [41]) fun v H4 ⟨hv4,ha4⟩=>?_
  subst hv4
  cases hj:isP [41] u with
  | true =>
   rw[Zg,hj,if_pos rfl] at ha4
   have e1:R=.ok (l,u.tail):=by rw[← hR3,zA,hj];rfl
   simp(disch:=first|omega|assumption) only[go_sem]
   refine fin _ _ [.sl o 6 (cMs l)] l u.tail (by simp(disch:=first|omega|assumption) only[ir233,resvs,resv,go_sem]) (by rw[hx,e1]) (K3.toKI.call ha4) ?_
   simp[tupOf,AV.strip,AV.strip1,zet]
  | false =>
   rw[Zg,hj] at ha4
   have K4:=K3.call (by simpa using ha4)
   obtain⟨p4,hp4,hr4⟩:=K4.here
   rw[zA,hj] at hR3
   simp only[Al7,if_false] at hR3
   simp(disch:=first|omega|assumption) only[go_sem]
   refine goK_both (zdr hv hp4 hl hr4) (fun v H5 ⟨x,t5,e5,hv5,ha5⟩=>?_) fun v H5 ⟨n5,e5,hv5⟩=>pan v H5 n5 hv5 (by rw[hx,← hR3,e5];rfl)
   subst hv5
   rw[e5,zk] at hR3
   have hlt:=(y1 (Zs fixed k)).lt (by decide) _ _ _ e5
   have K5:=K4.call ha5
   simp(disch:=first|omega|assumption) only[zf,zd,za,zg,zc,zb,zj,go_sem]
   refine goP_ownS (by rw[hcl];exact K5.own) (by simp only[hcl,Al2,Al3];omega) (by simp only[hcl,Al2,Al3,maxLen];omega) fun o6 H6 hs6=>?_
   have K6:=K5.app (by simpa[hcl] using hs6)
   simp(disch:=first|omega|assumption) only[zf,zd,za,zg,zc,zb,zj,go_sem]
   refine goJ (hJ (o6,l++[x],t5) _ (by simp only;omega) ⟨by simpa using K6,⟨m,by simp only;omega,hR3⟩,by simp only[Al5,Al2,Al3];omega⟩) (by simp(disch:=first|omega|assumption) only[za7,List.map_append,List.map_cons,List.map_nil,zce,go_sem])
theorem zmM {fixed:Bool} {k:Nat} (hk:k≤16) {H:Heap} {r:Nat} {L p t:TS} (hs:p++t=L) (hl:wT L≤zJ) (hr:H r=some (prc L p (16-k))) :
  ACalls Tryz.prog 196 [.ptr r 0,.bool fixed] H (RpE H r L (16-k) (zaA fixed k t) (fun l=>.sl .no 2 (cDs l))):=by
 refine yz (ACalls.goO (R:=fun v H'=>zbm H r L (16-k) (zaA fixed k t) (fun l=>.sl .no 2 (cDs l)) v.strip H') (RP:=fun v H'=>zbF (zaA fixed k t) v H') ir196 ck196 (Al4 _) fun KP Q hQ hP=>?_)
 have hll:L.length≤zJ:=Nat.le_trans (zdM L) hl
 have hll2:=hll
 simp only[zJ] at hll2
 have pan:∀(v:AV) (H1:Heap) (n:Int),v=yh n→(zaA fixed k t)=.error n→KP v H1:=fun v H1 n h1 h2=>hP v H1 H1 (Low.refl _) ⟨n,h2,h1⟩
 have fin:=KI.done hQ
 have K0:=KI.start hs hr
 obtain⟨R,hR⟩:∃ R,yd [64] (zcv fixed k) (t.length+1) [] t=R:=⟨_,rfl⟩
 have hx:zaA fixed k t=R:=hR
 have hsl:=zaf hs
 simp(disch:=first|omega|assumption) only[ir196,go_sem]
 refine goL_st (fun x:Own×List DirD×TS=>[(5,.sl x.1 2 (cDs x.2.1))]) (fun x H'=>KO H r L x.2.2 (16-k) H' x.1 x.2.1.length 2∧(∃ m,x.2.2.length<m∧yd [64] (zcv fixed k) m x.2.1 x.2.2=R)∧x.2.1.length+x.2.2.length≤L.length) (fun x=>x.2.2.length) (.nil,[],t) (by simp(disch:=first|omega|assumption) only[zhF,List.map_nil,go_sem]) ⟨⟨K0,rfl,nofun⟩,⟨_,Nat.lt_succ_self _,hR⟩,by simp only[Al3];omega⟩ ?_
 rintro⟨o,l,u⟩ H3 J ⟨K3,⟨m,hm,hR3⟩,hlen⟩ hJ
 simp only at K3 hm hR3 hlen
 obtain⟨m,rfl⟩:∃ j,m=j+1:=⟨m-1,by omega⟩
 obtain⟨p3,hp3,hr3⟩:=K3.here
 have hcl:=zc6 l
 simp(disch:=first|omega|assumption) only[go_sem]
 refine goK_ret (zbq (dp:=16-k) hp3 hll hr3 [64]) fun v H4 ⟨hv4,ha4⟩=>?_
 subst hv4
 cases hj:isP [64] u with
 | false =>
  rw[Zg,hj] at ha4
  have e1:R=.ok (l,u):=by rw[← hR3,yd,hj];rfl
  simp(disch:=first|omega|assumption) only[go_sem]
  refine fin _ _ [.sl o 2 (cDs l)] l u (by simp(disch:=first|omega|assumption) only[ir196,resvs,resv,go_sem]) (by rw[hx,e1]) (K3.toKI.call (by simpa using ha4)) ?_
  simp[tupOf,AV.strip,AV.strip1,zhF,zjZ]
 | true =>
  rw[Zg,hj,if_pos rfl] at ha4
  have hlt0:=zdb hj
  have K4:=K3.call ha4
  obtain⟨p4,hp4,hr4⟩:=K4.here
  rw[yd,hj,if_pos rfl] at hR3
  simp(disch:=first|omega|assumption) only[go_sem]
  refine goK_both (zd5 (dp:=16-k) hp4 hll hr4) (fun v H5 ⟨nm,t5,e5,hv5,ha5⟩=>?_) fun v H5 ⟨n5,e5,hv5⟩=>pan v H5 n5 hv5 (by rw[hx,← hR3,zcv,e5];rfl)
  subst hv5
  have K5:=K4.call ha5
  obtain⟨p5,hp5,hr5⟩:=K5.here
  simp(disch:=first|omega|assumption) only[go_sem]
  refine goK_both (zmV hk hp5 hl hr5) (fun v H6 ⟨a,t6,e6,hv6,ha6⟩=>?_) fun v H6 ⟨n6,e6,hv6⟩=>pan v H6 n6 hv6 (by rw[hx,← hR3,zcv,e5,zk,e6];rfl)
  subst hv6
  have K6:=K5.call ha6
  have e7:zcv fixed k u.tail=.ok (⟨nm,a⟩,t6):=by rw[zcv,e5,zk,e6];rfl
  rw[e7,zk] at hR3
  have hlt:=(zdc fixed k).lt (by decide) _ _ _ e7
  simp(disch:=first|omega|assumption) only[zf,zd,za,zg,zc,zb,zj,go_sem]
  refine goP_ownS (by rw[hcl];exact K6.own) (by simp only[hcl,Al2,Al3];omega) (by simp only[hcl,Al2,Al3,maxLen];omega) fun o7 H7 hs7=>?_
  have K7:=K6.app (by simpa[hcl] using hs7)
  simp(disch:=first|omega|assumption) only[zf,zd,za,zg,zc,zb,zj,go_sem]
  refine goJ (hJ (o7,l++[⟨nm,a⟩],t6) _ (by simp only;omega) ⟨by simpa using K7,⟨m,by simp only;omega,hR3⟩,by simp only[Al5,Al2,Al3];omega⟩) (by simp(disch:=first|omega|assumption) only[zhF,cD,List.map_append,List.map_cons,List.map_nil,go_sem])
def Yi (i:Nat) (m:Int) (t:TS):Int×TS:=if isP [33] t then (m+2 ^ i,t.tail) else (m,t)
def zbC (n i:Nat) (t:TS):PR Unit:=if i<n then yp [93] t else .ok ((),t)
def tyL (n:Nat):Nat→Int→TS→PR Int
 | 0,m,t=>pb (zbC n 0 t) fun _ t=>.ok (Yi 0 m t)
 | i+1,m,t=>pb (zbC n (i+1) t) fun _ t=>tyL n i (Yi (i+1) m t).1 (Yi (i+1) m t).2
theorem zkd (n i:Nat) (t:TS):zbC (n+1) (i+1) t=zbC n i t:=by
 unfold zbC
 by_cases h:i<n
 ·rw[if_pos h,if_pos (by omega)]
 ·rw[if_neg h,if_neg (by omega)]
theorem zk7 (i:Nat) (m:Int) (t:TS):Yi (i+1) (m*2) t=((Yi i m t).1*2,(Yi i m t).2):=by
 unfold Yi
 split
 ·simp only[Al8,and_true];rw[Int.pow_succ];omega
 ·rfl
theorem zma (n:Nat):∀(i:Nat) (m:Int) (t:TS),tyL (n+1) (i+1) (m*2) t=pb (tyL n i m t) fun m t=>pb (yp [93] t) fun _ t=>.ok (Yi 0 (m*2) t)
 | 0,m,t=>by
  have e:∀(m:Int) (t:TS),tyL (n+1) 0 m t=pb (yp [93] t) fun _ t=>.ok (Yi 0 m t):=fun m t=>by rw[tyL,zbC,if_pos (Nat.succ_pos n)]
  have e1:tyL (n+1) (0+1) (m*2) t=pb (zbC n 0 t) fun _ t=>tyL (n+1) 0 (Yi (0+1) (m*2) t).1 (Yi (0+1) (m*2) t).2:=by conv=>lhs;rw[tyL,zkd]
  have e2:tyL n 0 m t=pb (zbC n 0 t) fun _ t=>.ok (Yi 0 m t):=by rw[tyL]
  rw[e1,e2]
  rcases zbC n 0 t with x|⟨_,t1⟩
  ·rfl
  ·simp only[zk]
   rw[zk7,e]
   rfl
 | i+1,m,t=>by
  have e1:tyL (n+1) (i+1+1) (m*2) t=pb (zbC n (i+1) t) fun _ t=>tyL (n+1) (i+1) (Yi (i+1+1) (m*2) t).1 (Yi (i+1+1) (m*2) t).2:=by conv=>lhs;rw[tyL,zkd]
  have e2:tyL n (i+1) m t=pb (zbC n (i+1) t) fun _ t=>tyL n i (Yi (i+1) m t).1 (Yi (i+1) m t).2:=by rw[tyL]
  rw[e1,e2]
  rcases zbC n (i+1) t with x|⟨_,t1⟩
  ·rfl
  ·simp only[zk]
   rw[zk7,zma n i]
theorem zff:∀(n k:Nat) (u:TS),n≤k→isP [91] u=false→YS k (List.replicate n (pk [91])++u)=pb (zZ u) fun s t=>pb (tyL n n 0 t) fun m t=>.ok (⟨s,n,m⟩,t)
 | 0,k,u,_,hu=>by
  rw[List.replicate_zero,yR,ZC,zb7.eq_def,hu]
  simp only[Al7,if_false]
  rcases zZ u with x|⟨s,t⟩
  ·rfl
  ·simp only[zk,tyL,zbC,Nat.lt_irrefl,if_false]
   unfold YZ Yi
   cases isP [33] t<;>simp[pb]
 | n+1,0,u,h,_=>by omega
 | n+1,k+1,u,h,hu=>by
  rw[List.replicate_succ,Al6,ZC,zb7.eq_def,yj,zfQ]
  simp only[decide_true,if_true,List.tail_cons]
  rw[zff n k u (by omega) hu]
  rcases zZ u with x|⟨s,t⟩
  ·rfl
  ·simp only[zk]
   have e:=zma n n 0 t
   rw[Int.zero_mul] at e
   rw[e]
   rcases tyL n n 0 t with x|⟨m,t1⟩
   ·rfl
   ·simp only[zk]
    rcases yp [93] t1 with x|⟨_,t2⟩
    ·rfl
    ·simp only[zk]
     unfold YZ Yi
     cases isP [33] t2<;>simp[pb]
def tyN (n:Nat):Nat→Int→TS→PR Int
 | 0,m,t=>.ok (m,t)
 | i+1,m,t=>tyL n i m t
theorem zmy (n i:Nat) (m:Int) (t:TS):tyL n i m t=pb (zbC n i t) fun _ t=>tyN n i (Yi i m t).1 (Yi i m t).2:=by cases i<;>rfl
theorem zeP:∀(k:Nat) (u:TS),isP [91] u=true→YS k (List.replicate k (pk [91])++u)=.error 4
 | 0,u,hu=>by rw[List.replicate_zero,yR,ZC,zb7.eq_def,hu];rfl
 | k+1,u,hu=>by
  rw[List.replicate_succ,Al6,ZC,zb7.eq_def,yj,zfQ]
  simp only[decide_true,if_true,List.tail_cons]
  rw[zeP k u hu];rfl
theorem zni {m:List UInt8} {t:TS} (h:isP m t=true):t=pk m::t.tail:=by
 have h2:=zcZ (zdD h)
 simp only[isP,Al0,zn] at h
 rw[h2]
 congr 1
 cases hx:hdT t with|mk k s=>rw[hx] at h;simp only at h;rw[h.1,h.2];rfl
theorem zkP (n:Nat) (x:Tok) (u:TS):List.replicate n x++x::u=List.replicate (n+1) x++u:=by
 rw[List.replicate_succ',ZF];rfl
theorem znu:∀ i:Fin 5,∀ m:Fin 32,m.val % 2 ^ (i.val+1)=0→IntKind.wrap .i64 ((BitVec.ofInt IntKind.i64.bits ((m.val:Nat):Int) ||| BitVec.ofInt IntKind.i64.bits (((2 ^ i.val:Nat)):Int)).toNat:Int)=((m.val+2 ^ i.val:Nat):Int):=by decide +kernel
theorem znC:∀ i:Fin 5,IntKind.wrap .i64 (1*2 ^ min i.val IntKind.i64.bits)=((2 ^ i.val:Nat):Int):=by decide +kernel
theorem zmj:∀ i:Fin 5,∀ m:Fin 32,m.val % 2 ^ (i.val+1)=0→m.val+2 ^ i.val<32∧(m.val+2 ^ i.val) % 2 ^ i.val=0:=by decide +kernel
abbrev zT:List AV:=[.str [],.int .i64 0,.int .i64 0]
theorem zmJ {H:Heap} {r:Nat} {L p t:TS} {dp:Nat} (hs:p++t=L) (hl:wT L≤zJ) (hr:H r=some (prc L p dp)) :
  ACalls Tryz.prog 38 [.ptr r 0] H (RpE H r L dp (YS 4 t) (fun x=>.agg (cTy x))):=by
 refine yz (ACalls.goO (R:=fun v H'=>zbm H r L dp (YS 4 t) (fun x=>.agg (cTy x)) v.strip H') (RP:=fun v H'=>zbF (YS 4 t) v H') ir38 ck38 (Al4 _) fun KP Q hQ hP=>?_)
 have hll:L.length≤zJ:=Nat.le_trans (zdM L) hl
 have hll2:=hll
 simp only[zJ] at hll2
 have pan:∀(v:AV) (H1:Heap) (n:Int),v=yh n→YS 4 t=.error n→KP v H1:=fun v H1 n h1 h2=>hP v H1 H1 (Low.refl _) ⟨n,h2,h1⟩
 have fin:=KI.done hQ
 have K0:=KI.start hs hr
 simp(disch:=first|omega|assumption) only[ir38,steps,st2,pev,rev,oev,optr,ibin,sbin,ishf,bound,mmAll,mm2,mk,mkArgs,AV.cells,AV.boxable,AV.one,AV.strip1,fillA,fillS,Nat.reduceEqDiff,reduceCtorEq,↓reduceIte,Nat.reduceAdd,Int.reduceNeg,Nat.reduceLeDiff,Int.reduceToNat,Int.reduceEq,Int.reduceLT,Int.reduceLE,Int.reduceAdd,Io,Im,If,Il,Jt,Jf,AC.rg,Jm,Jl,Ja,Fm,Fl,Fa,Imv,Imb,Iai,Iei,Igi,Isi,Ipf,Ipt,Ilb,Iia,Ilt,Iap,Ink,Iln,Ils,Iad,Iex,Ibx,Ing]
 refine goA_intro fun b2 hb2=>?_
 have n2:=K0.ne hb2
 have n2s:=Ne.symm n2
 have K1:=K0.box (x:=.cells zT) hb2
 simp(disch:=first|omega|assumption) only[steps,st2,pev,rev,oev,optr,ibin,sbin,ishf,bound,mmAll,mm2,mk,mkArgs,AV.cells,AV.boxable,AV.one,AV.strip1,fillA,fillS,Nat.reduceEqDiff,reduceCtorEq,↓reduceIte,Nat.reduceAdd,Int.reduceNeg,Nat.reduceLeDiff,Int.reduceToNat,Int.reduceEq,Int.reduceLT,Int.reduceLE,Int.reduceAdd]
 refine goL_st (fun x:Nat×TS=>[(3,.int .i64 (x.1:Int))]) (fun x H'=>KI H r L x.2 dp H'∧H' b2=some (.cells zT)∧x.1≤4∧t=List.replicate x.1 (pk [91])++x.2) (fun x=>x.2.length) (0,t) (by simp(disch:=first|omega|assumption) only[steps,st2,pev,rev,oev,optr,ibin,sbin,ishf,bound,mmAll,mm2,mk,mkArgs,AV.cells,AV.boxable,AV.one,AV.strip1,fillA,fillS,Nat.reduceEqDiff,reduceCtorEq,↓reduceIte,Nat.reduceAdd,Int.reduceNeg,Nat.reduceLeDiff,Int.reduceToNat,Int.reduceEq,Int.reduceLT,Int.reduceLE,Int.reduceAdd]) ⟨K1,upd_same ..,Nat.zero_le _,rfl⟩ ?_
 rintro⟨n,u⟩ H1 J ⟨K2,g2,hn4,htu⟩ hJ
 simp only at K2 g2 hn4 htu
 obtain⟨p2,hp2,hr2⟩:=K2.here
 have hpl2:p2.length+u.length=L.length:=by rw[← hp2];simp
 have hr2':=hr2
 simp only[prc] at hr2'
 simp(disch:=first|omega|assumption) only[steps,st2,pev,rev,oev,optr,ibin,sbin,ishf,bound,mmAll,mm2,mk,mkArgs,AV.cells,AV.boxable,AV.one,AV.strip1,fillA,fillS,Nat.reduceEqDiff,reduceCtorEq,↓reduceIte,Nat.reduceAdd,Int.reduceNeg,Nat.reduceLeDiff,Int.reduceToNat,Int.reduceEq,Int.reduceLT,Int.reduceLE,Int.reduceAdd]
 refine goK_ret (zmz hp2 hr2 [91]) fun v H2 ⟨hv2,hH⟩=>?_
 subst hv2;subst hH
 cases hi:isP [91] u with
 | true =>
  by_cases h4:n=4
  ·have h4':((n:Int)=4)=True:=eq_true (by omega)
   simp(disch:=first|omega|assumption) only[h4',steps,st2,pev,rev,oev,optr,ibin,sbin,ishf,bound,mmAll,mm2,mk,mkArgs,AV.cells,AV.boxable,AV.one,AV.strip1,fillA,fillS,Nat.reduceEqDiff,reduceCtorEq,↓reduceIte,Nat.reduceAdd,Int.reduceNeg,Nat.reduceLeDiff,Int.reduceToNat,Int.reduceEq,Int.reduceLT,Int.reduceLE,Int.reduceAdd]
   exact goK_both (zaX _ r 4) (fun _ _ h=>h.elim) fun v H3 h=>pan v H3 4 h (by rw[htu,h4];exact zeP 4 u hi)
  ·have h4':¬ ((n:Int)=4):=by omega
   have hlt:=zdb hi
   simp(disch:=first|omega|assumption) only[h4',hr2',wrap64,steps,st2,pev,rev,oev,optr,ibin,sbin,ishf,bound,mmAll,mm2,mk,mkArgs,AV.cells,AV.boxable,AV.one,AV.strip1,fillA,fillS,Nat.reduceEqDiff,reduceCtorEq,↓reduceIte,Nat.reduceAdd,Int.reduceNeg,Nat.reduceLeDiff,Int.reduceToNat,Int.reduceEq,Int.reduceLT,Int.reduceLE,Int.reduceAdd]
   refine goJ (hJ (n+1,u.tail) _ hlt ⟨K2.call (Yp hp2 (zdD hi) _),by rw[upd_ne n2s];exact g2,by simp only;omega,?_⟩) (by simp(disch:=first|omega|assumption) only[Int.natCast_add,steps,st2,pev,rev,oev,optr,ibin,sbin,ishf,bound,mmAll,mm2,mk,mkArgs,AV.cells,AV.boxable,AV.one,AV.strip1,fillA,fillS,Nat.reduceEqDiff,reduceCtorEq,↓reduceIte,Nat.reduceAdd,Int.reduceNeg,Nat.reduceLeDiff,Int.reduceToNat,Int.reduceEq,Int.reduceLT,Int.reduceLE,Int.reduceAdd])
   simp only
   rw[← zkP,← zni hi];exact htu
 | false =>
  have hx:YS 4 t=pb (zZ u) fun s t=>pb (tyL n n 0 t) fun m t=>.ok (⟨s,n,m⟩,t):=by rw[htu];exact zff n 4 u hn4 hi
  simp(disch:=first|omega|assumption) only[steps,st2,pev,rev,oev,optr,ibin,sbin,ishf,bound,mmAll,mm2,mk,mkArgs,AV.cells,AV.boxable,AV.one,AV.strip1,fillA,fillS,Nat.reduceEqDiff,reduceCtorEq,↓reduceIte,Nat.reduceAdd,Int.reduceNeg,Nat.reduceLeDiff,Int.reduceToNat,Int.reduceEq,Int.reduceLT,Int.reduceLE,Int.reduceAdd]
  refine goK_both (zd5 hp2 hll hr2) (fun v H3 ⟨s,t3,e3,hv3,ha3⟩=>?_) fun v H3 ⟨n3,e3,hv3⟩=>pan v H3 n3 hv3 (by rw[hx,e3];rfl)
  subst hv3
  rw[e3,zk] at hx
  have K3:=K2.call ha3
  have g32:H3 b2=some (.cells zT):=by rw[ha3.other n2s,g2]
  simp(disch:=first|omega|assumption) only[steps,st2,pev,rev,oev,optr,ibin,sbin,ishf,bound,mmAll,mm2,mk,mkArgs,AV.cells,AV.boxable,AV.one,AV.strip1,fillA,fillS,Nat.reduceEqDiff,reduceCtorEq,↓reduceIte,Nat.reduceAdd,Int.reduceNeg,Nat.reduceLeDiff,Int.reduceToNat,Int.reduceEq,Int.reduceLT,Int.reduceLE,Int.reduceAdd]
  refine goA_intro fun b4 hb4=>?_
  have h42:b4≠b2:=fun e=>by subst e;rw[g32] at hb4;cases hb4
  have hb4H:H b4=none:=K3.none hb4
  have n4:=K0.ne hb4H
  have n4s:=Ne.symm n4
  have K4:=K3.box (x:=.cells [.str s,.int .i64 (n:Int),.int .i64 0]) hb4H
  obtain⟨R,hR⟩:∃ R,tyL n n 0 t3=R:=⟨_,rfl⟩
  rw[hR] at hx
  simp(disch:=first|omega|assumption) only[steps,st2,pev,rev,oev,optr,ibin,sbin,ishf,bound,mmAll,mm2,mk,mkArgs,AV.cells,AV.boxable,AV.one,AV.strip1,fillA,fillS,Nat.reduceEqDiff,reduceCtorEq,↓reduceIte,Nat.reduceAdd,Int.reduceNeg,Nat.reduceLeDiff,Int.reduceToNat,Int.reduceEq,Int.reduceLT,Int.reduceLE,Int.reduceAdd]
  have hj0:((n:Int):Int)=(((n+1:Nat):Int)-1):=by omega
  refine goL_st (fun x:Nat×Nat×TS=>[(5,.int .i64 ((x.1:Int)-1))]) (fun x H'=>KI H r L x.2.2 dp H'∧H' b2=some (.cells zT)∧H' b4=some (.cells [.str s,.int .i64 (n:Int),.int .i64 (x.2.1:Int)])∧x.1≤n+1∧x.2.1<32∧x.2.1 % 2 ^ x.1=0∧tyN n x.1 (x.2.1:Int) x.2.2=R) (fun x=>x.1) (n+1,0,t3) (by rw[← hj0];simp(disch:=first|omega|assumption) only[steps,st2,pev,rev,oev,optr,ibin,sbin,ishf,bound,mmAll,mm2,mk,mkArgs,AV.cells,AV.boxable,AV.one,AV.strip1,fillA,fillS,Nat.reduceEqDiff,reduceCtorEq,↓reduceIte,Nat.reduceAdd,Int.reduceNeg,Nat.reduceLeDiff,Int.reduceToNat,Int.reduceEq,Int.reduceLT,Int.reduceLE,Int.reduceAdd]) ⟨K4,by rw[upd_ne (Ne.symm h42)];exact g32,upd_same ..,Al4 _,by show 0<32;decide,Nat.zero_mod _,hR⟩ ?_
  rintro⟨j,m,u5⟩ H5 J5 ⟨K5,g52,g54,hj,hm,hmd,he⟩ hJ5
  simp only at K5 g52 g54 hj hm hmd he
  obtain⟨p5,hp5,hr5⟩:=K5.here
  cases j with
  | zero =>
   have hneg:¬ ((0:Int)≤-1):=by decide
   have hz1:(0:Int)-1=-1:=rfl
   have e1:R=.ok ((m:Int),u5):=he.symm
   simp only[zT] at g52
   simp(disch:=first|omega|assumption) only[hz1,hneg,g52,g54,h42,Ne.symm h42,steps,st2,pev,rev,oev,optr,ibin,sbin,ishf,bound,mmAll,mm2,mk,mkArgs,AV.cells,AV.boxable,AV.one,AV.strip1,fillA,fillS,Nat.reduceEqDiff,reduceCtorEq,↓reduceIte,Nat.reduceAdd,Int.reduceNeg,Nat.reduceLeDiff,Int.reduceToNat,Int.reduceEq,Int.reduceLT,Int.reduceLE,Int.reduceAdd]
   exact fin _ _ [.agg [.str s,.int .i64 (n:Int),.int .i64 (m:Int)]] ⟨s,n,m⟩ u5 (by simp(disch:=first|omega|assumption) only[ir38,resvs,resv,steps,st2,pev,rev,oev,optr,ibin,sbin,ishf,bound,mmAll,mm2,mk,mkArgs,AV.cells,AV.boxable,AV.one,AV.strip1,fillA,fillS,Nat.reduceEqDiff,reduceCtorEq,↓reduceIte,Nat.reduceAdd,Int.reduceNeg,Nat.reduceLeDiff,Int.reduceToNat,Int.reduceEq,Int.reduceLT,Int.reduceLE,Int.reduceAdd,Io,Im,If,Il,Jt,Jf,AC.rg,Jm,Jl,Ja,Fm,Fl,Fa,Imv,Imb,Iai,Iei,Igi,Isi,Ipf,Ipt,Ilb,Iia,Ilt,Iap,Ink,Iln,Ils,Iad,Iex,Ibx,Ing]) (by rw[hx,e1];rfl) (K5.box hb2) (by simp[tupOf,AV.strip,AV.strip1,cTy])
  | succ i =>
   have hge:((0:Int)≤(((i+1:Nat):Int)-1))=True:=eq_true (by omega)
   have hi5:(((i+1:Nat):Int)-1)=(i:Int):=by omega
   have e1:tyL n i (m:Int) u5=R:=he
   rw[zmy,zbC] at e1
   by_cases hin:i<n
   ·have hin':((i:Int)<(n:Int))=True:=eq_true (by omega)
    rw[if_pos hin] at e1
    simp(disch:=first|omega|assumption) only[hge,hi5,hin',steps,st2,pev,rev,oev,optr,ibin,sbin,ishf,bound,mmAll,mm2,mk,mkArgs,AV.cells,AV.boxable,AV.one,AV.strip1,fillA,fillS,Nat.reduceEqDiff,reduceCtorEq,↓reduceIte,Nat.reduceAdd,Int.reduceNeg,Nat.reduceLeDiff,Int.reduceToNat,Int.reduceEq,Int.reduceLT,Int.reduceLE,Int.reduceAdd]
    refine goK_both (zft hp5 hll hr5 [93]) (fun v H6 ⟨_,t6,e6,hv6,ha6⟩=>?_) fun v H6 ⟨n6,e6,hv6⟩=>pan v H6 n6 hv6 (by rw[hx,← e1,e6];rfl)
    subst hv6
    rw[e6,zk] at e1
    have K6:=K5.call ha6
    have g62:H6 b2=some (.cells zT):=by rw[ha6.other n2s,g52]
    have g64:H6 b4=some (.cells [.str s,.int .i64 (n:Int),.int .i64 (m:Int)]):=by rw[ha6.other n4s,g54]
    obtain⟨p6,hp6,hr6⟩:=K6.here
    simp(disch:=first|omega|assumption) only[steps,st2,pev,rev,oev,optr,ibin,sbin,ishf,bound,mmAll,mm2,mk,mkArgs,AV.cells,AV.boxable,AV.one,AV.strip1,fillA,fillS,Nat.reduceEqDiff,reduceCtorEq,↓reduceIte,Nat.reduceAdd,Int.reduceNeg,Nat.reduceLeDiff,Int.reduceToNat,Int.reduceEq,Int.reduceLT,Int.reduceLE,Int.reduceAdd]
    refine goK_ret (zbq hp6 hll hr6 [33]) fun v H7 ⟨hv7,ha7⟩=>?_
    subst hv7
    have g72:H7 b2=some (.cells zT):=by rw[ha7.other n2s,g62]
    have g74:H7 b4=some (.cells [.str s,.int .i64 (n:Int),.int .i64 (m:Int)]):=by rw[ha7.other n4s,g64]
    have K7:=K6.call ha7
    cases hb:isP [33] t6 with
    | true =>
     simp only[Yi,hb,if_true] at e1
     rw[Zg,hb,if_pos rfl] at K7
     have ho:=znu ⟨i,by omega⟩ ⟨m,hm⟩ hmd
     have hob:=zmj ⟨i,by omega⟩ ⟨m,hm⟩ hmd
     have hsh:=znC ⟨i,by omega⟩
     simp only at ho hob hsh
     have hi0:¬ ((i:Int)<0):=by omega
     simp(disch:=first|omega|assumption) only[g74,hi0,hsh,ho,steps,st2,pev,rev,oev,optr,ibin,sbin,ishf,bound,mmAll,mm2,mk,mkArgs,AV.cells,AV.boxable,AV.one,AV.strip1,fillA,fillS,Nat.reduceEqDiff,reduceCtorEq,↓reduceIte,Nat.reduceAdd,Int.reduceNeg,Nat.reduceLeDiff,Int.reduceToNat,Int.reduceEq,Int.reduceLT,Int.reduceLE,Int.reduceAdd]
     refine goJ (hJ5 (i,m+2 ^ i,t6.tail) _ (Nat.lt_succ_self _) ⟨K7.box hb4H,by rw[upd_ne (Ne.symm h42)];exact g72,upd_same ..,by simp only;omega,hob.1,hob.2,by simp only;rw[← e1];simp⟩) (by simp(disch:=first|omega|assumption) only[wrap64,steps,st2,pev,rev,oev,optr,ibin,sbin,ishf,bound,mmAll,mm2,mk,mkArgs,AV.cells,AV.boxable,AV.one,AV.strip1,fillA,fillS,Nat.reduceEqDiff,reduceCtorEq,↓reduceIte,Nat.reduceAdd,Int.reduceNeg,Nat.reduceLeDiff,Int.reduceToNat,Int.reduceEq,Int.reduceLT,Int.reduceLE,Int.reduceAdd])
    | false =>
     simp only[Yi,hb,Al7,if_false] at e1
     rw[Zg,hb] at K7
     simp only[Al7,if_false] at K7
     have hmd2:m % 2 ^ i=0:=by
      have h3:2 ^ i∣2 ^ (i+1):=⟨2,by rw[Nat.pow_succ]⟩
      exact Nat.mod_eq_zero_of_dvd (Nat.dvd_trans h3 (Nat.dvd_of_mod_eq_zero hmd))
     simp(disch:=first|omega|assumption) only[steps,st2,pev,rev,oev,optr,ibin,sbin,ishf,bound,mmAll,mm2,mk,mkArgs,AV.cells,AV.boxable,AV.one,AV.strip1,fillA,fillS,Nat.reduceEqDiff,reduceCtorEq,↓reduceIte,Nat.reduceAdd,Int.reduceNeg,Nat.reduceLeDiff,Int.reduceToNat,Int.reduceEq,Int.reduceLT,Int.reduceLE,Int.reduceAdd]
     refine goJ (hJ5 (i,m,t6) _ (Nat.lt_succ_self _) ⟨K7,g72,g74,by simp only;omega,hm,hmd2,e1⟩) (by simp(disch:=first|omega|assumption) only[wrap64,steps,st2,pev,rev,oev,optr,ibin,sbin,ishf,bound,mmAll,mm2,mk,mkArgs,AV.cells,AV.boxable,AV.one,AV.strip1,fillA,fillS,Nat.reduceEqDiff,reduceCtorEq,↓reduceIte,Nat.reduceAdd,Int.reduceNeg,Nat.reduceLeDiff,Int.reduceToNat,Int.reduceEq,Int.reduceLT,Int.reduceLE,Int.reduceAdd])
   ·have hin':¬ ((i:Int)<(n:Int)):=by omega
    rw[if_neg hin,zk] at e1
    simp(disch:=first|omega|assumption) only[hge,hi5,hin',steps,st2,pev,rev,oev,optr,ibin,sbin,ishf,bound,mmAll,mm2,mk,mkArgs,AV.cells,AV.boxable,AV.one,AV.strip1,fillA,fillS,Nat.reduceEqDiff,reduceCtorEq,↓reduceIte,Nat.reduceAdd,Int.reduceNeg,Nat.reduceLeDiff,Int.reduceToNat,Int.reduceEq,Int.reduceLT,Int.reduceLE,Int.reduceAdd]
    refine goK_ret (zbq hp5 hll hr5 [33]) fun v H7 ⟨hv7,ha7⟩=>?_
    subst hv7
    have g72:H7 b2=some (.cells zT):=by rw[ha7.other n2s,g52]
    have g74:H7 b4=some (.cells [.str s,.int .i64 (n:Int),.int .i64 (m:Int)]):=by rw[ha7.other n4s,g54]
    have K7:=K5.call ha7
    cases hb:isP [33] u5 with
    | true =>
     simp only[Yi,hb,if_true] at e1
     rw[Zg,hb,if_pos rfl] at K7
     have ho:=znu ⟨i,by omega⟩ ⟨m,hm⟩ hmd
     have hob:=zmj ⟨i,by omega⟩ ⟨m,hm⟩ hmd
     have hsh:=znC ⟨i,by omega⟩
     simp only at ho hob hsh
     have hi0:¬ ((i:Int)<0):=by omega
     simp(disch:=first|omega|assumption) only[g74,hi0,hsh,ho,steps,st2,pev,rev,oev,optr,ibin,sbin,ishf,bound,mmAll,mm2,mk,mkArgs,AV.cells,AV.boxable,AV.one,AV.strip1,fillA,fillS,Nat.reduceEqDiff,reduceCtorEq,↓reduceIte,Nat.reduceAdd,Int.reduceNeg,Nat.reduceLeDiff,Int.reduceToNat,Int.reduceEq,Int.reduceLT,Int.reduceLE,Int.reduceAdd]
     refine goJ (hJ5 (i,m+2 ^ i,u5.tail) _ (Nat.lt_succ_self _) ⟨K7.box hb4H,by rw[upd_ne (Ne.symm h42)];exact g72,upd_same ..,by simp only;omega,hob.1,hob.2,by simp only;rw[← e1];simp⟩) (by simp(disch:=first|omega|assumption) only[wrap64,steps,st2,pev,rev,oev,optr,ibin,sbin,ishf,bound,mmAll,mm2,mk,mkArgs,AV.cells,AV.boxable,AV.one,AV.strip1,fillA,fillS,Nat.reduceEqDiff,reduceCtorEq,↓reduceIte,Nat.reduceAdd,Int.reduceNeg,Nat.reduceLeDiff,Int.reduceToNat,Int.reduceEq,Int.reduceLT,Int.reduceLE,Int.reduceAdd])
    | false =>
     simp only[Yi,hb,Al7,if_false] at e1
     rw[Zg,hb] at K7
     simp only[Al7,if_false] at K7
     have hmd2:m % 2 ^ i=0:=by
      have h3:2 ^ i∣2 ^ (i+1):=⟨2,by rw[Nat.pow_succ]⟩
      exact Nat.mod_eq_zero_of_dvd (Nat.dvd_trans h3 (Nat.dvd_of_mod_eq_zero hmd))
     simp(disch:=first|omega|assumption) only[steps,st2,pev,rev,oev,optr,ibin,sbin,ishf,bound,mmAll,mm2,mk,mkArgs,AV.cells,AV.boxable,AV.one,AV.strip1,fillA,fillS,Nat.reduceEqDiff,reduceCtorEq,↓reduceIte,Nat.reduceAdd,Int.reduceNeg,Nat.reduceLeDiff,Int.reduceToNat,Int.reduceEq,Int.reduceLT,Int.reduceLE,Int.reduceAdd]
     refine goJ (hJ5 (i,m,u5) _ (Nat.lt_succ_self _) ⟨K7,g72,g74,by simp only;omega,hm,hmd2,e1⟩) (by simp(disch:=first|omega|assumption) only[wrap64,steps,st2,pev,rev,oev,optr,ibin,sbin,ishf,bound,mmAll,mm2,mk,mkArgs,AV.cells,AV.boxable,AV.one,AV.strip1,fillA,fillS,Nat.reduceEqDiff,reduceCtorEq,↓reduceIte,Nat.reduceAdd,Int.reduceNeg,Nat.reduceLeDiff,Int.reduceToNat,Int.reduceEq,Int.reduceLT,Int.reduceLE,Int.reduceAdd])
theorem zg0 (a b c d e f g h i j:AV) (v:Val):splice [a,b,c,d,e,f,g,h,i,j] 5 (cV v)=a::b::c::d::e::cV v:=by cases v;rfl
theorem zm7 (a b c d e:AV) (v:Val):(a::b::c::d::e::cV v).take 10=a::b::c::d::e::cV v:=by cases v;rfl
theorem zhl (a b c d e:AV) (v:Val):(a::b::c::d::e::cV v).length=10:=by cases v;rfl
theorem zen (a b c d e f g h i j a' b' c' d' e':AV) (v:Val):splice [a,b,c,d,e,f,g,h,i,j] 0 (a'::b'::c'::d'::e'::cV v)=a'::b'::c'::d'::e'::cV v:=by cases v;rfl
abbrev zW:List AV:=[.str [],.str [],.int .i64 0,.int .i64 0,.bool false,.int .i64 0,.int .i64 0,.str [],.sl .nil 5 [],.sl .nil 6 []]
open Go.Lib
theorem zfC {P:UInt8→Bool} (h:(List.range 256).all (fun n=>P (UInt8.ofNat n))=true) (c:UInt8):P c=true:=by
 have h1:=yf.1 h c.toNat (List.mem_range.2 (UInt8.toNat_lt c))
 simpa using h1
def zab (c:UInt8):Bool:=decide (0≤Lib.indexByte zap c)
def spB (c:UInt8):Bool:=decide (c=9∨c=10∨c=13∨c=32∨c=44)||decide (c=239)||decide (c=35)
theorem zd1 (c:UInt8):(!zab c||(!(decide (c=34))&&(!(decide (c=46))&&(!(isL c)&&(!(isD c)&&(!(decide (c=45))&&(!(spB c)&&decide (32≤c.toNat∧c.toNat<128))))))))=true:=zfC (P:=fun c=>(!zab c||(!(decide (c=34))&&(!(decide (c=46))&&(!(isL c)&&(!(isD c)&&(!(decide (c=45))&&(!(spB c)&&decide (32≤c.toNat∧c.toNat<128))))))))) (by decide +kernel) c
theorem zgW (c:UInt8):(!isL c||(!(decide (c=34))&&(!(decide (c=46))&&(!(zab c)&&(!(isD c)&&(!(decide (c=45))&&(!(spB c)&&decide (32≤c.toNat∧c.toNat<128))))))))=true:=zfC (P:=fun c=>(!isL c||(!(decide (c=34))&&(!(decide (c=46))&&(!(zab c)&&(!(isD c)&&(!(decide (c=45))&&(!(spB c)&&decide (32≤c.toNat∧c.toNat<128))))))))) (by decide +kernel) c
theorem zeN (c:UInt8):(!(isD c||decide (c=45))||(!(decide (c=34))&&(!(decide (c=46))&&(!(zab c)&&(!(isL c)&&(!(spB c)&&decide (32≤c.toNat∧c.toNat<128)))))))=true:=zfC (P:=fun c=>(!(isD c||decide (c=45))||(!(decide (c=34))&&(!(decide (c=46))&&(!(zab c)&&(!(isL c)&&(!(spB c)&&decide (32≤c.toNat∧c.toNat<128)))))))) (by decide +kernel) c
theorem zcE {c:UInt8} (h:c≠34) (r:List UInt8):zC.isPrefixOf (c::r)=false:=by
 simp[zC,List.isPrefixOf];intro h2;exact absurd h2.symm h
theorem zdX {c:UInt8} (h:c≠46) (r:List UInt8):yS.isPrefixOf (c::r)=false:=by
 simp[yS,List.isPrefixOf];intro h2;exact absurd h2.symm h
theorem zlm {c:UInt8} (h:c≠239) (r:List UInt8):zeh.isPrefixOf (c::r)=false:=by
 simp[zeh,List.isPrefixOf];intro h2;exact absurd h2.symm h
theorem zfS {c:UInt8} (h:spB c=false) (r:List UInt8):Ze (c::r)=0:=by
 simp only[spB,Bool.or_eq_false_iff,decide_eq_false_iff_not] at h
 simp only[Ze]
 rw[if_neg h.1.1,zlm h.1.2,if_neg h.2];simp
theorem zki {r:List UInt8} (h:zcu r):(r.head?.any fun d=>isL d||isD d||decide (d=46))=false:=by
 rcases h with rfl|⟨c,t,rfl,rfl|rfl⟩
 ·rfl
 all_goals simp[isL,isD]
theorem zev {p:UInt8→Bool} {r:List UInt8} (h10:p 10=false) (h32:p 32=false) (h:zcu r):∀ s:List UInt8,(s++r).takeWhile p=s.takeWhile p
 | []=>by
  rcases h with rfl|⟨c,t,rfl,rfl|rfl⟩
  ·rfl
  ·simp[h32]
  ·simp[h10]
 | c::s=>by
  simp only[Al6,List.takeWhile_cons]
  split
  ·rw[zev h10 h32 h s]
  ·rfl
theorem zcN {p:UInt8→Bool}:∀ s:List UInt8,(∀ c∈s,p c=true)→s.takeWhile p=s
 | [],_=>rfl
 | c::s,h=>by
  simp only[List.takeWhile_cons,h c (.head _),if_true]
  rw[zcN s fun d hd=>h d (.tail _ hd)]
theorem zfi (s:List UInt8) {r:List UInt8} (h:zcu r):yc (s++r)=yc s:=by
 unfold yc;rw[zev (by decide) (by decide) h s]
theorem zcL:∀(s:List UInt8) (i:Nat),Y5 s i=true→∀ c∈s,(isL c||isD c)=true
 | [],_,_=>fun c hc=>nomatch hc
 | c::r,i,h=>by
  simp only[Y5] at h
  split at h
  ·rename_i h1
   have h2:=zcL r (i+1) h
   intro d hd
   rcases List.mem_cons.1 hd with rfl|hd
   ·simp only[ZH,Al0] at h1 ⊢
    exact h1.imp id fun x=>x.2
   ·exact h2 d hd
  ·cases h
theorem zjH {c:UInt8} {r:List UInt8} (h:zm (c::r)=true):isL c=true∧∀ d∈c::r,(isL d||isD d)=true:=by
 simp only[zm,Al0] at h
 refine⟨?_,zcL _ _ h.1⟩
 have:=h.1
 simp only[Y5] at this
 split at this
 ·rename_i h1;simpa using h1
 ·cases this
theorem zgs {c:UInt8} (h:isL c=true) (r:List UInt8):yC (c::r)=some (⟨2,(c::r).take (yc (c::r))⟩,(c::r).drop (yc (c::r))):=by
 have h1:=zgW c
 simp only[h,Bool.not_true,Bool.false_or,Al0,Bool.not_eq_true',decide_eq_false_iff_not,zn] at h1
 obtain⟨a1,a2,a3,_⟩:=h1
 simp only[zab,decide_eq_false_iff_not] at a3
 simp only[yC]
 rw[zcE a1,zdX a2,if_neg a1,if_neg a3,if_pos h];simp
theorem zhw {c:UInt8} (h:isL c=true) (r:List UInt8):Ze (c::r)=0:=by
 have h1:=zgW c
 simp only[h,Bool.not_true,Bool.false_or,Al0,Bool.not_eq_true'] at h1
 exact zfS h1.2.2.2.2.2.1 r
theorem zhe {c:UInt8} (h:(isD c||decide (c=45))=true) (r:List UInt8):yC (c::r)=(if (zH (c::r)).1=0 then none
  else if ((c::r).drop (zH (c::r)).1).head?.any fun d=>isL d||isD d||decide (d=46) then none
  else some (⟨(zH (c::r)).2,(c::r).take (zH (c::r)).1⟩,(c::r).drop (zH (c::r)).1)):=by
 have h1:=zeN c
 simp only[h,Bool.not_true,Bool.false_or,Al0,Bool.not_eq_true',decide_eq_false_iff_not,zn] at h1
 obtain⟨a1,a2,a3,a4,_⟩:=h1
 simp only[zab,decide_eq_false_iff_not] at a3
 simp only[yC]
 rw[zcE a1,zdX a2,if_neg a1,if_neg a3,a4];simp
theorem zhm {c:UInt8} (h:(isD c||decide (c=45))=true) (r:List UInt8):Ze (c::r)=0:=by
 have h1:=zeN c
 simp only[h,Bool.not_true,Bool.false_or,Al0,Bool.not_eq_true'] at h1
 exact zfS h1.2.2.2.2.1 r
theorem zgb {c:UInt8} {r:List UInt8} (h:zp (c::r)≠0):(isD c||decide (c=45))=true:=by
 by_cases hc:c=45
 ·simp[hc]
 ·rw[y5 (s:=c::r) (by simp[hc])] at h
  unfold Zf at h
  have h2:zv (c::r)≠0:=fun e=>h (by rw[if_pos e])
  simp only[zv] at h2
  split at h2
  ·rename_i h3;simp[h3]
  ·exact absurd rfl h2
theorem zfg {s:List UInt8} (h:(zH s).1≠0):zp s≠0:=fun e=>h (by unfold zH;rw[if_pos e])
theorem zjU {s:List UInt8} (h:(zH s).1≠0):(zH s).2=3∨(zH s).2=4:=by
 have hw:=zfg h
 unfold zH
 rw[if_neg hw]
 simp only
 split<;>simp
theorem zhL {l:List UInt8} {c k:Nat} (h:DecOk l c k) (hc:c=(zl l).1):∀ t,(yH c (l.take k)++t).head?≠some 34∧yH c (l.take k)≠[]:=by
 intro t
 have hpos:=h.pos
 have hlen:=h.len
 unfold yH
 repeat' split
 ·simp
 ·simp
 ·simp[yx]
 ·simp[yx]
 ·rename_i h1 h2 h3 h4
  cases l with
  | nil=>simp at hlen;omega
  | cons b r =>
   obtain⟨m,rfl⟩:∃ m,k=m+1:=⟨k-1,by omega⟩
   simp only[Y4,Al6,List.head?_cons,ne_eq,Al1]
   refine⟨fun e=>?_,by simp⟩
   subst e
   by_cases hk:m+1=1
   ·have:=(h.one hk).1
    simp at this
    omega
   ·have:=h.high hk 34 (by simp)
    simp at this
theorem zhZ {s:List UInt8} (hv:validD s=true) (hne:s≠[]) (n:Nat) (hn:s.length≤n) (t:List UInt8):(yB n s++t).head?≠some 34:=by
 cases n with
 | zero=>exact absurd (Zi.1 (by omega)) hne
 | succ n =>
  simp only[yB,if_neg hne,ZF]
  exact(zhL (Z0 hne hv).1 rfl _).1
theorem zja (s r:List UInt8) (hv:validD s=true) (hr:zcu r):zC.isPrefixOf (34::(yB s.length s++34::r))=false:=by
 by_cases hs:s=[]
 ·subst hs
  simp only[yB,yR,Al3]
  rcases hr with rfl|⟨c,t,rfl,rfl|rfl⟩<;>simp[zC,List.isPrefixOf]
 ·have h:=zhZ hv hs s.length (Al4 _) (34::r)
  cases hx:yB s.length s++34::r with
  | nil=>simp[zC,List.isPrefixOf]
  | cons c t =>
   rw[hx] at h
   simp only[List.head?_cons,ne_eq,Al1] at h
   simp[zC,List.isPrefixOf]
   intro e
   exact absurd e.symm h
theorem zf6 (x:Tok) (hx:zi x=true) {r:List UInt8} (hr:zcu r):yC (Z4 x++r)=some (x,r)∧Ze (Z4 x++r)=0∧Z4 x≠[]:=by
 obtain⟨k,s⟩:=x
 unfold zi at hx
 simp only at hx
 by_cases h1:k=1
 ·subst h1
  simp only[if_true,ZH,zn] at hx
  simp only[Z4,show ¬ ((1:Int)=5) by decide,if_false]
  rcases hx with rfl|hx
  ·refine⟨?_,?_,by simp[yS]⟩
   ·simp[yS,yC,zC,List.isPrefixOf]
   ·simp[yS,Ze,zeh,List.isPrefixOf]
  ·cases s with
   | nil=>cases hx
   | cons c t =>
    cases t with
    | cons d t=>cases hx
    | nil =>
     have h1:=zd1 c
     have hm:zab c=true:=hx
     simp only[hm,Bool.not_true,Bool.false_or,Al0,Bool.not_eq_true',decide_eq_false_iff_not,zn] at h1
     obtain⟨a1,a2,a3,a4,a5,a6,_⟩:=h1
     simp only[zab,zn] at hm
     refine⟨?_,?_,by simp⟩
     ·simp only[Al6,yR,yC]
      rw[zcE a1,zdX a2,if_neg a1,if_pos hm];simp
     ·exact zfS a6 r
 rw[if_neg h1] at hx
 by_cases h2:k=2
 ·subst h2
  simp only[if_true] at hx
  simp only[Z4,show ¬ ((2:Int)=5) by decide,if_false]
  cases s with
  | nil=>simp[zm,Y5] at hx
  | cons c t =>
   obtain⟨g1,g2⟩:=zjH hx
   have hw:yc (c::t++r)=(c::t).length:=by rw[zfi (c::t) hr];unfold yc;rw[zcN _ g2]
   refine⟨?_,zhw g1 _,by simp⟩
   rw[Al6,zgs g1,← Al6,hw,List.take_left,List.drop_left]
 rw[if_neg h2] at hx
 by_cases h3:k=3∨k=4
 ·rw[if_pos h3] at hx
  simp only[zn] at hx
  have hk5:¬ (k=5):=by omega
  simp only[Z4,hk5,if_false]
  unfold Zl at hx
  split at hx
  case isFalse=>omega
  rename_i hl
  cases s with
  | nil =>
   have:zH []=(0,0):=rfl
   rw[this] at hx;simp only at hx;omega
  | cons c t =>
   have hn0:(zH (c::t)).1≠0:=by rw[hl];simp
   have hw:=zfg hn0
   have hd:=zgb hw
   refine⟨?_,zhm hd _,by simp⟩
   rw[Al6,zhe hd,← Al6,zf8 hr,if_neg hn0,hl,List.drop_left,zki hr,List.take_left,hx];simp
 rw[if_neg h3] at hx
 by_cases h5:k=5
 ·subst h5
  simp only[if_true] at hx
  simp only[Z4,if_true,zfk,Al6,ZF,yR]
  refine⟨?_,by simp[Ze,zeh,List.isPrefixOf],by simp⟩
  simp only[yC]
  rw[zja s r hx hr]
  simp only[Al7,if_false,if_true]
  rw[ziQ s r hx];rfl
 ·rw[if_neg h5] at hx;cases hx
theorem zdC (x y:Tok) (L:List Tok):yZ (x::y::L)=Z4 x++32::yZ (y::L):=by simp[yZ,Lib.join]
theorem ze2 (x:Tok):yZ [x]=Z4 x:=by simp[yZ,Lib.join]
theorem zdP:∀(L:List Tok),L.all zi=true→∀(n:Nat) (l:List Tok),(yZ L).length<n→yY n l (yZ L)=.ok (l++L)
 | [],_,n,l,hn=>by
  cases n with
  | zero=>omega
  | succ n=>simp[yZ,Lib.join,yY]
 | [x],h,n,l,hn=>by
  simp only[List.all_cons,List.all_nil,Bool.and_true] at h
  obtain⟨g1,g2,g3⟩:=zf6 x h (r:=[]) (.inl rfl)
  rw[List.append_nil] at g1 g2
  rw[ze2] at hn ⊢
  have hl:0<(Z4 x).length:=List.length_pos_iff.2 g3
  obtain⟨m,rfl⟩:∃ m,n=m+2:=⟨n-2,by omega⟩
  rw[yY,if_neg g3,if_neg (by rw[g2];simp),g1]
  simp[yY]
 | x::y::L,h,n,l,hn=>by
  have h':=h
  rw[List.all_cons,Al0] at h'
  obtain⟨g1,g2,g3⟩:=zf6 x h'.1 (r:=32::yZ (y::L)) (.inr ⟨32,_,rfl,.inl rfl⟩)
  rw[zdC] at hn ⊢
  have hl:0<(Z4 x).length:=List.length_pos_iff.2 g3
  simp only[Al5,Al2] at hn
  obtain⟨m,rfl⟩:∃ m,n=m+2:=⟨n-2,by omega⟩
  rw[yY,if_neg (by simp[g3]),if_neg (by rw[g2];simp),g1]
  simp only
  rw[yY,if_neg (by simp),if_pos (by simp[Ze])]
  have e1:(32::yZ (y::L)).drop (Ze (32::yZ (y::L)))=yZ (y::L):=by simp[Ze]
  rw[e1,zdP (y::L) h'.2 m (l++[x]) (by omega)]
  simp
theorem ze4:∀(n m:Nat) (l:List UInt8),l.length≤n→l.length≤m→zhc n l=zhc m l
 | 0,m,l,h,_=>by
  obtain rfl:l=[]:=Zi.1 (by omega)
  cases m<;>simp[zhc]
 | n+1,0,l,_,h=>by
  obtain rfl:l=[]:=Zi.1 (by omega)
  simp[zhc]
 | n+1,m+1,l,h1,h2=>by
  simp only[zhc]
  split
  ·rfl
  ·by_cases hp:0<(zl l).2
   ·rw[ze4 n m (l.drop (zl l).2) (by simp;omega) (by simp;omega)]
   ·simp[hp]
theorem za8 {l:List UInt8} (hne:l≠[]):zb1 l=(decide (0<(zl l).2)&&(YM (zl l).1&&zb1 (l.drop (zl l).2))):=by
 unfold zb1
 have hl:0<l.length:=List.length_pos_iff.2 hne
 obtain⟨m,hm⟩:∃ m,l.length=m+1:=⟨l.length-1,by omega⟩
 rw[hm,zhc,if_neg hne]
 by_cases hp:0<(zl l).2
 ·rw[ze4 m (l.drop (zl l).2).length (l.drop (zl l).2) (by simp;omega) (Al4 _)]
 ·simp[hp]
theorem zg8:zb1 []=true:=rfl
def yu (a:List UInt8):Prop:=∀ t,zb1 t=true→zb1 (a++t)=true
theorem yu.nil:yu []:=fun t h=>h
theorem yu.app {a b:List UInt8} (ha:yu a) (hb:yu b):yu (a++b):=fun t h=>by rw[ZF];exact ha _ (hb _ h)
theorem yu.here {a:List UInt8} (ha:yu a):zb1 a=true:=by have:=ha [] zg8;simpa using this
theorem yu.ascii {b:UInt8} (h:b.toNat<128) (hs:YM b.toNat=true):yu [b]:=fun t ht=>by
 rw[za8 (by simp)]
 simp only[List.singleton_append,zgL b t h,hs,List.drop_succ_cons,List.drop_zero,ht]
 rfl
theorem yu.asciis:∀ s:List UInt8,(∀ b∈s,32≤b.toNat∧b.toNat<128)→yu s
 | [],_=>.nil
 | b::s,h=>by
  have h1:=h b (.head _)
  exact yu.app (a:=[b]) (.ascii h1.2 (by simp[YM];omega)) (yu.asciis s fun c hc=>h c (.tail _ hc))
theorem yu.code {l:List UInt8} (hne:l≠[]) (h:(zl l).2≠0) (hk:(zl l).2≤l.length) (hs:YM (zl l).1=true):yu (l.take (zl l).2):=fun t ht=>by
 have hp:=zbG hne h t
 have hl:(l.take (zl l).2).length=(zl l).2:=by simp;omega
 rw[za8 (by intro e;have:=congrArg List.length e;rw[Al5,hl] at this;simp at this;omega),hp,hs]
 rw[List.drop_left' hl,ht]
 simp;omega
theorem zhO (n:Nat):32≤(hexL.getD (n % 16) 0).toNat∧(hexL.getD (n % 16) 0).toNat<128:=by
 have:∀ x:Fin 16,32≤(hexL.getD x.val 0).toNat∧(hexL.getD x.val 0).toNat<128:=by decide +kernel
 exact this ⟨n % 16,Nat.mod_lt _ (by decide)⟩
theorem yu.unit (u:Nat):yu (yx u):=yu.asciis _ fun b hb=>by
 simp only[yx,List.mem_cons,List.not_mem_nil,or_false] at hb
 rcases hb with rfl|rfl|rfl|rfl|rfl|rfl
 ·decide
 ·decide
 all_goals exact zhO _
theorem yu.quo:∀(n:Nat) (l:List UInt8),l.length≤n→validD l=true→yu (yB n l)
 | 0,l,_,_=>.nil
 | n+1,l,hn,hv=>by
  rw[yB]
  by_cases hne:l=[]
  ·subst hne;exact .nil
  ·rw[if_neg hne]
   obtain⟨hd,hv2⟩:=Z0 hne hv
   have hpos:=hd.pos
   refine yu.app ?_ (yu.quo n _ (by simp;omega) hv2)
   unfold yH
   by_cases h1:(zl l).1=34∨(zl l).1=92
   ·rw[if_pos h1]
    refine yu.asciis _ fun b hb=>?_
    simp only[List.mem_cons,List.not_mem_nil,or_false] at hb
    rcases hb with rfl|rfl
    ·decide
    ·rcases h1 with h1|h1<;>rw[h1]<;>decide
   rw[if_neg h1]
   by_cases h2:(zl l).1=10
   ·rw[if_pos h2]
    exact yu.asciis _ fun b hb=>by
     simp only[List.mem_cons,List.not_mem_nil,or_false] at hb
     rcases hb with rfl|rfl<;>decide
   rw[if_neg h2]
   by_cases h3:(zl l).1<32
   ·rw[if_pos h3];exact .unit _
   rw[if_neg h3]
   by_cases h4:65536≤(zl l).1
   ·rw[if_pos h4];exact yu.app (.unit _) (.unit _)
   ·rw[if_neg h4]
    exact yu.code hne (by omega) hd.len (by simp[YM];omega)
theorem zjG (c:UInt8):nch c=true→32≤c.toNat∧c.toNat<128:=zcM (P:=fun c=>nch c=true→32≤c.toNat∧c.toNat<128) (by decide +kernel) c
theorem zeV {s:List UInt8} (h:Zl s≠0):∀ b∈s,32≤b.toNat∧b.toNat<128:=fun b hb=>zjG b ((zkg h).1 b hb)
theorem yu.tok (x:Tok) (hx:zi x=true):yu (Z4 x):=by
 obtain⟨k,s⟩:=x
 unfold zi at hx
 simp only at hx
 by_cases h1:k=1
 ·subst h1
  simp only[if_true,ZH,zn] at hx
  simp only[Z4,show ¬ ((1:Int)=5) by decide,if_false]
  rcases hx with rfl|hx
  ·exact yu.asciis _ (by decide)
  ·cases s with
   | nil=>cases hx
   | cons c t =>
    cases t with
    | cons d t=>cases hx
    | nil =>
     have h1:=zd1 c
     have hm:zab c=true:=hx
     simp only[hm,Bool.not_true,Bool.false_or,Al0,Bool.not_eq_true',decide_eq_false_iff_not,zn] at h1
     exact yu.asciis _ fun b hb=>by simp only[List.mem_singleton] at hb;subst hb;exact h1.2.2.2.2.2.2
 rw[if_neg h1] at hx
 by_cases h2:k=2
 ·subst h2
  simp only[if_true] at hx
  simp only[Z4,show ¬ ((2:Int)=5) by decide,if_false]
  simp only[zm,Al0] at hx
  have:=zcL _ _ hx.1
  refine yu.asciis _ fun b hb=>?_
  have hb2:=this b hb
  simp only[ZH] at hb2
  simp only[isL,isD,ZH,Al0,zn] at hb2
  omega
 rw[if_neg h2] at hx
 by_cases h3:k=3∨k=4
 ·rw[if_pos h3] at hx
  have hk5:¬ (k=5):=by omega
  simp only[Z4,hk5,if_false]
  simp only[zn] at hx
  exact yu.asciis _ (zeV (by omega))
 rw[if_neg h3] at hx
 by_cases h5:k=5
 ·subst h5
  simp only[if_true] at hx
  simp only[Z4,if_true,zfk]
  have h34:yu [34]:=yu.asciis _ (by decide)
  exact yu.app (a:=[34]) h34 (yu.app (yu.quo _ _ (Al4 _) hx) h34)
 ·rw[if_neg h5] at hx;cases hx
theorem yu.join:∀ L:List Tok,L.all zi=true→yu (yZ L)
 | [],_=>.nil
 | [x],h=>by rw[ze2];exact .tok x (by simpa using h)
 | x::y::L,h=>by
  rw[List.all_cons,Al0] at h
  rw[zdC]
  exact yu.app (.tok x h.1) (yu.app (a:=[32]) (yu.asciis _ (by decide)) (yu.join (y::L) h.2))
theorem zhP (L:List Tok) (h:L.all zi=true) (hl:(yZ L).length≤8192):Za (yZ L)=.ok L:=by
 unfold Za
 rw[if_neg (by omega),(yu.join L h).here,if_pos rfl,zdP L h _ _ (by omega)]
 simp
theorem YI:∀(p s t:List UInt8),(∀ x∈p,x≠10)→p.isPrefixOf (s++10::t)=p.isPrefixOf s
 | [],s,t,_=>by cases s<;>simp
 | x::p,[],t,h=>by
  have h1:=h x (.head _)
  simp[List.isPrefixOf,h1]
 | x::p,c::s,t,h=>by
  simp only[Al6,List.isPrefixOf]
  rw[YI p s t fun y hy=>h y (.tail _ hy)]
theorem Zk:∀(p s:List UInt8),p.isPrefixOf s=true→p.length≤s.length
 | [],s,_=>Nat.zero_le _
 | x::p,[],h=>by simp[List.isPrefixOf] at h
 | x::p,c::s,h=>by
  simp only[List.isPrefixOf,Al0] at h
  have:=Zk p s h.2
  simp only[Al2];omega
theorem zmh (t:List UInt8):zcu (10::t):=.inr ⟨10,t,rfl,.inr rfl⟩
theorem zdK:∀(n:Nat) (raw s:List UInt8) (b s':List UInt8),yU n raw s=some (b,s')→s'.length<s.length∧∀(m:Nat) (t:List UInt8),n≤m→yU m raw (s++10::t)=some (b,s'++10::t)
 | 0,_,_,_,_,h=>by cases h
 | n+1,raw,[],_,_,h=>by simp[yU] at h
 | n+1,raw,c::r,b,s',h=>by
  simp only[yU] at h
  by_cases h1:zC.isPrefixOf (c::r)=true
  ·rw[if_pos h1] at h
   have hl:=Zk _ _ h1
   simp only[zC,Al2,Al3] at hl
   simp only[Al1,Al8] at h
   obtain⟨rfl,rfl⟩:=h
   refine⟨by simp;omega,fun m t hm=>?_⟩
   obtain⟨k,rfl⟩:∃ k,m=k+1:=⟨m-1,by omega⟩
   have e:=YI zC (c::r) t (by decide)
   rw[Al6] at e
   simp only[yU,Al6]
   rw[e,if_pos h1,zcx (by omega)]
  ·rw[if_neg h1] at h
   by_cases h2:zf1.isPrefixOf (c::r)=true
   ·rw[if_pos h2] at h
    have hl:=Zk _ _ h2
    simp only[zf1,Al2,Al3] at hl
    obtain⟨g1,g2⟩:=zdK n _ _ _ _ h
    refine⟨by simp at g1 ⊢;omega,fun m t hm=>?_⟩
    obtain⟨k,rfl⟩:∃ k,m=k+1:=⟨m-1,by omega⟩
    have e:=YI zC (c::r) t (by decide)
    have e2:=YI zf1 (c::r) t (by decide)
    rw[Al6] at e e2
    simp only[yU,Al6]
    rw[e,if_neg h1,e2,if_pos h2,zcx (by omega)]
    exact g2 k t (by omega)
   ·rw[if_neg h2] at h
    obtain⟨g1,g2⟩:=zdK n _ _ _ _ h
    refine⟨by simp;omega,fun m t hm=>?_⟩
    obtain⟨k,rfl⟩:∃ k,m=k+1:=⟨m-1,by omega⟩
    have e:=YI zC (c::r) t (by decide)
    have e2:=YI zf1 (c::r) t (by decide)
    rw[Al6] at e e2
    simp only[yU,Al6]
    rw[e,if_neg h1,e2,if_neg h2]
    exact g2 k t (by omega)
theorem zfc:∀(n:Nat) (s:List UInt8) (u v:Nat) (t:List UInt8),ZJ n s u=some v→n≤s.length∧ZJ n (s++t) u=some v
 | 0,s,u,v,t,h=>by
  simp only[ZJ] at h ⊢
  exact⟨Nat.zero_le _,h⟩
 | n+1,[],u,v,t,h=>by simp[ZJ] at h
 | n+1,c::s,u,v,t,h=>by
  simp only[ZJ,Al6] at h ⊢
  cases hx:hexD c with
  | none=>rw[hx] at h;cases h
  | some k =>
   rw[hx] at h
   simp only at h ⊢
   have:=zfc n s _ v t h
   exact⟨by simp;omega,this.2⟩
theorem zj1 {q q':Sd} {s s':List UInt8} (t:List UInt8) (h:Z7 q s=some (q',s')):Z7 q (s++t)=some (q',s'++t):=by
 cases s with
 | nil=>cases h
 | cons c r =>
  simp only[Z7,Al6] at h ⊢
  by_cases h1:c=117
  ·rw[if_pos h1] at h ⊢
   cases hu:Ya r with
   | none=>rw[hu] at h;cases h
   | some u =>
    obtain⟨g1,g2⟩:=zfc 4 r 0 u t hu
    rw[hu] at h
    simp only[z6,Al1,Al8] at h
    obtain⟨rfl,rfl⟩:=h
    rw[Ya,g2]
    simp only[z6,Al1,Al8,true_and]
    exact zcx g1
  ·rw[if_neg h1] at h ⊢
   split at h
   ·cases h
   ·rename_i h2
    rw[if_neg h2]
    simp only[Al1,Al8] at h ⊢
    obtain⟨rfl,rfl⟩:=h
    exact⟨rfl,rfl⟩
theorem zdz {may:UInt8→Bool} (t:List UInt8):∀(n:Nat) (s:List UInt8) (q q':Sd) (s':List UInt8),Yw may n s q=some (q',s')→∀ m,n≤m→Yw may m (s++t) q=some (q',s'++t)
 | 0,_,_,_,_,h=>by cases h
 | n+1,[],_,_,_,h=>by cases h
 | n+1,c::s,q,q',s',h=>fun m hm=>by
  obtain⟨k,rfl⟩:∃ k,m=k+1:=⟨m-1,by omega⟩
  simp only[Yw,Al6] at h ⊢
  by_cases h1:c=34
  ·rw[if_pos h1] at h ⊢
   simp only[Al1,Al8] at h ⊢
   exact⟨h.1,by rw[h.2]⟩
  rw[if_neg h1] at h ⊢
  by_cases h2:c=92
  ·rw[if_pos h2] at h ⊢
   cases he:Z7 q s with
   | none=>rw[he] at h;cases h
   | some x =>
    rw[he] at h
    rw[zj1 t (q':=x.1) (s':=x.2) he]
    exact zdz t n _ _ _ _ h k (by omega)
  rw[if_neg h2] at h ⊢
  split at h
  ·rename_i h3
   rw[if_pos h3]
   exact zdz t n _ _ _ _ h k (by omega)
  ·cases h
theorem zjL {may:UInt8→Bool} {s s' b:List UInt8} (t:List UInt8) (h:Z5 may s=some (b,s')):Z5 may (s++t)=some (b,s'++t):=by
 unfold Z5 at h ⊢
 cases hq:Yw may (s.length+1) s ⟨[],[],true⟩ with
 | none=>rw[hq] at h;cases h
 | some x =>
  rw[hq] at h
  rw[zdz t _ _ _ x.1 x.2 hq _ (by simp)]
  simp only at h ⊢
  split at h
  ·rename_i h1
   simp only[Al1,Al8] at h
   rw[if_pos h1]
   simp[h.1,h.2]
  ·cases h
theorem zdJ (s:List UInt8):yc s≤s.length:=by unfold yc;exact(List.takeWhile_sublist _).length_le
theorem zcc (s:List UInt8):(zH s).1≤s.length:=by
 unfold zH
 split
 ·simp
 ·have h1:=zci s
  have h2:=zg5 (s.drop (zp s))
  have h3:=zfy (s.drop (zp s+yn (s.drop (zp s))))
  simp only[Zn] at h2 h3
  simp only;omega
theorem zkv {s s':List UInt8} {x:Tok} (h:yC s=some (x,s')) (t:List UInt8):s'.length<s.length∧yC (s++10::t)=some (x,s'++10::t):=by
 cases s with
 | nil=>cases h
 | cons c r =>
  have e3:=YI zC (c::r) t (by decide)
  have ed:=YI yS (c::r) t (by decide)
  rw[Al6] at e3 ed
  have hw:=zfi (c::r) (zmh t)
  have hn:=zf8 (a:=c::r) (zmh t)
  simp only[yC] at h
  simp only[yC,Al6]
  rw[e3,ed]
  by_cases h1:zC.isPrefixOf (c::r)=true
  ·rw[if_pos h1] at h ⊢
   have hl:=Zk _ _ h1
   simp only[zC,Al2,Al3] at hl
   cases hr:yU (r.length+1) [] (r.drop 2) with
   | none=>rw[hr] at h;cases h
   | some y =>
    rw[hr] at h
    simp only[z6,Al1,Al8] at h
    obtain⟨rfl,rfl⟩:=h
    obtain⟨g1,g2⟩:=zdK _ _ _ y.1 y.2 hr
    simp only[Zn] at g1
    rw[zcx (by omega),g2 _ t (by simp)]
    exact⟨by simp only[Al2];omega,rfl⟩
  rw[if_neg h1] at h ⊢
  by_cases h2:c=34
  ·rw[if_pos h2] at h ⊢
   cases hr:Z5 ym r with
   | none=>rw[hr] at h;cases h
   | some y =>
    rw[hr] at h
    simp only[z6,Al1,Al8] at h
    obtain⟨rfl,rfl⟩:=h
    have g1:=zg4 (t':=y.2) (b:=y.1) hr
    rw[zjL (10::t) (b:=y.1) (s':=y.2) hr]
    exact⟨by simp only[Al2];omega,rfl⟩
  rw[if_neg h2] at h ⊢
  by_cases h3:yS.isPrefixOf (c::r)=true
  ·rw[if_pos h3] at h ⊢
   have hl:=Zk _ _ h3
   simp only[yS,Al2,Al3] at hl
   simp only[Al1,Al8] at h ⊢
   obtain⟨rfl,rfl⟩:=h
   exact⟨by simp;omega,rfl,zcx (by omega)⟩
  rw[if_neg h3] at h ⊢
  by_cases h4:0≤Lib.indexByte zap c
  ·rw[if_pos h4] at h ⊢
   simp only[Al1,Al8] at h ⊢
   obtain⟨rfl,rfl⟩:=h
   exact⟨by simp,rfl,rfl⟩
  rw[if_neg h4] at h ⊢
  by_cases h5:isL c=true
  ·rw[if_pos h5] at h ⊢
   have hl:=zdJ (c::r)
   have hp:0<yc (c::r):=by unfold yc;simp[h5]
   simp only[Al1,Al8] at h ⊢
   obtain⟨rfl,rfl⟩:=h
   rw[← Al6,hw,List.take_append_of_le_length hl,zcx hl]
   exact⟨by rw[Zn];simp only[Al2] at hl ⊢;omega,rfl,rfl⟩
  rw[if_neg h5] at h ⊢
  rw[← Al6,hn]
  by_cases h6:(zH (c::r)).1=0
  ·rw[if_pos h6] at h;cases h
  rw[if_neg h6] at h ⊢
  have hl:=zcc (c::r)
  rw[List.take_append_of_le_length hl,zcx hl]
  have hh:(((c::r).drop (zH (c::r)).1++10::t).head?.any fun d=>isL d||isD d||decide (d=46))=(((c::r).drop (zH (c::r)).1).head?.any fun d=>isL d||isD d||decide (d=46)):=by
   cases (c::r).drop (zH (c::r)).1 with
   | nil=>simp[isL,isD]
   | cons d t=>rfl
  rw[hh]
  split at h
  ·cases h
  ·rename_i h7
   rw[if_neg h7]
   simp only[Al1,Al8] at h ⊢
   obtain⟨rfl,rfl⟩:=h
   exact⟨by rw[Zn];simp only[Al2] at hl ⊢;omega,rfl,rfl⟩
theorem zfD (s:List UInt8):Ze s≤s.length:=by
 cases s with
 | nil=>simp[Ze]
 | cons c r =>
  simp only[Ze]
  split
  ·simp
  ·split
   ·rename_i h;have:=Zk _ _ h;simpa[zeh] using this
   ·split
    ·have:=(List.takeWhile_sublist yb (l:=r)).length_le;simp only[Al2];omega
    ·simp
theorem zbS {s s':List UInt8} {x:Tok} (h:yC s=some (x,s')):s'.length<s.length:=(zkv h []).1
theorem zas:∀(n m:Nat) (l:List Tok) (s:List UInt8),s.length<n→s.length<m→yY n l s=yY m l s
 | 0,_,_,_,h,_=>by omega
 | _,0,_,_,_,h=>by omega
 | n+1,m+1,l,s,h1,h2=>by
  simp only[yY]
  split
  ·rfl
  ·rename_i hne
   split
   ·rename_i hg
    have hl:0<s.length:=List.length_pos_iff.2 hne
    exact zas n m _ _ (by rw[Zn];omega) (by rw[Zn];omega)
   ·cases ho:yC s with
    | none=>rfl
    | some x =>
     have:=zbS (x:=x.1) (s':=x.2) ho
     exact zas n m _ _ (by omega) (by omega)
theorem zgr {s:List UInt8} {l:List Tok} (h:Za s=.ok l):s.length≤8192∧zb1 s=true∧yY (s.length+1) [] s=.ok l:=by
 unfold Za at h
 split at h
 ·cases h
 ·split at h
  ·rename_i h1 h2;exact⟨by omega,h2,h⟩
  ·cases h
theorem zaQ:∀(l:List UInt8) (m:Nat),zv (l.take m)=min m (zv l)
 | [],m=>by simp[zv]
 | c::l,0=>by simp[zv]
 | c::l,m+1=>by
  simp only[Y4,zv]
  split
  ·rw[zaQ l m];omega
  ·simp
theorem zg2 (s:List UInt8) (m:Nat) (h:Zf s≤m):Zf (s.take m)=Zf s:=by
 unfold Zf at h ⊢
 rw[zaQ]
 by_cases h1:zv s=0
 ·rw[h1];simp
 rw[if_neg h1] at h ⊢
 by_cases h2:s.getD 0 0=48
 ·rw[if_pos h2] at h ⊢
  have e:(s.take m).getD 0 0=s.getD 0 0:=by
   cases s with
   | nil=>simp
   | cons c r=>obtain⟨k,rfl⟩:∃ k,m=k+1:=⟨m-1,by omega⟩;simp
  rw[e,if_pos h2,if_neg (by omega)]
 ·rw[if_neg h2] at h ⊢
  have e:(s.take m).getD 0 0=s.getD 0 0:=by
   cases s with
   | nil=>simp
   | cons c r=>obtain⟨k,rfl⟩:∃ k,m=k+1:=⟨m-1,by omega⟩;simp
  rw[e,if_neg h2,if_neg (by omega)]
  omega
theorem zdT (s:List UInt8) (m:Nat) (h:zp s≤m):zp (s.take m)=zp s:=by
 cases s with
 | nil=>simp
 | cons c r =>
  cases m with
  | zero =>
   have:zp (c::r)=0:=by omega
   rw[this];rfl
  | succ m =>
   by_cases hc:c=45
   ·subst hc
    rw[Y4]
    rw[ZO] at h ⊢
    rw[ZO,zaQ]
    by_cases h1:zv r=0
    ·rw[h1];simp
    ·rw[if_neg h1] at h ⊢
     have h2:Zf r≠0:=by unfold Zf;rw[if_neg h1];split<;>omega
     rw[if_neg (by omega),zg2 r m (by omega)]
   ·rw[y5 (s:=c::r) (by simp[hc])] at h ⊢
    rw[y5 (s:=(c::r).take (m+1)) (by simp[hc]),zg2 _ _ h]
theorem zby (c:UInt8) (r:List UInt8):yn (c::r)=if c=46∧0<zv r then 1+zv r else 0:=by simp[yn]
theorem zjE (s:List UInt8) (m:Nat) (h:yn s≤m):yn (s.take m)=yn s:=by
 cases s with
 | nil=>simp
 | cons c r =>
  cases m with
  | zero =>
   have:yn (c::r)=0:=by omega
   rw[this];rfl
  | succ m =>
   rw[Y4,zby,zby,zaQ]
   rw[zby] at h
   by_cases h1:c=46∧0<zv r
   ·rw[if_pos h1] at h ⊢
    rw[if_pos ⟨h1.1,by omega⟩];omega
   ·rw[if_neg h1]
    rw[if_neg]
    rintro⟨g1,g2⟩
    exact h1 ⟨g1,by omega⟩
theorem zlN (r:List UInt8) (m:Nat) (h:m≠0):sgN (r.take m)=sgN r:=by
 cases r with
 | nil=>simp
 | cons c r =>
  obtain⟨k,rfl⟩:∃ k,m=k+1:=⟨m-1,by omega⟩
  simp[sgN]
theorem zkz (s:List UInt8) (m:Nat) (h:ZM s≤m):ZM (s.take m)=ZM s:=by
 cases s with
 | nil=>simp
 | cons c r =>
  cases m with
  | zero =>
   have:ZM (c::r)=0:=by omega
   rw[this];rfl
  | succ m =>
   simp only[Y4,ZM] at h ⊢
   by_cases h1:isE c=true
   case neg=>rw[if_neg h1,if_neg h1]
   rw[if_pos h1] at h ⊢
   rw[if_pos h1]
   by_cases hm:m=0
   ·subst hm
    have h2:zv (r.drop (sgN r))=0:=by
     by_cases h2:zv (r.drop (sgN r))=0
     ·exact h2
     ·rw[if_neg h2] at h;omega
    rw[if_pos h2]
    simp[zv]
   ·rw[zlN r m hm,List.drop_take,zaQ]
    by_cases h2:zv (r.drop (sgN r))=0
    ·rw[if_pos h2,if_pos (by omega)]
    ·rw[if_neg h2] at h ⊢
     rw[if_neg (by omega)];omega
theorem zgH (s:List UInt8) (m:Nat) (h:(zH s).1≤m):zH (s.take m)=zH s:=by
 by_cases hw:zp s=0
 ·unfold zH
  rw[zdT s m (by omega),if_pos hw,if_pos hw]
 ·have h':=h
  unfold zH at h
  rw[if_neg hw] at h
  simp only at h
  unfold zH
  rw[zdT s m (by omega),if_neg hw,if_neg hw,List.drop_take,List.drop_take,zjE _ _ (by omega),zkz _ _ (by omega)]
theorem zjt {s:List UInt8} (h:(zH s).1≠0):zi ⟨(zH s).2,s.take (zH s).1⟩=true:=by
 have h2:=zjU h
 have hl:=zcc s
 unfold zi
 simp only
 rw[if_neg (by omega),if_neg (by omega),if_pos h2]
 unfold Zl
 rw[zgH s _ (Al4 _),List.length_take,Nat.min_eq_left hl,if_pos rfl]
 simp
theorem zgZ:∀(s:List UInt8) (i:Nat),i≠0→(∀ c∈s,(isL c||isD c)=true)→Y5 s i=true
 | [],_,_,_=>rfl
 | c::r,i,hi,h=>by
  have h1:=h c (.head _)
  simp only[Y5]
  rw[if_pos (by simpa[hi] using h1)]
  exact zgZ r (i+1) (by omega) fun d hd=>h d (.tail _ hd)
theorem zfr {p:UInt8→Bool}:∀(s:List UInt8),∀ c∈s.takeWhile p,p c=true
 | [],c,h=>by simp at h
 | d::s,c,h=>by
  simp only[List.takeWhile_cons] at h
  split at h
  ·rename_i hd
   rcases List.mem_cons.1 h with rfl|h
   ·exact hd
   ·exact zfr s c h
  ·simp at h
theorem zdy (p:UInt8→Bool) (s:List UInt8):s.take (s.takeWhile p).length=s.takeWhile p:=by
 induction s with
 | nil=>rfl
 | cons c s ih =>
  simp only[List.takeWhile_cons]
  split
  ·simp[ih]
  ·rfl
theorem zgK {c:UInt8} {r:List UInt8} (h:isL c=true):zi ⟨2,(c::r).take (yc (c::r))⟩=true:=by
 unfold zi
 simp only
 rw[if_neg (by decide),if_pos trivial]
 unfold yc
 rw[zdy]
 have h1:=zfr (p:=fun c=>isL c||isD c) (c::r)
 simp only[List.takeWhile_cons,h,Bool.true_or,if_true] at h1 ⊢
 simp only[zm,Y5,h,Bool.true_or,if_true,Al0,zn]
 exact⟨zgZ _ 1 (by decide) fun d hd=>h1 d (.tail _ hd),by simp⟩
theorem Zr {c:UInt8} (hc:c.toNat<128) {b:List UInt8} (h:validD (c::b)=true):validD b=true:=(zaO hc (a:=[]) h).2
theorem zk6 {c:UInt8} (hc:c.toNat<128) {b:List UInt8} (h:validD b=true):validD (c::b)=true:=YN (a:=[c]) (zcy fun d hd=>by simp only[List.mem_singleton] at hd;subst hd;exact hc) h
theorem Yo:∀ {p s:List UInt8},p.isPrefixOf s=true→s=p++s.drop p.length
 | [],s,_=>rfl
 | x::p,[],h=>by simp[List.isPrefixOf] at h
 | x::p,c::s,h=>by
  simp only[List.isPrefixOf,Al0,beq_iff_eq] at h
  have:=Yo h.2
  rw[h.1]
  simp only[Al6,Al2,List.drop_succ_cons,List.cons.injEq,true_and]
  exact this
theorem zbE:∀(n:Nat) (raw t b s':List UInt8),yU n raw t=some (b,s')→validD (raw++t)=true→validD b=true∧validD s'=true
 | 0,_,_,_,_,h,_=>by cases h
 | n+1,raw,[],_,_,h,_=>by simp[yU] at h
 | n+1,raw,c::r,b,s',h,hv=>by
  simp only[yU] at h
  split at h
  ·rename_i h1
   simp only[Al1,Al8] at h
   obtain⟨rfl,rfl⟩:=h
   have e:=Yo h1
   simp only[zC,Al6,yR,Al2,Al3,List.drop_succ_cons,Nat.zero_add,Nat.reduceAdd] at e
   rw[e] at hv
   have g:=zaO (c:=34) (by decide) hv
   exact⟨g.1,Zr (c:=34) (by decide) (Zr (c:=34) (by decide) g.2)⟩
  ·split at h
   ·rename_i h2
    have e:=Yo h2
    simp only[zf1,Al6,yR,Al2,Al3,List.drop_succ_cons,Nat.zero_add,Nat.reduceAdd] at e
    rw[e] at hv
    have g:=zaO (c:=92) (by decide) hv
    refine zbE n _ _ _ _ h ?_
    rw[ZF]
    exact YN g.1 g.2
   ·exact zbE n _ _ _ _ h (by rw[ZF];exact hv)
theorem Zq:∀(s cur:List UInt8),validD (cur++s)=true→∀ x∈zP cur s,validD x=true
 | [],cur,h,x,hx=>by
  simp only[zP,List.mem_singleton] at hx
  subst hx;simpa using h
 | [c],cur,h,x,hx=>by
  simp only[zP] at hx
  split at hx
  ·rename_i hc
   have hc2:c.toNat<128:=by rcases hc with rfl|rfl<;>decide
   have g:=zaO hc2 h
   simp only[List.mem_cons,List.not_mem_nil,or_false] at hx
   rcases hx with rfl|rfl
   ·exact g.1
   ·rfl
  ·simp only[List.mem_singleton] at hx
   subst hx;exact h
 | c::d::r,cur,h,x,hx=>by
  simp only[zP] at hx
  split at hx
  ·rename_i hc
   subst hc
   have g:=zaO (c:=10) (by decide) h
   rcases List.mem_cons.1 hx with rfl|hx
   ·exact g.1
   ·exact Zq (d::r) [] g.2 x hx
  ·split at hx
   ·rename_i hc
    subst hc
    have g:=zaO (c:=13) (by decide) h
    split at hx
    ·rename_i hd
     subst hd
     rcases List.mem_cons.1 hx with rfl|hx
     ·exact g.1
     ·exact Zq r [] (Zr (c:=10) (by decide) g.2) x hx
    ·rcases List.mem_cons.1 hx with rfl|hx
     ·exact g.1
     ·exact Zq (d::r) [] g.2 x hx
   ·exact Zq (d::r) (cur++[c]) (by rw[ZF];exact h) x hx
termination_by s=>s.length
theorem zkO {c:UInt8} (h:zcV c=true):c.toNat<128:=by
 simp only[zcV,ZH,zn] at h
 rcases h with rfl|rfl<;>decide
theorem zic:∀(s:List UInt8) (n:Nat),n≤Zp s→validD s=true→validD (s.drop n)=true
 | [],n,_,_=>by simp;rfl
 | c::s,0,_,h=>h
 | c::s,n+1,hn,h=>by
  unfold Zp at hn
  simp only[List.takeWhile_cons] at hn
  split at hn
  ·rename_i hc
   simp only[Al2] at hn
   exact zic s n (by unfold Zp;omega) (Zr (zkO hc) h)
  ·simp at hn
theorem zfG:∀(L:List (List UInt8)) (a:Int),(0≤a→zbl L a≤a∧0≤zbl L a)∧(∀ s∈L,z1 s=false→zbl L a≤Zp s∧0≤zbl L a)
 | [],a=>⟨fun h=>⟨Int.le_refl _,h⟩,fun s hs=>nomatch hs⟩
 | s::r,a=>by
  simp only[zbl]
  have ih:=zfG r
  by_cases hb:z1 s=true
  ·rw[if_pos hb]
   refine⟨(ih a).1,fun x hx hxb=>?_⟩
   rcases List.mem_cons.1 hx with rfl|hx
   ·rw[hb] at hxb;cases hxb
   ·exact(ih a).2 x hx hxb
  ·rw[if_neg hb]
   by_cases hc:a<0∨(Zp s:Int)<a
   ·rw[if_pos hc]
    have h1:=(ih (Zp s)).1 (by omega)
    refine⟨fun h=>⟨by omega,h1.2⟩,fun x hx hxb=>?_⟩
    rcases List.mem_cons.1 hx with rfl|hx
    ·exact h1
    ·exact(ih _).2 x hx hxb
   ·rw[if_neg hc]
    have h1:=(ih a).1 (by omega)
    refine⟨fun _=>h1,fun x hx hxb=>?_⟩
    rcases List.mem_cons.1 hx with rfl|hx
    ·exact⟨by omega,h1.2⟩
    ·exact(ih _).2 x hx hxb
theorem zey {s:List UInt8} (h:z1 s=true):Zp s=s.length:=by
 unfold z1 at h
 unfold Zp
 rw[zcN s (yf.1 h)]
theorem zhd {l:List (List UInt8)} (h:∀ x∈l,validD x=true):∀ x∈zaz l,validD x=true:=by
 cases l with
 | nil=>exact fun x hx=>nomatch hx
 | cons y r =>
  intro x hx
  simp only[zaz] at hx
  rcases List.mem_cons.1 hx with rfl|hx
  ·exact h _ (.head _)
  ·obtain⟨s,hs,rfl⟩:=List.mem_map.1 hx
   have hv:=h s (.tail _ hs)
   by_cases hl:(indM (y::r)).toNat≤Zp s
   ·exact zic s _ hl hv
   ·cases hb:z1 s with
    | true =>
     have:=zey hb
     rw[List.drop_eq_nil_of_le (by omega)];rfl
    | false =>
     have:=(zfG r (-1)).2 s hs hb
     have e:indM (y::r)=zbl r (-1):=rfl
     rw[e] at hl
     omega
theorem zbT:∀ l:List (List UInt8),(∀ x∈l,validD x=true)→validD (Lib.join l [10])=true
 | [],_=>rfl
 | [x],h=>by simpa[Lib.join] using h x (.head _)
 | x::y::r,h=>by
  have e:Lib.join (x::y::r) [10]=x++10::Lib.join (y::r) [10]:=by simp[Lib.join]
  rw[e]
  exact YN (h x (.head _)) (zk6 (by decide) (zbT (y::r) fun z hz=>h z (.tail _ hz)))
theorem zkJ {l:List (List UInt8)}:∀ x∈zaG l,x∈l:=fun x hx=>by
 unfold zaG at hx
 have h1:=List.mem_reverse.1 hx
 exact List.mem_reverse.1 ((List.dropWhile_sublist _).subset h1)
theorem zfJ {raw:List UInt8} (h:validD raw=true):validD (yt raw)=true:=by
 unfold yt
 refine zbT _ fun x hx=>?_
 exact zhd (Zq raw [] h) x ((List.dropWhile_sublist _).subset (zkJ x hx))
theorem zjg {s s':List UInt8} {x:Tok} (hv:validD s=true) (h:yC s=some (x,s')):zi x=true∧validD s'=true:=by
 cases s with
 | nil=>cases h
 | cons c r =>
  simp only[yC] at h
  by_cases h1:zC.isPrefixOf (c::r)=true
  ·rw[if_pos h1] at h
   have e:=Yo h1
   simp only[zC,Al6,yR,Al2,Al3,List.drop_succ_cons,Nat.zero_add,Nat.reduceAdd] at e
   cases hr:yU (r.length+1) [] (r.drop 2) with
   | none=>rw[hr] at h;cases h
   | some y =>
    rw[hr] at h
    simp only[z6,Al1,Al8] at h
    obtain⟨rfl,rfl⟩:=h
    rw[e] at hv
    have g:=zbE _ _ _ y.1 y.2 hr (Zr (c:=34) (by decide) (Zr (c:=34) (by decide) (Zr (c:=34) (by decide) hv)))
    refine⟨?_,g.2⟩
    simp[zi,zfJ g.1]
  rw[if_neg h1] at h
  by_cases h2:c=34
  ·rw[if_pos h2] at h
   cases hr:Z5 ym r with
   | none=>rw[hr] at h;cases h
   | some y =>
    rw[hr] at h
    simp only[z6,Al1,Al8] at h
    obtain⟨rfl,rfl⟩:=h
    have g:=zhr (b:=y.1) (t':=y.2) hr (Zr (by rw[h2];decide) hv)
    exact⟨by simp[zi,g.1],g.2⟩
  rw[if_neg h2] at h
  by_cases h3:yS.isPrefixOf (c::r)=true
  ·rw[if_pos h3] at h
   have e:=Yo h3
   simp only[yS,Al6,yR,Al2,Al3,List.drop_succ_cons,Nat.zero_add,Nat.reduceAdd] at e
   simp only[Al1,Al8] at h
   obtain⟨rfl,rfl⟩:=h
   rw[e] at hv
   exact⟨by decide,Zr (c:=46) (by decide) (Zr (c:=46) (by decide) (Zr (c:=46) (by decide) hv))⟩
  rw[if_neg h3] at h
  by_cases h4:0≤Lib.indexByte zap c
  ·rw[if_pos h4] at h
   simp only[Al1,Al8] at h
   obtain⟨rfl,rfl⟩:=h
   have hm:=zd1 c
   have hm2:zab c=true:=by simpa[zab] using h4
   simp only[hm2,Bool.not_true,Bool.false_or,Al0,zn] at hm
   exact⟨by simp[zi,zcG,h4],Zr hm.2.2.2.2.2.2.2 hv⟩
  rw[if_neg h4] at h
  by_cases h5:isL c=true
  ·rw[if_pos h5] at h
   simp only[Al1,Al8] at h
   obtain⟨rfl,rfl⟩:=h
   refine⟨zgK h5,?_⟩
   have ht:validD ((c::r).take (yc (c::r)))=true:=zcy fun d hd=>by
    unfold yc at hd
    rw[zdy] at hd
    have:=zfr (p:=fun c=>isL c||isD c) _ d hd
    simp only[isL,isD,ZH,Al0,zn] at this
    omega
   rw[← zfv ht,List.take_append_drop];exact hv
  rw[if_neg h5] at h
  by_cases h6:(zH (c::r)).1=0
  ·rw[if_pos h6] at h;cases h
  rw[if_neg h6] at h
  split at h
  ·cases h
  ·simp only[Al1,Al8] at h
   obtain⟨rfl,rfl⟩:=h
   have hr:=zjt h6
   refine⟨hr,?_⟩
   have hk:Zl ((c::r).take (zH (c::r)).1)≠0:=by
    unfold Zl
    rw[zgH _ _ (Al4 _),List.length_take,Nat.min_eq_left (zcc _),if_pos rfl]
    have:=zjU h6
    omega
   have ht:validD ((c::r).take (zH (c::r)).1)=true:=zcy fun d hd=>(zeV hk d hd).2
   rw[← zfv ht,List.take_append_drop];exact hv
theorem zdL (p:UInt8→Bool):∀ r:List UInt8,r.drop (r.takeWhile p).length=r.dropWhile p
 | []=>rfl
 | c::r=>by
  simp only[List.takeWhile_cons,List.dropWhile_cons]
  split
  ·simp[zdL p r]
  ·rfl
theorem zjR {s:List UInt8} (hv:validD s=true):validD (s.drop (Ze s))=true:=by
 cases s with
 | nil=>rfl
 | cons c r =>
  simp only[Ze]
  split
  ·rename_i h
   have hc:c.toNat<128:=by rcases h with rfl|rfl|rfl|rfl|rfl<;>decide
   exact Zr hc hv
  ·split
   ·rename_i h
    have e:=Yo h
    rw[e] at hv
    have hb:validD zeh=true:=by decide
    rw[zfv hb] at hv
    exact hv
   ·split
    ·rename_i h
     subst h
     have hr:=Zr (c:=35) (by decide) hv
     rw[show 1+(r.takeWhile yb).length=(r.takeWhile yb).length+1 by omega,List.drop_succ_cons]
     have ec:r.takeWhile yb++r.dropWhile yb=r:=List.takeWhile_append_dropWhile
     rw[zdL]
     cases hd:r.dropWhile yb with
     | nil=>rfl
     | cons d t =>
      have hnd:yb d=false:=by
       have:=List.head_dropWhile_not yb (l:=r) (by rw[hd];simp)
       simpa[hd] using this
      have hdl:d.toNat<128:=by
       simp only[yb,Bool.not_eq_false',ZH,zn] at hnd
       rcases hnd with rfl|rfl<;>decide
      rw[hd] at ec
      rw[← ec] at hr
      exact zk6 hdl (zaO hdl hr).2
    ·exact hv
theorem zaL:∀(n:Nat) (l:List Tok) (s:List UInt8) (l':List Tok),yY n l s=.ok l'→validD s=true→l.all zi=true→l'.all zi=true
 | 0,_,_,_,h,_,_=>by cases h
 | n+1,l,s,l',h,hv,hl=>by
  simp only[yY] at h
  split at h
  ·cases h;exact hl
  ·split at h
   ·exact zaL n _ _ _ h (zjR hv) hl
   ·cases ho:yC s with
    | none=>rw[ho] at h;cases h
    | some x =>
     rw[ho] at h
     obtain⟨g1,g2⟩:=zjg (x:=x.1) (s':=x.2) hv ho
     exact zaL n _ _ _ h g2 (by simp[hl,g1])
theorem zdI:∀(n:Nat) (s:List UInt8),s.length≤n→zb1 s=true→validD s=true
 | 0,s,hn,_=>by
  obtain rfl:s=[]:=Zi.1 (by omega)
  rfl
 | n+1,s,hn,h=>by
  by_cases hne:s=[]
  ·subst hne;rfl
  ·rw[za8 hne] at h
   simp only[Al0,zn] at h
   rw[(zee hne (by omega)).1]
   exact zdI n _ (by rw[Zn];omega) h.2.2
theorem zgi {s:List UInt8} {l:List Tok} (h:Za s=.ok l):l.all zi=true:=by
 obtain⟨_,h2,h3⟩:=zgr h
 exact zaL _ _ _ _ h3 (zdI _ s (Al4 _) h2) rfl
end Go.Proofs.YtaielcdfcgpbiaaGreatDoor
