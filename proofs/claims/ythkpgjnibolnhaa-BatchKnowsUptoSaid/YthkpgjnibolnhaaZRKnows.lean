import Derived.JoinedCond
import Derived.Deep.CondSized
import Derived.ProofKit
import Derived.SizedLaws
import Derived.OpenShut
import Derived.Test.YthkpgjnibolnhaaM1
import Derived.Test.YthkpgjnibolnhaaM2
import Derived.Test.YthkpgjnibolnhaaM3
set_option maxRecDepth 100000
set_option linter.unusedSimpArgs false
set_option linter.unusedVariables false
namespace Go.Proofs.Ythkpgjnibolnhaa
open Go.Ab
end Go.Proofs.Ythkpgjnibolnhaa
namespace Go.Proofs.Ythkpgjnibolnhaa
open Go.Ab
open Go.ChangeShapes Go.WideShapes Go.ChangeAt Go.RowKit Go.WideElems
theorem own : ownKnob Try.prog.godebug = none := by kernel_rfl
theorem laidOut : laidOutB Try.prog = true := by kernel_rfl
end Go.Proofs.Ythkpgjnibolnhaa
namespace Go.Proofs.Ythkpgjnibolnhaa
open Go.Ab
theorem membersR (a b : List Mem) (ha : a.length ≤ Lim) (hc : ∀ s v, Mem.mk s v ∈ a → ∀ u, Pure Try.prog 64 [.agg (cV v), .agg (cV u)] (.bool (eqd v u))) :
    Pure Try.prog 63 [.sl .no 6 (cMs a), .sl .no 6 (cMs b)] (.bool (eqd a b)) := by
  refine Pure.go ir63 ck63 (Nat.le_refl _) fun KP Q hQ => ?_
  have h1 := cMs_len a
  have h2 := cMs_len b
  simp only [Lim] at ha
  by_cases hl : a.length = b.length
  case neg =>
    have hl' : ¬ ((a.length : Int) = b.length) := by omega
    have hne : a ≠ b := fun e => hl (by rw [e])
    simp (disch := first | omega | assumption) only [ir63, h1, h2, hl', go_sem, ↓reduceIte]
    exact hQ _ _ _ _ nofun rfl (by simp [tupOf, envOf, AV.strip, AV.strip1, eqd_false hne])
  have hl' : ((a.length : Int) = b.length) = True := eq_true (by omega)
  simp (disch := first | omega | assumption) only [ir63, h1, h2, hl', go_sem, ↓reduceIte]
  refine goL_range a 5 (fun _ : Unit => []) (fun done rest n H => b.take done.length = done) () (by simp (disch := first | omega | assumption) only [go_sem, ↓reduceIte]) rfl ?_ ?_
  · rintro n H J hp hlt
    simp (disch := first | omega | assumption) only [h1, hlt, go_sem, ↓reduceIte]
    exact hQ _ _ _ _ nofun rfl (by simp [tupOf, envOf, AV.strip, AV.strip1, eqd_true (two_end hl hp)])
  · rintro done x rest n H J hd hlt _ hp hJ
    obtain ⟨y, r, hb⟩ := two_mid hd hl hp
    have g1 := cMs_get hd
    have g2 := cMs_get hb
    have hlt2 : (done.length : Int) < b.length := by omega
    have hmem : x ∈ a := by rw [hd]; simp
    have hst := two_step hb
    have hne : x ≠ y → a ≠ b := two_ne hd hb
    obtain ⟨s, v⟩ := x
    obtain ⟨t, u⟩ := y
    by_cases hs : s = t
    case neg =>
      have hne2 := hne (by simp [hs])
      simp (disch := first | omega | assumption) only [cV_len, cV_take, cV_splice, cM_len, cM_take, cM_splice, cM_mk, h1, h2, hlt, hlt2, g1, g2, hs, go_sem, ↓reduceIte]
      exact hQ _ _ _ _ nofun rfl (by simp [tupOf, envOf, AV.strip, AV.strip1, eqd_false hne2])
    simp (disch := first | omega | assumption) only [cV_len, cV_take, cV_splice, cM_len, cM_take, cM_splice, cM_mk, h1, h2, hlt, hlt2, g1, g2, hs, go_sem, ↓reduceIte]
    refine goK_pure (hc s v hmem u) ?_
    by_cases hv : v = u
    · simp (disch := first | omega | assumption) only [eqd_true hv, go_sem, ↓reduceIte]
      exact goJ (hJ () _ (by rw [hs, hv]; exact hst)) (by simp (disch := first | omega | assumption) only [wrap64, go_sem, ↓reduceIte])
    · have := hne (by simp [hv])
      simp (disch := first | omega | assumption) only [eqd_false hv, go_sem, ↓reduceIte]
      exact hQ _ _ _ _ nofun rfl (by simp [tupOf, envOf, AV.strip, AV.strip1, eqd_false this])
theorem sameR : ∀ v, bV v ≤ Lim → ∀ u, Pure Try.prog 64 [.agg (cV v), .agg (cV u)] (.bool (eqd v u)) := by
  refine Val.ind fun k n s l m ihl ihm hb u => ?_
  obtain ⟨k', n', s', l', m'⟩ := u
  have hb' : 1 + s.length + bVs l + bMs m ≤ Lim := hb
  have hll := bVs_len l
  have hml := bMs_len m
  have il : ∀ x ∈ l, ∀ y, Pure Try.prog 64 [.agg (cV x), .agg (cV y)] (.bool (eqd x y)) := fun x hx y => by
    obtain ⟨a, b, hd⟩ := List.append_of_mem hx
    have := bVs_mid a x b
    rw [← hd] at this
    exact ihl x hx (by omega) y
  have im : ∀ s v, Mem.mk s v ∈ m → ∀ u, Pure Try.prog 64 [.agg (cV v), .agg (cV u)] (.bool (eqd v u)) := fun t v hx u => by
    obtain ⟨a, b, hd⟩ := List.append_of_mem hx
    have := bMs_mid a (.mk t v) b
    rw [← hd] at this
    simp only [bM] at this
    exact ihm t v hx (by omega) u
  refine Pure.go ir64 ck64 (Nat.le_refl _) fun KP Q hQ => ?_
  have hlb := cVs_len l
  have hlb' := cVs_len l'
  by_cases h1 : k = k'
  case neg =>
    have hne : ¬ (Val.mk k n s l m = Val.mk k' n' s' l' m') := by simp [h1]
    simp (disch := first | omega | assumption) only [ir64, cV_mk, h1, go_sem, ↓reduceIte]
    exact hQ _ _ _ _ nofun rfl (by simp [tupOf, envOf, AV.strip, AV.strip1, eqd_false hne])
  by_cases h2 : n = n'
  case neg =>
    have hne : ¬ (Val.mk k n s l m = Val.mk k' n' s' l' m') := by simp [h2]
    simp (disch := first | omega | assumption) only [ir64, cV_mk, h1, h2, go_sem, ↓reduceIte]
    exact hQ _ _ _ _ nofun rfl (by simp [tupOf, envOf, AV.strip, AV.strip1, eqd_false hne])
  by_cases h3 : s = s'
  case neg =>
    have hne : ¬ (Val.mk k n s l m = Val.mk k' n' s' l' m') := by simp [h3]
    simp (disch := first | omega | assumption) only [ir64, cV_mk, h1, h2, h3, go_sem, ↓reduceIte]
    exact hQ _ _ _ _ nofun rfl (by simp [tupOf, envOf, AV.strip, AV.strip1, eqd_false hne])
  by_cases hl : l.length = l'.length
  case neg =>
    have hl' : ¬ ((l.length : Int) = l'.length) := by omega
    have hne : ¬ (Val.mk k n s l m = Val.mk k' n' s' l' m') := by simp only [Val.mk.injEq]; rintro ⟨_, _, _, e, _⟩; exact hl (by rw [e])
    simp (disch := first | omega | assumption) only [ir64, cV_mk, h1, h2, h3, hlb, hlb', hl', go_sem, ↓reduceIte]
    exact hQ _ _ _ _ nofun rfl (by simp [tupOf, envOf, AV.strip, AV.strip1, eqd_false hne])
  have hl' : ((l.length : Int) = l'.length) = True := eq_true (by omega)
  simp (disch := first | omega | assumption) only [ir64, cV_mk, h1, h2, h3, hlb, hlb', hl', go_sem, ↓reduceIte]
  simp only [Lim] at hb'
  refine goL_range l 5 (fun _ : Unit => []) (fun done rest n H => l'.take done.length = done) () (by simp (disch := first | omega | assumption) only [go_sem, ↓reduceIte]) rfl ?_ ?_
  · rintro _ H J hp hlt
    have e4 := two_end hl hp
    simp (disch := first | omega | assumption) only [hlb, hlt, go_sem, ↓reduceIte]
    refine goK_pure (membersR m m' (by simp only [Lim]; omega) im) ?_
    simp (disch := first | omega | assumption) only [go_sem, ↓reduceIte]
    have : eqd (Val.mk k n s l m) (Val.mk k' n' s' l' m') = eqd m m' := by
      by_cases h : m = m'
      · rw [eqd_true h, eqd_true (by rw [h1, h2, h3, e4, h])]
      · rw [eqd_false h, eqd_false (by simp [h])]
    exact hQ _ _ _ _ nofun rfl (by simp [tupOf, envOf, AV.strip, AV.strip1, this])
  · rintro done x rest _ H J hd hlt _ hp hJ
    obtain ⟨y, r, hb⟩ := two_mid hd hl hp
    have g1 := cVs_get hd
    have g2 := cVs_get hb
    have hlt2 : (done.length : Int) < l'.length := by omega
    simp (disch := first | omega | assumption) only [cV_len, cV_take, cV_splice, cM_len, cM_take, cM_splice, cM_mk, hlb, hlb', hlt, hlt2, g1, g2, go_sem, ↓reduceIte]
    refine goK_pure (il x (by rw [hd]; simp) y) ?_
    by_cases hxy : x = y
    · simp (disch := first | omega | assumption) only [eqd_true hxy, go_sem, ↓reduceIte]
      exact goJ (hJ () _ (by rw [hxy]; exact two_step hb)) (by simp (disch := first | omega | assumption) only [wrap64, go_sem, ↓reduceIte])
    · have hne : ¬ (Val.mk k n s l m = Val.mk k' n' s' l' m') := by simp only [Val.mk.injEq]; rintro ⟨_, _, _, e, _⟩; exact two_ne hd hb hxy e
      simp (disch := first | omega | assumption) only [eqd_false hxy, go_sem, ↓reduceIte]
      exact hQ _ _ _ _ nofun rfl (by simp [tupOf, envOf, AV.strip, AV.strip1, eqd_false hne])
end Go.Proofs.Ythkpgjnibolnhaa
namespace Go.Proofs.Ythkpgjnibolnhaa
open Go.Ab
def fl (es : List (Need × Got)) : List AV := (es.map fun x => cG x.2).flatten
theorem fl_len : ∀ es, (fl es).length = es.length * 6
  | [] => rfl
  | x :: r => by have := fl_len r; simp only [fl] at this; simp only [fl, List.map_cons, List.flatten_cons, List.length_append, this, List.length_cons]; simp [cG]; omega
theorem fl_app (a b : List (Need × Got)) : fl (a ++ b) = fl a ++ fl b := by simp [fl]
theorem fl_one (n : Need) (g : Got) : fl [(n, g)] = cG g := by simp [fl]
theorem fl_get (a : List (Need × Got)) (n : Need) (g : Got) (r : List (Need × Got)) (rest : List AV) : ((fl (a ++ (n, g) :: r) ++ rest).drop (0 + a.length * 6)).take 6 = cG g := by
  have e : fl (a ++ (n, g) :: r) ++ rest = fl a ++ (cG g ++ (fl r ++ rest)) := by rw [fl_app]; simp [fl]
  have e6 : (cG g).length = 6 := rfl
  rw [e, Nat.zero_add, List.drop_left' (fl_len a), List.take_left' e6]
theorem fl_set (a : List (Need × Got)) (n m : Need) (g h : Got) (r : List (Need × Got)) (rest : List AV) : splice (fl (a ++ (n, g) :: r) ++ rest) (0 + a.length * 6) (cG h) = fl (a ++ (m, h) :: r) ++ rest := by
  have e : ∀ n g, fl (a ++ (n, g) :: r) ++ rest = fl a ++ (cG g ++ (fl r ++ rest)) := fun n g => by rw [fl_app]; simp [fl]
  rw [e, e]
  unfold splice
  rw [Nat.zero_add, List.take_left' (fl_len a)]
  have e2 : (fl a ++ (cG g ++ (fl r ++ rest))).drop (a.length * 6 + (cG h).length) = fl r ++ rest := by
    rw [← List.append_assoc, List.drop_left']
    simp [fl_len, cG]
  rw [e2]; simp
theorem fl_push (es : List (Need × Got)) (n : Need) (g : Got) (rest : List AV) (hr : 6 ≤ rest.length) : splice (fl es ++ rest) (0 + es.length * 6) (cG g) = fl (es ++ [(n, g)]) ++ rest.drop 6 := by
  unfold splice
  rw [Nat.zero_add, List.take_left' (fl_len es), fl_app, fl_one]
  have : (fl es ++ rest).drop (es.length * 6 + (cG g).length) = rest.drop 6 := by
    rw [List.drop_append]; simp [fl_len, cG]
  rw [this]
theorem put_found {a : List (Need × Got)} {n : Need} {h g : Got} {r : List (Need × Got)} (hn : ∀ x ∈ a, x.1 ≠ n) : putG (a ++ (n, h) :: r) n g = a ++ (n, g) :: r := by
  induction a with
  | nil => simp [putG]
  | cons x a ih =>
    obtain ⟨m, k⟩ := x
    have h1 : n ≠ m := fun e => hn (m, k) (by simp) e.symm
    rw [List.cons_append, putG, if_neg h1, ih fun x hx => hn x (by simp [hx])]; rfl
theorem put_new {es : List (Need × Got)} {n : Need} {g : Got} (hn : ∀ x ∈ es, x.1 ≠ n) : putG es n g = es ++ [(n, g)] := by
  induction es with
  | nil => simp [putG]
  | cons x a ih =>
    obtain ⟨m, k⟩ := x
    have h1 : n ≠ m := fun e => hn (m, k) (by simp) e.symm
    rw [putG, if_neg h1, ih fun x hx => hn x (by simp [hx])]; rfl
theorem look_found {a : List (Need × Got)} {n : Need} {h : Got} {r : List (Need × Got)} (hn : ∀ x ∈ a, x.1 ≠ n) : lookG (a ++ (n, h) :: r) n = some h := by
  induction a with
  | nil => simp [lookG]
  | cons x a ih =>
    obtain ⟨m, k⟩ := x
    have h1 : n ≠ m := fun e => hn (m, k) (by simp) e.symm
    rw [List.cons_append, lookG, if_neg h1, ih fun x hx => hn x (by simp [hx])]
theorem look_none {es : List (Need × Got)} {n : Need} (hn : ∀ x ∈ es, x.1 ≠ n) : lookG es n = none := by
  induction es with
  | nil => rfl
  | cons x a ih =>
    obtain ⟨m, k⟩ := x
    have h1 : n ≠ m := fun e => hn (m, k) (by simp) e.symm
    rw [lookG, if_neg h1, ih fun x hx => hn x (by simp [hx])]
def nsOf (es : List (Need × Got)) : List Need := es.map (·.1)
theorem nsOf_len (es : List (Need × Got)) : (cNs (nsOf es)).length = es.length := by simp [cNs, nsOf]
theorem nsOf_get {es a : List (Need × Got)} {n : Need} {g : Got} {r : List (Need × Got)} (h : es = a ++ (n, g) :: r) : (cNs (nsOf es)).getD a.length [] = cN n := by
  subst h; simp [cNs, nsOf]
def GAt (H : Heap) (gb : Option Nat) (G : AV) (es : List (Need × Got)) : Prop :=
  match gb with
  | none => G = .sl .nil 6 [] ∧ es = []
  | some b => ∃ cap rest, G = .ms b 0 es.length cap ∧ H b = some (.cells (fl es ++ rest)) ∧ (fl es ++ rest).length = cap * 6 ∧ es.length ≤ cap ∧ es ≠ []
structure RefAt (H : Heap) (r : Nat) (gb : Option Nat) (oN : Own) (es : List (Need × Got)) : Prop where
  ex : ∃ G, H r = some (.cells [.sl oN 2 (cNs (nsOf es)), G]) ∧ GAt H gb G es
  own : Owned H oN es.length 2
theorem knowRefC {H : Heap} {r : Nat} {gb : Option Nat} {oN : Own} {es : List (Need × Got)} (hr : RefAt H r gb oN es) (hes : es.length ≤ Big) (n : Need) :
    ACalls Try.prog 35 [.ptr r 0, .agg (cN n)] H (fun e H' => ∃ v, e = .ret v ∧ (v = .tup [.agg (cG ((lookG es n).getD g0)), .bool (lookG es n).isSome] ∧ H' = H)) := by
  obtain ⟨⟨G, h1, hG⟩, how⟩ := hr
  refine ACalls.go ir35 ck35 (Nat.le_refl _) fun KP Q hQ => ?_
  simp only [Big] at hes
  have hnl := nsOf_len es
  simp (disch := first | omega | assumption) only [ir35, cN_len, cN_take, go_sem, ↓reduceIte]
  refine goA_intro fun b4 hb4 => ?_
  have n4 := ne_of_none hb4 h1
  have low : ∀ (H' : Heap) (y : AObj), Sub H H' → Low H (H'.upd b4 y) := fun H' y hs => Low.of_sub fun b o hbo => by
    have e1 : b ≠ b4 := fun e => by subst e; rw [hb4] at hbo; cases hbo
    rw [upd_ne e1]; exact hs _ _ hbo
  simp (disch := first | omega | assumption) only [go_sem, ↓reduceIte]
  refine goL_range es 6 (fun _ : Unit => []) (fun done rest _ H' => H' b4 = some (.cells [.str [], .str [], .sl .nil 6 [], .bool false, .bool false, .int .i64 0]) ∧ Sub H H' ∧ ∀ x ∈ done, x.1 ≠ n) () (by simp (disch := first | omega | assumption) only [go_sem, ↓reduceIte]) ⟨upd_same .., sub_upd (sub_refl H) hb4, by simp⟩ ?_ ?_
  · rintro ⟨⟩ H' J ⟨k4, hs, hno⟩ hlt
    have k1 := hs _ _ h1
    have hlk := look_none hno
    simp (disch := first | omega | assumption) only [k1, hnl, hlt, k4, go_sem, ↓reduceIte]
    refine hQ _ _ _ H [.agg [.str [], .str [], .sl .nil 6 [], .bool false, .bool false, .int .i64 0], .bool false] nofun (by simp (disch := first | omega | assumption) only [ir35, resvs, resv, upd_same, go_sem, ↓reduceIte]) (low _ _ hs) ⟨?_, rfl⟩
    rw [hlk]; rfl
  · rintro done ⟨n', g⟩ rest ⟨⟩ H' J hd hlt hlt2 ⟨k4, hs, hno⟩ hJ
    have k1 := hs _ _ h1
    have hg := nsOf_get hd
    by_cases hx : n' = n
    · subst hx
      have hlk : lookG es n' = some g := by rw [hd]; exact look_found hno
      cases gb with
      | none => exact absurd hG.2 (by rw [hd]; simp)
      | some b =>
        obtain ⟨cap, rst, rfl, hb, hcl, hcap, hne⟩ := hG
        have kb := hs _ _ hb
        have hgt : ((fl es ++ rst).drop (0 + done.length * 6)).take 6 = cG g := by rw [hd]; exact fl_get ..
        have hle : 0 + done.length * 6 + 6 ≤ (fl es ++ rst).length := by rw [hcl]; omega
        have spl : splice [.str [], .str [], .sl .nil 6 [], .bool false, .bool false, .int .i64 0] 0 (cG g) = cG g := rfl
        have gl : (cG g).length = 6 := rfl
        simp (disch := first | omega | assumption) only [k1, hnl, hlt, hg, cN_len, cN_take, fitsN, keqN, decide_true, kb, hgt, hle, k4, spl, gl, go_sem, ↓reduceIte]
        refine hQ _ _ _ H [.agg (cG g), .bool true] nofun (by simp (disch := first | omega | assumption) only [ir35, resvs, resv, upd_same, cG, go_sem, ↓reduceIte]) (low _ _ hs) ⟨?_, rfl⟩
        rw [hlk]; simp [tupOf, AV.strip, cG_strip, AV.strip1]
    · simp (disch := first | omega | assumption) only [k1, hnl, hlt, hg, cN_len, cN_take, fitsN, keqN, hx, wrap64, go_sem, ↓reduceIte]
      exact goJ (hJ () _ ⟨k4, hs, fun x hxm => by
        rcases List.mem_append.1 hxm with h | h
        · exact hno x h
        · rw [List.mem_singleton.1 h]; exact hx⟩) (by simp (disch := first | omega | assumption) only [go_sem, ↓reduceIte])
def Solid (y : AObj) : Prop := ∀ k sz, y ≠ .tip k sz
theorem keep_solid {H H' : Heap} {o : Own} {k sz x : Nat} {y : AObj} (how : Owned H o k sz) (hk : Kept H o H') (hx : H x = some y) (hs : Solid y) : H' x = some y :=
  hk x y hx fun d e => by
    subst e
    have : H x = some (.tip (d + k) sz) := how
    rw [hx] at this; cases this
    exact hs _ _ rfl
theorem own_solid {H : Heap} {o : Own} {k sz x : Nat} {y z : AObj} (how : Owned H o k sz) (hx : H x = some y) (hs : Solid y) : Owned (H.upd x z) o k sz := by
  cases o with
  | tip b d =>
    have hb : H b = some (.tip (d + k) sz) := how
    have : b ≠ x := fun e => by subst e; rw [hx] at hb; cases hb; exact hs _ _ rfl
    show (H.upd x z) b = _; rw [upd_ne this]; exact hb
  | no => exact how
  | nil => exact how
  | full => exact how
theorem solid_cells (cs : List AV) : Solid (.cells cs) := fun _ _ e => by cases e
theorem ref_ne {H : Heap} {r b : Nat} {x y : AV} {es : List (Need × Got)} {rst : List AV} {cap : Nat} (h1 : H r = some (.cells [x, y])) (hb : H b = some (.cells (fl es ++ rst))) (hl : (fl es ++ rst).length = cap * 6) : r ≠ b := fun e => by
  subst e
  rw [h1] at hb
  have := congrArg List.length (AObj.cells.inj (Option.some.inj hb))
  rw [hl] at this
  simp at this; omega
theorem tellRefC {H : Heap} {r : Nat} {gb : Option Nat} {oN : Own} {es : List (Need × Got)} (hr : RefAt H r gb oN es) (hes : es.length ≤ 100) (n : Need) (g : Got) :
    ACalls Try.prog 30 [.ptr r 0, .agg (cN n), .agg (cG g)] H (fun e H' => ∃ v, e = .ret v ∧ (v = .tup [] ∧ ∃ gb' oN', RefAt H' r gb' oN' (putG es n g) ∧ ∀ x y, Solid y → H x = some y → x ≠ r → gb ≠ some x → H' x = some y ∧ gb' ≠ some x)) := by
  obtain ⟨⟨G, h1, hG⟩, how⟩ := hr
  refine ACalls.go ir30 ck30 (Nat.le_refl _) fun KP Q hQ => ?_
  have hnl := nsOf_len es
  simp (disch := first | omega | assumption) only [ir30, cN_len, cN_take, go_sem, ↓reduceIte]
  refine goL_range es 6 (fun _ : Unit => []) (fun done rest _ H' => H' = H ∧ ∀ x ∈ done, x.1 ≠ n) () (by simp (disch := first | omega | assumption) only [go_sem, ↓reduceIte]) ⟨rfl, by simp⟩ ?_ ?_
  · rintro ⟨⟩ H' J ⟨rfl, hno⟩ hlt
    have hput := put_new (g := g) hno
    have gl : (cG g).length = 6 := rfl
    have gt : (cG g).take 6 = cG g := rfl
    simp (disch := first | omega | assumption) only [h1, hnl, hlt, cN_len, cN_take, gl, gt, go_sem, ↓reduceIte]
    have hwn : Owned H' oN (cNs (nsOf es)).length 2 := by rw [hnl]; exact how
    have ens : cNs (nsOf es) ++ [List.map AV.strip1 (cN n)].map (·.map AV.strip1) = cNs (nsOf (es ++ [(n, g)])) := by simp [cNs, nsOf, cN, AV.strip1]
    refine goP_ownS hwn (by simp [hnl]; omega) (by simp [hnl, maxLen]; omega) fun o1 H1 hs1 => ?_
    rw [ens]
    have k1 := keep_solid hwn hs1.kept h1 (solid_cells _)
    have ho1 : Owned H1 o1 (es ++ [(n, g)]).length 2 := by
      have := hs1.own; simpa [hnl] using this
    have sg : List.map AV.strip1 (cG g) = cG g := rfl
    have keep : ∀ x y, Solid y → H' x = some y → H1 x = some y := fun x y hs hx => keep_solid hwn hs1.kept hx hs
    cases gb with
    | none =>
      obtain ⟨rfl, rfl⟩ := hG
      simp (disch := first | omega | assumption) only [k1, gl, gt, sg, go_sem, ↓reduceIte]
      refine goPm_nil rfl (by simp) (by simp [maxLen]) (fun e => by simp at e) fun _ b cap hb hcap hm => ?_
      have nb : r ≠ b := fun e => by subst e; rw [hb] at k1; cases k1
      have hcap : 1 ≤ cap := hcap
      have r1 : ∀ cs, (H1.upd b cs) r = some (.cells [.sl oN 2 (cNs (nsOf [])), .sl .nil 6 []]) := fun cs => by rw [upd_ne nb]; exact k1
      simp (disch := first | omega | assumption) only [r1, nb, Ne.symm nb, sg, go_sem, ↓reduceIte]
      refine hQ _ _ _ _ [] nofun (by simp (disch := first | omega | assumption) only [ir30, resvs, resv, go_sem, ↓reduceIte]) (Low.refl _) ⟨rfl, some b, o1, ⟨⟨.ms b 0 1 cap, ?_, ?_⟩, ?_⟩, ?_⟩
      · rw [hput]; simp [Heap.upd, nb]
      · rw [hput]
        refine ⟨cap, madeA [.str [], .str [], .sl .nil 6 [], .bool false, .bool false, .int .i64 0] (cap - 1), rfl, ?_, ?_, hcap, by simp⟩
        · simp [Heap.upd, nb, Ne.symm nb, fl]; rfl
        · simp [fl, madeA_length, cG]; omega
      · rw [hput]
        exact own_solid (ho1.upd hb) (r1 _) (solid_cells _)
      · intro x y hs hx hxr _
        have hx1 := keep x y hs hx
        have hxb : x ≠ b := fun e => by subst e; rw [hb] at hx1; cases hx1
        exact ⟨by simp [Heap.upd, hxr, hxb, hx1], by simpa using Ne.symm hxb⟩
    | some b =>
      obtain ⟨cap, rst, rfl, hb, hcl, hcap, hne⟩ := hG
      have hrb := ref_ne h1 hb hcl
      have kb := keep _ _ (solid_cells _) hb
      simp (disch := first | omega | assumption) only [k1, gl, gt, sg, go_sem, ↓reduceIte]
      have sf : List.map AV.strip1 [cG g].flatten = cG g := rfl
      have hfl := fl_len es
      have hrl : es.length * 6 + rst.length = cap * 6 := by rw [← hcl, List.length_append, hfl]
      have hl1 : (es ++ [(n, g)]).length = es.length + 1 := by simp
      refine goPm_ms kb rfl (by simp; omega) (by simp [maxLen]; omega) (fun hfit => ⟨?_, ?_⟩) (fun hnf => ⟨?_, fun b' cap' hb' hcap' hm' => ?_⟩)
      · have hfit : es.length + 1 ≤ cap := hfit
        show 0 + (es.length + 1) * 6 ≤ _
        rw [hcl]; omega
      · have hfit : es.length + 1 ≤ cap := hfit
        rw [sf, fl_push es n g rst (by omega)]
        have r1 : ∀ cs, (H1.upd b cs) r = some (.cells [.sl oN 2 (cNs (nsOf es)), .ms b 0 es.length cap]) := fun cs => by rw [upd_ne hrb]; exact k1
        simp (disch := first | omega | assumption) only [r1, hrb, Ne.symm hrb, sg, go_sem, ↓reduceIte]
        refine hQ _ _ _ _ [] nofun (by simp (disch := first | omega | assumption) only [ir30, resvs, resv, go_sem, ↓reduceIte]) (Low.refl _) ⟨rfl, some b, o1, ⟨⟨.ms b 0 (es.length + 1) cap, ?_, ?_⟩, ?_⟩, ?_⟩
        · rw [hput]; simp [Heap.upd, hrb]
        · rw [hput]
          refine ⟨cap, rst.drop 6, by rw [hl1], by simp [Heap.upd, hrb, Ne.symm hrb], ?_, by rw [hl1]; exact hfit, by simp⟩
          rw [List.length_append, fl_len, hl1, List.length_drop]; omega
        · rw [hput]
          exact own_solid (own_solid ho1 kb (solid_cells _)) (r1 _) (solid_cells _)
        · intro x y hs hx hxr hgb
          have hxb : x ≠ b := fun e => hgb (by rw [e])
          exact ⟨by simp [Heap.upd, hxr, hxb, keep x y hs hx], hgb⟩
      · show 0 + es.length * 6 ≤ _
        rw [hcl]; omega
      · have nb : r ≠ b' := fun e => by subst e; rw [hb'] at k1; cases k1
        have hcap' : es.length + 1 ≤ cap' := hcap'
        have e1 : (List.drop 0 (fl es ++ rst)).take (es.length * 6) = fl es := by rw [List.drop_zero, List.take_left' hfl]
        rw [e1, sf]
        have r1 : ∀ cs, (H1.upd b' cs) r = some (.cells [.sl oN 2 (cNs (nsOf es)), .ms b 0 es.length cap]) := fun cs => by rw [upd_ne nb]; exact k1
        simp (disch := first | omega | assumption) only [r1, nb, Ne.symm nb, sg, go_sem, ↓reduceIte]
        refine hQ _ _ _ _ [] nofun (by simp (disch := first | omega | assumption) only [ir30, resvs, resv, go_sem, ↓reduceIte]) (Low.refl _) ⟨rfl, some b', o1, ⟨⟨.ms b' 0 (es.length + 1) cap', ?_, ?_⟩, ?_⟩, ?_⟩
        · rw [hput]; simp [Heap.upd, nb]
        · rw [hput]
          refine ⟨cap', madeA [.str [], .str [], .sl .nil 6 [], .bool false, .bool false, .int .i64 0] (cap' - (es.length + 1)), by rw [hl1], ?_, ?_, by rw [hl1]; exact hcap', by simp⟩
          · simp [Heap.upd, nb, Ne.symm nb, fl_app, fl_one]
          · rw [List.length_append, fl_len, hl1, madeA_length]; simp; omega
        · rw [hput]
          exact own_solid (ho1.upd hb') (r1 _) (solid_cells _)
        · intro x y hs hx hxr hgb
          have hx1 := keep x y hs hx
          have hxb : x ≠ b' := fun e => by subst e; rw [hb'] at hx1; cases hx1
          exact ⟨by simp [Heap.upd, hxr, hxb, hx1], by simpa using Ne.symm hxb⟩
  · rintro done ⟨n', g'⟩ rest ⟨⟩ H' J hd hlt hlt2 ⟨rfl, hno⟩ hJ
    have hg := nsOf_get hd
    by_cases hx : n' = n
    · subst hx
      have hput : putG es n' g = done ++ (n', g) :: rest := by rw [hd]; exact put_found hno
      cases gb with
      | none => exact absurd hG.2 (by rw [hd]; simp)
      | some b =>
        obtain ⟨cap, rst, rfl, hb, hcl, hcap, hne⟩ := hG
        have hrb := ref_ne h1 hb hcl
        have hst : splice (fl es ++ rst) (0 + done.length * 6) (cG g) = fl (done ++ (n', g) :: rest) ++ rst := by rw [hd]; exact fl_set ..
        have hle : 0 + done.length * 6 + 6 ≤ (fl es ++ rst).length := by rw [hcl]; omega
        have gl : (cG g).length = 6 := rfl
        have gt : (cG g).take 6 = cG g := rfl
        simp (disch := first | omega | assumption) only [h1, hnl, hlt, hg, cN_len, cN_take, fitsN, keqN, decide_true, hb, hle, hst, gl, gt, go_sem, ↓reduceIte]
        have hl2 : (done ++ (n', g) :: rest).length = es.length := by rw [hd]; simp
        refine hQ _ _ _ _ [] nofun (by simp (disch := first | omega | assumption) only [ir30, resvs, resv, go_sem, ↓reduceIte]) (Low.refl _) ⟨rfl, some b, oN, ⟨⟨.ms b 0 es.length cap, ?_, ?_⟩, ?_⟩, ?_⟩
        · rw [upd_ne hrb, h1, hput]
          have : nsOf (done ++ (n', g) :: rest) = nsOf es := by rw [hd]; simp [nsOf]
          rw [this]
        · refine ⟨cap, rst, by rw [hput, hl2], by rw [hput]; exact upd_same .., ?_, by rw [hput, hl2]; exact hcap, by rw [hput]; simp⟩
          rw [hput, ← hcl]; simp [fl_len, hl2]
        · rw [hput, hl2]; exact own_solid how hb (solid_cells _)
        · intro x y hs hx hxr hgb
          have : x ≠ b := fun e => hgb (by rw [e])
          exact ⟨by rw [upd_ne this]; exact hx, hgb⟩
    · simp (disch := first | omega | assumption) only [h1, hnl, hlt, hg, cN_len, cN_take, fitsN, keqN, hx, wrap64, go_sem, ↓reduceIte]
      exact goJ (hJ () _ ⟨rfl, fun x hxm => by
        rcases List.mem_append.1 hxm with h | h
        · exact hno x h
        · rw [List.mem_singleton.1 h]; exact hx⟩) (by simp (disch := first | omega | assumption) only [go_sem, ↓reduceIte])
theorem Owned.subB {H H' : Heap} {o : Own} {k sz : Nat} (h : Owned H o k sz) (hs : Sub H H') : Owned H' o k sz := by
  cases o with
  | tip b d => exact hs _ _ h
  | no => exact h
  | nil => exact h
  | full => exact h
theorem RefAt.sub {H H' : Heap} {r : Nat} {gb : Option Nat} {oN : Own} {es : List (Need × Got)} (h : RefAt H r gb oN es) (hs : Sub H H') : RefAt H' r gb oN es := by
  obtain ⟨⟨G, h1, hG⟩, how⟩ := h
  refine ⟨⟨G, hs _ _ h1, ?_⟩, Owned.subB how hs⟩
  cases gb with
  | none => exact hG
  | some b =>
    obtain ⟨cap, rst, e, hb, hr⟩ := hG
    exact ⟨cap, rst, e, hs _ _ hb, hr⟩
theorem dd_snoc {α : Type} [DecidableEq α] (x : α) : ∀ (l out : List α), dd out (l ++ [x]) = if x ∈ dd out l then dd out l else dd out l ++ [x]
  | [], out => by by_cases h : x ∈ out <;> simp [dd, h]
  | y :: l, out => by
    rw [List.cons_append, dd, dd]
    split
    · exact dd_snoc x l out
    · exact dd_snoc x l (out ++ [y])
theorem fresh_snoc (es : List (Need × Got)) (l : List Need) (x : Need) : freshG es (l ++ [x]) = if (lookG es x).isNone = true ∧ x ∉ freshG es l then freshG es l ++ [x] else freshG es l := by
  have hm : x ∈ freshG es l ↔ x ∈ dd [] l ∧ (lookG es x).isNone = true := by simp [freshG, List.mem_filter]
  have hs := dd_snoc x l []
  cases hx : (lookG es x).isNone
  · rw [if_neg (by simp), freshG, hs]
    split
    · rfl
    · rw [List.filter_append]; simp [hx, freshG]
  · rw [hx] at hm
    by_cases hd : x ∈ dd [] l
    · rw [if_neg (fun e => e.2 (hm.2 ⟨hd, rfl⟩)), freshG, hs, if_pos hd]; rfl
    · rw [if_pos ⟨rfl, fun e => hd (hm.1 e).1⟩, freshG, hs, if_neg hd, List.filter_append]; simp [hx, freshG]
theorem fresh_len (es : List (Need × Got)) (l : List Need) : (freshG es l).length ≤ l.length := by
  have h1 := List.length_filter_le (fun n => (lookG es n).isNone) (dd [] l)
  have h2 := dd_len l []
  simp only [freshG]; simp at h2; omega
theorem freshRefC {H : Heap} {r : Nat} {gb : Option Nat} {oN : Own} {es : List (Need × Got)} (hr : RefAt H r gb oN es) (hes : es.length ≤ Big) (l : List Need) (hl : l.length ≤ Big) :
    ACalls Try.prog 32 [.ptr r 0, .sl .no 2 (cNs l)] H (fun e H' => ∃ v, e = .ret v ∧ (v = .sl .no 2 (cNs (freshG es l)) ∧ H' = H)) := by
  refine ACalls.go ir32 ck32 (Nat.le_refl _) fun KP Q hQ => ?_
  have hlb := hl
  simp only [Big] at hlb
  have hll := cNs_len l
  simp (disch := first | omega | assumption) only [ir32, go_sem, ↓reduceIte]
  refine goL_range l 6 (fun s : Own × List Need => [(5, .sl s.1 2 (cNs s.2))]) (fun done rest s H' => s.2 = freshG es done ∧ OwnF H H' s.1 s.2.length 2) (.nil, []) (by simp (disch := first | omega | assumption) only [go_sem, ↓reduceIte] <;> simp [cNs]) ⟨rfl, OwnF.nil _ _⟩ ?_ ?_
  · rintro ⟨o1, out⟩ H1 J ⟨hout, how⟩ hlt
    simp only at hout
    subst hout
    simp (disch := first | omega | assumption) only [hll, hlt, go_sem, ↓reduceIte]
    refine hQ _ _ _ H _ nofun rfl (Low.of_sub how.sub) ⟨?_, rfl⟩
    simp [tupOf, envOf, AV.strip, AV.strip1]
  · rintro done x rest ⟨o1, out⟩ H1 J hd hlt hlt' ⟨hout, how⟩ hJ
    have hg := cNs_get hd
    simp only at hout how
    have hob : out.length ≤ done.length := by rw [hout]; exact fresh_len es done
    have hol2 := cNs_len out
    have hfs := fresh_snoc es done x
    rw [← hout] at hfs
    simp (disch := first | omega | assumption) only [hll, hlt, hg, cN_len, cN_take, go_sem, ↓reduceIte]
    refine goK_ret (knowRefC (hr.sub how.sub) hes x) fun v H2 ⟨hv, hH⟩ => ?_
    subst hv; subst hH
    simp (disch := first | omega | assumption) only [go_sem, ↓reduceIte]
    refine goA_intro fun b8 hb8 => ?_
    obtain ⟨gr, hgr⟩ : ∃ gr, lookG es x = gr := ⟨_, rfl⟩
    rw [hgr] at hfs
    rw [hgr]
    have how8 := how.upd (x := .cells (cG (gr.getD g0))) hb8
    cases gr with
    | some g =>
      rw [if_neg (by simp)] at hfs
      simp (disch := first | omega | assumption) only [cG, Option.getD_some, Option.isSome_some, wrap64, go_sem, ↓reduceIte]
      exact goJ (hJ (o1, out) _ ⟨hfs.symm, how8⟩) (by simp (disch := first | omega | assumption) only [hll, go_sem, ↓reduceIte])
    | none =>
      simp (disch := first | omega | assumption) only [cG, Option.getD_none, Option.isSome_none, hll, hlt, hg, cN_len, cN_take, go_sem, ↓reduceIte]
      refine goK_pure (Pure.low (hasNeedR out (by simp only [Big]; omega) x)) ?_
      by_cases hx : x ∈ out
      · rw [if_neg (fun e => e.2 hx)] at hfs
        simp (disch := first | omega | assumption) only [hx, wrap64, go_sem, ↓reduceIte]
        exact goJ (hJ (o1, out) _ ⟨hfs.symm, how8⟩) (by simp (disch := first | omega | assumption) only [hll, go_sem, ↓reduceIte])
      · rw [if_pos ⟨rfl, hx⟩] at hfs
        simp (disch := first | omega | assumption) only [hll, hlt, hg, hx, cN_len, cN_take, cN, go_sem, ↓reduceIte]
        refine goP_ownS (by rw [hol2]; exact how8.own) ?_ ?_ fun o' H' hos => ?_
        · simp only [hol2, List.length_cons, List.length_nil]; omega
        · simp only [hol2, List.length_cons, List.length_nil, maxLen]; omega
        simp only [hol2, List.length_cons, List.length_nil, Nat.zero_add] at hos
        simp (disch := first | omega | assumption) only [wrap64, AV.strip1, cNs_app, go_sem, ↓reduceIte]
        exact goJ (hJ (o', out ++ [x]) _ ⟨hfs.symm, by simpa using how8.stepS hos⟩) (by simp (disch := first | omega | assumption) only [hll, go_sem, ↓reduceIte])
theorem keqb (a b : Bool) : (a == b) = decide (a = b) := by cases a <;> cases b <;> rfl
theorem sameRowR (a b : Got) (ha : bMs a.cols ≤ Lim) : Pure Try.prog 58 [.agg [.str a.key, .str a.typ, .sl .no 6 (cMs a.cols), .bool a.broken], .agg [.str b.key, .str b.typ, .sl .no 6 (cMs b.cols), .bool b.broken]] (.bool (decide (a.key = b.key) && (decide (a.typ = b.typ) && (decide (a.broken = b.broken) && eqd a.cols b.cols)))) := by
  refine Pure.go ir58 ck58 (Nat.le_refl _) fun KP Q hQ => ?_
  simp (disch := first | omega | assumption) only [ir58, go_sem, ↓reduceIte]
  by_cases h1 : a.key = b.key
  case neg =>
    simp (disch := first | omega | assumption) only [h1, go_sem, ↓reduceIte]
    exact hQ _ _ _ _ nofun rfl (by simp [tupOf, envOf, AV.strip, AV.strip1, h1])
  by_cases h2 : a.typ = b.typ
  case neg =>
    simp (disch := first | omega | assumption) only [h1, h2, go_sem, ↓reduceIte]
    exact hQ _ _ _ _ nofun rfl (by simp [tupOf, envOf, AV.strip, AV.strip1, h1, h2])
  by_cases h3 : a.broken = b.broken
  case neg =>
    simp (disch := first | omega | assumption) only [h1, h2, keqb, h3, go_sem, ↓reduceIte]
    exact hQ _ _ _ _ nofun rfl (by simp [tupOf, envOf, AV.strip, AV.strip1, h1, h2, h3])
  simp (disch := first | omega | assumption) only [h1, h2, keqb, h3, go_sem, ↓reduceIte]
  refine goK_pure (membersR a.cols b.cols (by have := bMs_len a.cols; omega) fun s v hm u => sameR v (by
    obtain ⟨x, y, hd⟩ := List.append_of_mem hm
    have := bMs_mid x (.mk s v) y
    rw [← hd] at this
    simp only [bM] at this
    omega) u) ?_
  simp (disch := first | omega | assumption) only [go_sem, ↓reduceIte]
  exact hQ _ _ _ _ nofun rfl (by simp [tupOf, envOf, AV.strip, AV.strip1, h1, h2, h3])
theorem sameGotR (a : Got) (ha : bMs a.cols ≤ Lim) : Pure Try.prog 36 [.agg (cG a), .agg (cG a)] (.bool true) := by
  refine Pure.go ir36 ck36 (Nat.le_refl _) fun KP Q hQ => ?_
  simp (disch := first | omega | assumption) only [ir36, cG, keqb, go_sem, ↓reduceIte]
  refine goK_pure (sameRowR a a ha) ?_
  rw [eqd_true rfl]
  simp (disch := first | omega | assumption) only [go_sem, ↓reduceIte]
  exact hQ _ _ _ _ nofun rfl (by simp [tupOf, envOf, AV.strip, AV.strip1])
theorem lightRowC (a : Got) (ha : 1 + a.key.length + a.typ.length + (1 + bMs a.cols) ≤ Lim) : Pure Try.prog 28 [.agg [.str a.key, .str a.typ, .sl .no 6 (cMs a.cols), .bool a.broken]] (.int .i64 (1 + a.key.length + a.typ.length + ((1 + bMs a.cols : Nat) : Int))) := by
  refine Pure.go ir28 ck28 (Nat.le_refl _) fun KP Q hQ => ?_
  have hsz : bV (.mk 0 0 [] [] a.cols) = 1 + bMs a.cols := by simp [bV, bVs]
  simp only [Lim] at ha
  simp (disch := first | omega | assumption) only [ir28, go_sem, ↓reduceIte]
  refine goK_pure (Pure.low (sizeC (.mk 0 0 [] [] a.cols) (by rw [hsz]; simp only [Lim]; omega))) ?_
  rw [hsz]
  simp (disch := first | omega | assumption) only [wrap64, go_sem, ↓reduceIte]
  exact hQ _ _ _ _ nofun rfl (by simp [tupOf, envOf, AV.strip, AV.strip1])
end Go.Proofs.Ythkpgjnibolnhaa
namespace Go.Proofs.Ythkpgjnibolnhaa
open Go.Ab
structure OpB where
  k : Int
  n : Need
  g : Got
  l : List Need
def cOp (o : OpB) : List AV := [.int .i64 o.k, .str o.n.t, .str o.n.k, .str o.g.key, .str o.g.typ, .sl .no 6 (cMs o.g.cols), .bool o.g.broken, .bool o.g.is, .int .i64 o.g.e, .sl .no 2 (cNs o.l)]
def cOps (l : List OpB) : List (List AV) := l.map cOp
theorem cOps_len (l : List OpB) : (cOps l).length = l.length := by simp [cOps]
theorem cOps_get {l a : List OpB} {x : OpB} {b : List OpB} (h : l = a ++ x :: b) : (cOps l).getD a.length [] = cOp x := getD_mid' h
def bOp (o : OpB) : Nat := o.g.key.length + o.g.typ.length + bMs o.g.cols + o.l.length + 1
def bOps (l : List OpB) : Nat := (l.map bOp).sum
theorem bOps_mid (a : List OpB) (x : OpB) (b : List OpB) : bOps (a ++ x :: b) = bOps a + bOp x + bOps b := by simp [bOps]; omega
theorem bOps_len : ∀ l : List OpB, l.length ≤ bOps l
  | [] => Nat.zero_le _
  | x :: r => by have := bOps_len r; simp only [bOps, List.map_cons, List.sum_cons, List.length_cons, bOp] at this ⊢; omega
theorem gb_ne {H : Heap} {r : Nat} {gb : Option Nat} {oN : Own} {es : List (Need × Got)} (h : RefAt H r gb oN es) {x : Nat} {y : AObj} (hx : H x = some y) (hy : ∀ cs, y = .cells cs → cs.length % 6 ≠ 0) : gb ≠ some x := fun e => by
  subst e
  obtain ⟨⟨G, h1, cap, rst, e, hb, hl, _⟩, how⟩ := h
  rw [hx] at hb
  have h2 := hy _ (Option.some.inj hb)
  rw [hl] at h2
  exact h2 (Nat.mul_mod_left ..)
theorem r_ne {H : Heap} {r : Nat} {gb : Option Nat} {oN : Own} {es : List (Need × Got)} (h : RefAt H r gb oN es) {x : Nat} {y : AObj} (hx : H x = some y) (hy : ∀ cs, y = .cells cs → cs.length ≠ 2) : x ≠ r := fun e => by
  subst e
  obtain ⟨⟨G, h1, _⟩, _⟩ := h
  rw [hx] at h1
  exact hy _ (Option.some.inj h1) rfl
theorem RefAt.updMap {H : Heap} {r : Nat} {gb : Option Nat} {oN : Own} {es : List (Need × Got)} (h : RefAt H r gb oN es) {m : Nat} {kt kt' : KT} {x y : List (AV × AV)} (hm : H m = some (.map kt x)) : RefAt (H.upd m (.map kt' y)) r gb oN es := by
  have hn := r_ne h hm (fun cs e => by cases e)
  have hg := gb_ne h hm (fun cs e => by cases e)
  obtain ⟨⟨G, h1, hG⟩, how⟩ := h
  refine ⟨⟨G, by rw [upd_ne (Ne.symm hn)]; exact h1, ?_⟩, own_solid how hm (fun _ _ e => by cases e)⟩
  cases gb with
  | none => exact hG
  | some b =>
    obtain ⟨cap, rst, e, hb, hr⟩ := hG
    have : b ≠ m := fun e => hg (by rw [e])
    exact ⟨cap, rst, e, by rw [upd_ne this]; exact hb, hr⟩
structure Both (H : Heap) (c r : Nat) (k : Nat) : Prop where
  ex : ∃ m gb oN es, CacheAt H c m es ∧ RefAt H r gb oN es ∧ okG es ∧ es.length ≤ k ∧ ∀ x ∈ es, bMs x.2.cols ≤ 1048576
theorem Both.sub {H H' : Heap} {c r k : Nat} (h : Both H c r k) (hs : Sub H H') : Both H' c r k := by
  obtain ⟨m, gb, oN, es, h1, h2, h3⟩ := h
  exact ⟨m, gb, oN, es, h1.sub hs, h2.sub hs, h3⟩
theorem put_len (es : List (Need × Got)) (n : Need) (g : Got) : (putG es n g).length ≤ es.length + 1 := by
  induction es with
  | nil => simp [putG]
  | cons x a ih =>
    obtain ⟨m, k⟩ := x
    rw [putG]
    split
    · simp
    · simp only [List.length_cons]; omega
set_option maxHeartbeats 2000000 in
theorem knows (l : List OpB) (hb : bOps l ≤ 1048576) : Pure Try.prog 8 [.sl .no 10 (cOps l)] (.bool true) := by
  refine Pure.go ir8 ck8 (Nat.le_refl _) fun KP Q hQ => ?_
  have hll := cOps_len l
  have hlb := bOps_len l
  by_cases c1 : (60 : Int) < l.length
  · simp (disch := first | omega | assumption) only [ir8, hll, c1, go_sem, ↓reduceIte]
    refine goK_pure awakeB ?_
    simp (disch := first | omega | assumption) only [go_sem, ↓reduceIte]
    exact hQ _ _ _ _ nofun rfl (by simp [tupOf, envOf, AV.strip, AV.strip1])
  simp (disch := first | omega | assumption) only [ir8, hll, c1, go_sem, ↓reduceIte]
  refine goK_ret (newC _) fun v H ⟨c, m, hv, _, _, hc, _⟩ => ?_
  subst hv
  simp (disch := first | omega | assumption) only [go_sem, ↓reduceIte]
  refine goA_intro fun r hr => ?_
  have hc2 : CacheAt (H.upd r (.cells [.sl .nil 2 [], .sl .nil 6 []])) c m [] := hc.sub (sub_upd (sub_refl H) hr)
  have hr2 : RefAt (H.upd r (.cells [.sl .nil 2 [], .sl .nil 6 []])) r none .nil [] := ⟨⟨_, upd_same .., rfl, rfl⟩, rfl⟩
  have h0 : Both (H.upd r (.cells [.sl .nil 2 [], .sl .nil 6 []])) c r 0 := ⟨m, none, .nil, [], hc2, hr2, okG_nil, Nat.le_refl _, fun x hx => by cases hx⟩
  simp (disch := first | omega | assumption) only [go_sem, ↓reduceIte]
  refine goL_range l 5 (fun r : Nat => [(4, .ptr r 0)]) (fun done rest r H => Both H c r done.length) r (by simp (disch := first | omega | assumption) only [go_sem, ↓reduceIte]) h0 ?_ ?_
  · rintro r1 H1 J hB hlt
    simp (disch := first | omega | assumption) only [hll, hlt, go_sem, ↓reduceIte]
    refine goK_pure (knowNil ⟨[], []⟩) ?_
    simp (disch := first | omega | assumption) only [cG, g0, cMs, go_sem, ↓reduceIte]
    refine goA_intro fun b12 hb12 => ?_
    simp (disch := first | omega | assumption) only [go_sem, ↓reduceIte]
    refine goK_pure awakeB ?_
    simp (disch := first | omega | assumption) only [go_sem, ↓reduceIte]
    exact hQ _ _ _ _ nofun rfl (by simp [tupOf, envOf, AV.strip, AV.strip1])
  · rintro done o rest r1 H1 J hd hlt hlt2 hB hJ
    have hg := cOps_get hd
    have hbm := bOps_mid done o rest
    rw [← hd] at hbm
    simp only [bOp] at hbm
    simp (disch := first | omega | assumption) only [hll, hlt, go_sem, ↓reduceIte]
    refine goU_cut (fun r : Nat => [(4, .ptr r 0)]) (fun r H => Both H c r (done.length + 1)) (fun J2 hJ2 => ?_) ?_
    rotate_left
    · rintro r2 H2 hB2
      simp (disch := first | omega | assumption) only [wrap64, go_sem, ↓reduceIte]
      exact goJ (hJ r2 H2 (by simpa using hB2)) (by simp (disch := first | omega | assumption) only [go_sem, ↓reduceIte])
    simp (disch := first | omega | assumption) only [hll, hlt, hg, cOp, go_sem, ↓reduceIte]
    refine goA_intro fun b6 hb6 => ?_
    simp (disch := first | omega | assumption) only [hll, hlt, hg, cOp, go_sem, ↓reduceIte]
    have hB6 : Both (H1.upd b6 (.cells (cOp o))) c r1 done.length := hB.sub (sub_upd (sub_refl H1) hb6)
    have k6 : (H1.upd b6 (.cells (cOp o))) b6 = some (.cells (cOp o)) := upd_same ..
    unfold cOp at hB6 k6
    generalize (H1.upd b6 (.cells [.int .i64 o.k, .str o.n.t, .str o.n.k, .str o.g.key, .str o.g.typ, .sl .no 6 (cMs o.g.cols), .bool o.g.broken, .bool o.g.is, .int .i64 o.g.e, .sl .no 2 (cNs o.l)])) = H2 at *
    refine goK_pure (lightR o.l (by simp only [maxLen]; omega)) ?_
    cases hl1 : lightB o.l
    · simp (disch := first | omega | assumption) only [go_sem, ↓reduceIte]
      refine goK_pure awakeB ?_
      simp (disch := first | omega | assumption) only [go_sem, ↓reduceIte]
      exact hQ _ _ _ _ nofun rfl (by simp [tupOf, envOf, AV.strip, AV.strip1])
    simp (disch := first | omega | assumption) only [k6, go_sem, ↓reduceIte]
    refine goK_pure (Pure.low (lightR [o.n] (by simp [maxLen]))) ?_
    cases hl2 : lightB [o.n]
    · simp (disch := first | omega | assumption) only [go_sem, ↓reduceIte]
      refine goK_pure awakeB ?_
      simp (disch := first | omega | assumption) only [go_sem, ↓reduceIte]
      exact hQ _ _ _ _ nofun rfl (by simp [tupOf, envOf, AV.strip, AV.strip1])
    simp (disch := first | omega | assumption) only [k6, go_sem, ↓reduceIte]
    refine goK_pure (lightRowC o.g (by simp only [Lim]; omega)) ?_
    by_cases c3 : (2000 : Int) < 1 + o.g.key.length + o.g.typ.length + ((1 + bMs o.g.cols : Nat) : Int)
    · simp (disch := first | omega | assumption) only [c3, go_sem, ↓reduceIte]
      refine goK_pure awakeB ?_
      simp (disch := first | omega | assumption) only [go_sem, ↓reduceIte]
      exact hQ _ _ _ _ nofun rfl (by simp [tupOf, envOf, AV.strip, AV.strip1])
    simp (disch := first | omega | assumption) only [c3, go_sem, ↓reduceIte]
    refine goU_cut (fun r : Nat => [(4, .ptr r 0)]) (fun r H => Both H c r (done.length + 1) ∧ H b6 = some (.cells [.int .i64 o.k, .str o.n.t, .str o.n.k, .str o.g.key, .str o.g.typ, .sl .no 6 (cMs o.g.cols), .bool o.g.broken, .bool o.g.is, .int .i64 o.g.e, .sl .no 2 (cNs o.l)])) (fun J3 hJ3 => ?_) ?_
    · obtain ⟨m2, gb2, oN2, es2, hc2', hr2', hok2, hes2, hcol2⟩ := hB6
      have gl : (cG o.g).length = 6 := rfl
      have s6 : ∀ cs, AObj.cells [.int .i64 o.k, .str o.n.t, .str o.n.k, .str o.g.key, .str o.g.typ, .sl .no 6 (cMs o.g.cols), .bool o.g.broken, .bool o.g.is, .int .i64 o.g.e, .sl .no 2 (cNs o.l)] = .cells cs → cs.length = 10 := fun cs e => by cases e; rfl
      have hcm : ∀ {H : Heap} {c m : Nat} {es : List (Need × Got)}, CacheAt H c m es → b6 ≠ c → H b6 = some (.cells [.int .i64 o.k, .str o.n.t, .str o.n.k, .str o.g.key, .str o.g.typ, .sl .no 6 (cMs o.g.cols), .bool o.g.broken, .bool o.g.is, .int .i64 o.g.e, .sl .no 2 (cNs o.l)]) → b6 ≠ m := fun h _ hx e => by subst e; rw [h.hm] at hx; cases hx
      have n6c : b6 ≠ c := fun e => by
        subst e
        have := hc2'.hc; rw [k6] at this; cases this
      by_cases q0 : o.k = 0
      · have q0t := eq_true q0
        simp (disch := first | omega | assumption) only [k6, q0t, go_sem, ↓reduceIte]
        refine goK_ret (tellC hc2' o.n o.g (by have := bMs_len o.g.cols; simp only [Big]; omega)) fun v H4 ⟨hv, hH⟩ => ?_
        subst hv
        have n6m := hcm hc2' n6c k6
        have k6' : H4 b6 = some (.cells [.int .i64 o.k, .str o.n.t, .str o.n.k, .str o.g.key, .str o.g.typ, .sl .no 6 (cMs o.g.cols), .bool o.g.broken, .bool o.g.is, .int .i64 o.g.e, .sl .no 2 (cNs o.l)]) := by rw [hH, upd_ne n6m]; exact k6
        have hc4 : CacheAt H4 c m2 (putG es2 o.n o.g) := by rw [hH]; exact hc2'.upd o.n o.g
        have hr4 : RefAt H4 r1 gb2 oN2 es2 := by rw [hH]; exact hr2'.updMap hc2'.hm
        clear hH
        simp (disch := first | omega | assumption) only [k6', go_sem, ↓reduceIte]
        refine goK_ret (tellRefC hr4 (by omega) o.n o.g) fun v H5 ⟨hv, gb5, oN5, hr5, hfr⟩ => ?_
        subst hv
        have f1 := hfr c _ (solid_cells _) hc4.hc (r_ne hr4 hc4.hc fun cs e => by cases e; simp) (gb_ne hr4 hc4.hc fun cs e => by cases e; simp)
        have f2 := hfr m2 _ (fun _ _ e => by cases e) hc4.hm (r_ne hr4 hc4.hm fun cs e => by cases e) (gb_ne hr4 hc4.hm fun cs e => by cases e)
        have f3 := hfr b6 _ (solid_cells _) k6' (r_ne hr4 k6' fun cs e => by rw [s6 cs e]; decide) (gb_ne hr4 k6' fun cs e => by rw [s6 cs e]; decide)
        have hpl := put_len es2 o.n o.g
        have nx := hJ3 r1 H5 ⟨⟨m2, gb5, oN5, putG es2 o.n o.g, ⟨f1.1, f2.1⟩, hr5, hok2.put (by have := bMs_len o.g.cols; simp only [Big]; omega), by omega, fun x hx => by
          rcases put_mem hx with rfl | hx
          · simp only; omega
          · exact hcol2 x hx⟩, f3.1⟩
        simp (disch := first | omega | assumption) only [go_sem, ↓reduceIte]
        exact goJ nx (by simp (disch := first | omega | assumption) only [go_sem, ↓reduceIte])
      by_cases q2 : o.k = 2
      · have q2t := eq_true q2
        simp (disch := first | omega | assumption) only [k6, q0, q2t, go_sem, ↓reduceIte]
        refine goK_ret (freshC hc2' hok2 o.l (by simp only [Big]; omega)) fun v H4 ⟨hv, hH⟩ => ?_
        subst hv; subst hH
        simp (disch := first | omega | assumption) only [k6, go_sem, ↓reduceIte]
        refine goK_ret (freshRefC hr2' (by simp only [Big]; omega) o.l (by simp only [Big]; omega)) fun v H4 ⟨hv, hH⟩ => ?_
        subst hv; subst hH
        simp (disch := first | omega | assumption) only [go_sem, ↓reduceIte]
        refine goK_pure (sameNeedsR _ _ (by have := fresh_len es2 o.l; simp only [Big]; omega)) ?_
        have nx := hJ3 r1 H4 ⟨⟨m2, gb2, oN2, es2, hc2', hr2', hok2, by omega, hcol2⟩, k6⟩
        simp (disch := first | omega | assumption) only [go_sem, ↓reduceIte]
        exact goJ nx (by simp (disch := first | omega | assumption) only [go_sem, ↓reduceIte])
      by_cases q3 : o.k = 3
      · have q3t := eq_true q3
        simp (disch := first | omega | assumption) only [k6, q0, q2, q3t, go_sem, ↓reduceIte]
        refine goK_ret (flushC hc2') fun v H4 ⟨hv, m4, _, hc4, hfr⟩ => ?_
        subst hv
        have k6' := hfr b6 _ n6c k6
        simp (disch := first | omega | assumption) only [go_sem, ↓reduceIte]
        refine goA_intro fun b85 hb85 => ?_
        have n6 := ne_of_none hb85 k6'
        simp (disch := first | omega | assumption) only [go_sem, ↓reduceIte]
        have nx := hJ3 b85 (H4.upd b85 (.cells [.sl .nil 2 [], .sl .nil 6 []])) ⟨⟨m4, none, .nil, [], hc4.sub (sub_upd (sub_refl H4) hb85), ⟨⟨_, upd_same .., rfl, rfl⟩, rfl⟩, okG_nil, by simp, fun x hx => by cases hx⟩, by rw [upd_ne (Ne.symm n6)]; exact k6'⟩
        exact goJ nx (by simp (disch := first | omega | assumption) only [go_sem, ↓reduceIte])
      · simp (disch := first | omega | assumption) only [k6, q0, q2, q3, go_sem, ↓reduceIte]
        have nx := hJ3 r1 H2 ⟨⟨m2, gb2, oN2, es2, hc2', hr2', hok2, by omega, hcol2⟩, k6⟩
        exact goJ nx (by simp (disch := first | omega | assumption) only [go_sem, ↓reduceIte])
    · rintro r3 H3 ⟨⟨m3, gb3, oN3, es3, hc3, hr3, hok3, hes3, hcol3⟩, q6⟩
      have hlg : bMs ((lookG es3 o.n).getD g0).cols ≤ 1048576 := by
        cases hx : lookG es3 o.n with
        | none => simp [g0, bMs]
        | some g => exact hcol3 _ (look_mem hx)
      simp (disch := first | omega | assumption) only [q6, go_sem, ↓reduceIte]
      refine goK_ret (knowC hc3 hok3 o.n) fun v H4 ⟨hv, hH⟩ => ?_
      subst hv; subst hH
      have hgc : (cG ((lookG es3 o.n).getD g0)).length = 6 := rfl
      have hgt : (cG ((lookG es3 o.n).getD g0)).take 6 = cG ((lookG es3 o.n).getD g0) := rfl
      have hgs : splice [.str [], .str [], .sl .nil 6 [], .bool false, .bool false, .int .i64 0] 0 (cG ((lookG es3 o.n).getD g0)) = cG ((lookG es3 o.n).getD g0) := rfl
      simp (disch := first | omega | assumption) only [hgc, hgt, go_sem, ↓reduceIte]
      refine goA_intro fun b7 hb7 => ?_
      have n67 := Ne.symm (ne_of_none hb7 q6)
      have how7 : ∀ y, Sub H4 (H4.upd b7 y) := fun y => sub_upd (sub_refl H4) hb7
      simp (disch := first | omega | assumption) only [hgc, hgt, hgs, q6, n67, go_sem, ↓reduceIte]
      refine goK_ret (knowRefC (hr3.sub (how7 _)) (by simp only [Big]; omega) o.n) fun v H5 ⟨hv, hH⟩ => ?_
      subst hv
      have k7 : H5 b7 = some (.cells (cG ((lookG es3 o.n).getD g0))) := by rw [hH, upd_same]
      have hs5 : Sub H4 H5 := by rw [hH]; exact how7 _
      clear hH
      simp (disch := first | omega | assumption) only [hgc, hgt, go_sem, ↓reduceIte]
      refine goA_intro fun b9 hb9 => ?_
      have n79 := Ne.symm (ne_of_none hb9 k7)
      have q1 : (true == true) = true := rfl
      have q4 : (false == false) = true := rfl
      have fin : ∀ y, Both (H5.upd b9 y) c r3 (done.length + 1) := fun y => (Both.sub ⟨m3, gb3, oN3, es3, hc3, hr3, hok3, hes3, hcol3⟩ hs5).sub (sub_upd (sub_refl H5) hb9)
      generalize (lookG es3 o.n).getD g0 = gr at *
      generalize (lookG es3 o.n).isSome = si at *
      cases si
      all_goals
        simp (disch := first | omega | assumption) only [k7, n79, Ne.symm n79, hgc, hgt, hgs, q1, q4, Bool.not_true, go_sem, ↓reduceIte]
        refine goK_pure (sameGotR gr (by simp only [Lim]; omega)) ?_
        simp (disch := first | omega | assumption) only [go_sem, ↓reduceIte]
        exact goJ (hJ2 r3 _ (fin _)) (by simp (disch := first | omega | assumption) only [go_sem, ↓reduceIte])
end Go.Proofs.Ythkpgjnibolnhaa
namespace Go.Ab
open Go.ChangeShapes Go.WideShapes Go.ChangeAt Go.RowKit Go.WideElems
mutual
def blk {H : Type} : DataW H → Nat
  | .lit (.string bytes) => bytes.length + 1
  | .lit _ => 1
  | .nil => 1
  | .ptr d => blk d + 1
  | .slice elems spare => blkAll elems + blkAll spare + 1
  | .agg parts => blkAll parts + 1
  | .iface _ d => blk d + 1
  | .map entries => blkEs entries + 1
  | .held _ => 1
def blkAll {H : Type} : List (DataW H) → Nat
  | [] => 0
  | d :: r => blk d + blkAll r
def blkEs {H : Type} : List (Lit × DataW H) → Nat
  | [] => 0
  | x :: r => blkE x + blkEs r
def blkE {H : Type} : Lit × DataW H → Nat
  | (.string bytes, d) => bytes.length + blk d + 1
  | (_, d) => blk d + 1
end
theorem blk_pos {H : Type} (d : DataW H) : 1 ≤ blk d := by
  cases d with
  | lit l => cases l <;> simp [blk]
  | nil => simp [blk]
  | ptr d => simp [blk]
  | slice elems spare => simp [blk]
  | agg parts => simp [blk]
  | iface t d => simp [blk]
  | map entries => simp [blk]
  | held h => simp [blk]
theorem blk_take_succ {H : Type} (l : List (DataW H)) (k : Nat) (h : k < l.length) : blkAll (l.take (k + 1)) = blkAll (l.take k) + blk (l.getD k .nil) := by
  induction l generalizing k with
  | nil => simp at h
  | cons d r ih =>
    cases k with
    | zero => simp [blkAll]
    | succ k =>
      simp only [List.take_succ_cons, blkAll, List.getD_cons_succ]
      rw [ih k (by simpa using h)]
      omega
def DecB (P : Program) (m : Nat) (t : TypeId) (sz : Nat) {α : Type} (f : α → List AV) (ok : α → Prop) (g : α → Nat) : Prop :=
  ∀ {H : Type} (enc : TypeId × Value → H) (W : World) (cs : List Value) (d : DataW H) (ps : List MemPlace), DataW.trod enc P W 0 (fun _ => true) true m t cs = some (d, ps) →
    (∀ n ∈ d.weights P t, n ≤ reachBytes) → ∃ a, ok a ∧ g a ≤ blk d ∧ (f a).length = sz ∧ fillRel immG W (f a) cs
section
variable {P : Program} {m : Nat} {t : TypeId}
theorem DecB.zero {sz : Nat} {α : Type} {f : α → List AV} {ok : α → Prop} {g : α → Nat} : DecB P 0 t sz f ok g := fun enc W cs d ps h _ => by simp [DataW.trod] at h
theorem DecB.int {k : IntKind} (ht : P.underlying t = some (.int k)) : DecB P m t 1 (fun n : Int => [.int k n]) (fun n => (Lit.int k n).wf = true) (fun _ => 1) := by
  intro H enc W cs d ps h _
  obtain ⟨n, rfl, hx, hw⟩ := DataW.trod_int ht h
  simp only [Prod.mk.injEq] at hx
  obtain ⟨rfl, rfl⟩ := hx
  exact ⟨n, hw, Nat.le_refl _, rfl, fill_one (.int k n) rfl⟩
theorem DecB.bool (ht : P.underlying t = some .bool) : DecB P m t 1 (fun b : Bool => [.bool b]) (fun _ => True) (fun _ => 1) := by
  intro H enc W cs d ps h _
  obtain ⟨b, rfl, hx⟩ := DataW.trod_bool ht h
  simp only [Prod.mk.injEq] at hx
  obtain ⟨rfl, rfl⟩ := hx
  exact ⟨b, trivial, Nat.le_refl _, rfl, fill_one (.bool b) rfl⟩
theorem DecB.str (ht : P.underlying t = some .string) : DecB P m t 1 (fun s : List UInt8 => [.str s]) (fun s => s.length ≤ reachBytes) (fun s => s.length + 1) := by
  intro H enc W cs d ps h hw
  obtain ⟨s, rfl, hx, hs⟩ := DataW.trod_string ht h
  simp only [Prod.mk.injEq] at hx
  obtain ⟨rfl, rfl⟩ := hx
  refine ⟨s.data.toList, hw _ (by simp [DataW.weights]), Nat.le_refl _, rfl, fill_one ?_ rfl⟩
  exact .str _
theorem DecB.slice {e : TypeId} {sz B : Nat} {α : Type} {f : α → List AV} {ok : α → Prop} {g : α → Nat} (ht : P.underlying t = some (.slice e)) (hB : P.bytesOf e = B) (hsz : P.cellsOf e = sz) (hpos : 0 < sz) (he : DecB P m e sz f ok g) :
    DecB P (m + 1) t 1 (fun l : List α => [.sl .no sz (l.map f)]) (fun l => l.length * B ≤ reachBytes ∧ l.length ≤ maxLen ∧ ∀ x ∈ l, ok x) (fun l => (l.map g).sum + 1) := by
  intro H enc W cs d ps h hw
  rcases DataW.trod_slice ht h with ⟨rfl, _⟩ | ⟨a, len, cap, elems, rest, n, hm, rfl, hx, hb, hlc, hcm, hel, hread, hspare, _⟩
  · exact ⟨[], ⟨by simp, by simp, by simp⟩, by simp [blk_pos], rfl, fill_one (.slnil .no sz (by simp)) rfl⟩
  · cases hm
    simp only [Prod.mk.injEq] at hx
    obtain ⟨rfl, rfl⟩ := hx
    obtain ⟨hrest, hreadr⟩ := hspare rfl
    subst hsz
    have hwt : ∀ y ∈ elems, ∀ n ∈ y.1.weights P e, n ≤ reachBytes := fun y hy n hn => hw n (by
      simp only [DataW.weights, ht, List.mem_cons, List.mem_append]
      exact .inr (.inl (weights_all (List.mem_map_of_mem hy) n hn)))
    have hlenB : len * P.bytesOf e ≤ reachBytes := by
      have := hw ((elems.length + rest.length) * P.bytesOf e) (by simp [DataW.weights, ht])
      rw [hel] at this
      exact Nat.le_trans (Nat.mul_le_mul_right _ (Nat.le_add_right _ _)) this
    have each : ∀ i, i < len → ∃ (x : α) (us : List Value), ok x ∧ g x ≤ blk ((elems.map (·.1)).getD i .nil) ∧ (f x).length = P.cellsOf e ∧ fillRel immG W (f x) us ∧ (∀ j, j < P.cellsOf e → W.cell? (a.add (i * P.cellsOf e + j)) = us[j]?) ∧ us.length = P.cellsOf e := by
      intro i hi
      have h1 := hread i hi
      have hi' : i < elems.length := by omega
      rw [List.getElem?_eq_getElem hi', Option.bind_eq_some_iff] at h1
      obtain ⟨us, hus, hd⟩ := h1
      obtain ⟨x, hx1, hxg, hx2, hx3⟩ := he enc W us elems[i].1 elems[i].2 hd (hwt _ (List.getElem_mem hi'))
      obtain ⟨_, hl, hc⟩ := World.cells?_some hus
      refine ⟨x, us, hx1, by simpa [hi'] using hxg, hx2, hx3, fun j hj => ?_, hl⟩
      have := hc j hj
      rwa [addr_add_add] at this
    rcases Nat.eq_zero_or_pos cap with hc0 | hcpos
    · have hl0 : len = 0 := by omega
      subst hl0; subst hc0
      exact ⟨[], ⟨by simp, by simp, by simp⟩, by simp [blk_pos], rfl, fill_one (.sl0 .no _ a (.inl rfl)) rfl⟩
    · -- some cell is read: the address is plain
      have hspot : a.spot = none := by
        have h1 : ∃ us, W.cells? 0 (a.add 0) (P.cellsOf e) = some us := by
          rcases Nat.eq_zero_or_pos len with hl0 | hlpos
          · have h2 := hreadr 0 (by omega)
            rw [List.getElem?_eq_getElem (by omega), Option.bind_eq_some_iff] at h2
            obtain ⟨us, h3, _⟩ := h2
            rw [hl0] at h3
            simp only [Nat.add_zero, Nat.zero_mul] at h3
            exact ⟨us, h3⟩
          · have h2 := hread 0 hlpos
            rw [List.getElem?_eq_getElem (by omega), Option.bind_eq_some_iff] at h2
            obtain ⟨us, h3, _⟩ := h2
            simp only [Nat.zero_mul] at h3
            exact ⟨us, h3⟩
        obtain ⟨us, h1⟩ := h1
        obtain ⟨_, hl, hc⟩ := World.cells?_some h1
        have h3 := hc 0 hpos
        have e0 : (a.add 0).add 0 = a := rfl
        rw [e0] at h3
        have h4 : (W.cell? a).isSome = true := by rw [h3, List.getElem?_eq_getElem (by omega)]; rfl
        unfold World.cell? at h4
        split at h4
        · split at h4
          · cases h4
          · rename_i hs
            cases h5 : a.spot with
            | none => rfl
            | some s => simp [h5] at hs
        · cases h4
      obtain ⟨b, off, spot⟩ := a
      simp only at hspot
      subst hspot
      have hchoose : ∀ k, k ≤ len → ∃ l : List α, l.length = k ∧ (l.map g).sum ≤ blkAll ((elems.map (·.1)).take k) ∧ ∀ i x, l[i]? = some x → ok x ∧ (f x).length = P.cellsOf e ∧ ∃ us : List Value, fillRel immG W (f x) us ∧ (∀ j, j < P.cellsOf e → W.cell? (Addr.add ⟨b, off, none⟩ (i * P.cellsOf e + j)) = us[j]?) ∧ us.length = P.cellsOf e := by
        intro k
        induction k with
        | zero => intro _; exact ⟨[], rfl, by simp, by simp⟩
        | succ k ih =>
          intro hk
          obtain ⟨l, hl, hsum, hp⟩ := ih (by omega)
          obtain ⟨x, us, h1, hgx, h2, h3, h4, h5⟩ := each k (by omega)
          refine ⟨l ++ [x], by simp [hl], ?_, fun i y hy => ?_⟩
          · rw [List.map_append, List.sum_append, blk_take_succ _ k (by simp; omega)]
            simp only [List.map_cons, List.map_nil, List.sum_cons, List.sum_nil]
            omega
          rcases Nat.lt_or_ge i l.length with hi | hi
          · rw [List.getElem?_append_left hi] at hy; exact hp i y hy
          · rw [List.getElem?_append_right hi] at hy
            have : i = l.length := by
              rcases Nat.lt_or_ge 0 (i - l.length) with h | h
              · rw [List.getElem?_eq_none (by simp; omega)] at hy; cases hy
              · omega
            subst this
            simp at hy
            subst hy
            exact ⟨h1, h2, us, h3, by rw [hl]; exact h4, h5⟩
      obtain ⟨l, hl, hsum, hp⟩ := hchoose len (Nat.le_refl _)
      refine ⟨l, ⟨by rw [hl, ← hB]; exact hlenB, by omega, fun x hx => ?_⟩, ?_, rfl, fill_one ?_ rfl⟩
      · obtain ⟨i, hi⟩ := List.mem_iff_getElem?.1 hx
        exact (hp i x hi).1
      · rw [List.take_of_length_le (by simp; omega)] at hsum
        simp only [blk]; omega
      · have hml : (l.map f).length = len := by simp [hl]
        rw [← hml]
        refine .sl .no _ (l.map f) b off cap (fun i j => (W.cell? ⟨b, off + (i * P.cellsOf e + j), none⟩).getD undef) (by omega) hcm (fun x hx => ?_) (fun i x hx j hj => ?_) (fun i x hx j c hj => ?_) trivial
        · obtain ⟨y, hy, rfl⟩ := List.mem_map.1 hx
          obtain ⟨i, hi⟩ := List.mem_iff_getElem?.1 hy
          exact (hp i y hi).2.1
        · simp only [List.getElem?_map, Option.map_eq_some_iff] at hx
          obtain ⟨y, hy, rfl⟩ := hx
          obtain ⟨_, h2, us, h3, h4, h5⟩ := hp i y hy
          have h6 := h4 j hj
          have h7 : us[j]? = some us[j] := List.getElem?_eq_getElem (by omega)
          have h8 : W.cell? ⟨b, off + (i * P.cellsOf e + j), none⟩ = some us[j] := by rw [← h7, ← h6, addr_add]
          refine ⟨by rw [h8]; rfl, trivial, ?_⟩
          rw [h8]
          exact h3.2.1 j _ h7
        · simp only [List.getElem?_map, Option.map_eq_some_iff] at hx
          obtain ⟨y, hy, rfl⟩ := hx
          obtain ⟨_, h2, us, h3, h4, h5⟩ := hp i y hy
          have hj' : j < P.cellsOf e := by have := (List.getElem?_eq_some_iff.1 hj).1; omega
          have h6 := h4 j hj'
          have h7 : us[j]? = some us[j] := List.getElem?_eq_getElem (by omega)
          have h8 : W.cell? ⟨b, off + (i * P.cellsOf e + j), none⟩ = some us[j] := by rw [← h7, ← h6, addr_add]
          show Rep immG W c ((W.cell? ⟨b, off + (i * P.cellsOf e + j), none⟩).getD undef)
          rw [h8]
          exact h3.2.2 j c _ hj h7
def DecFsB (P : Program) (m : Nat) (off : Nat) (fs : List (Nat × TypeId)) (sz : Nat) {α : Type} (f : α → List AV) (ok : α → Prop) (gg : α → Nat) : Prop :=
  ∀ {H : Type} (enc : TypeId × Value → H) (W : World) (cs : List Value) (xs : List (DataW H × List MemPlace)),
    (∀ (i : Nat) (g : Nat × TypeId), fs[i]? = some g → DataW.trod enc P W 0 (fun _ => true) true m g.2 ((cs.drop g.1).take (P.cellsOf g.2)) = xs[i]?) → xs.length = fs.length →
    (∀ n ∈ DataW.weightsEach P (fs.map (·.2)) (xs.map (·.1)), n ≤ reachBytes) → off + sz ≤ cs.length → ∃ a, ok a ∧ gg a ≤ blkAll (xs.map (·.1)) ∧ (f a).length = sz ∧ fillRel immG W (f a) ((cs.drop off).take sz)
theorem DecFsB.nil {off : Nat} : DecFsB P m off [] 0 (fun _ : Unit => []) (fun _ => True) (fun _ => 0) := by
  intro H enc W cs xs _ _ _ _
  exact ⟨(), trivial, Nat.zero_le _, rfl, rfl, by simp, by simp⟩
theorem DecFsB.cons {off sz sz' : Nat} {u : TypeId} {fs : List (Nat × TypeId)} {α β : Type} {f : α → List AV} {ok : α → Prop} {f' : β → List AV} {ok' : β → Prop} {g : α → Nat} {g' : β → Nat} (hsz : P.cellsOf u = sz) (h : DecB P m u sz f ok g) (h' : DecFsB P m (off + sz) fs sz' f' ok' g') :
    DecFsB P m off ((off, u) :: fs) (sz + sz') (fun x : α × β => f x.1 ++ f' x.2) (fun x => ok x.1 ∧ ok' x.2) (fun x => g x.1 + g' x.2) := by
  intro H enc W cs xs hx hl hw hle
  cases xs with
  | nil => simp at hl
  | cons y ys =>
    have h0 := hx 0 (off, u) rfl
    rw [hsz] at h0
    simp only [List.getElem?_cons_zero] at h0
    obtain ⟨a, ha1, hag, ha2, ha3⟩ := h enc W _ y.1 y.2 h0 (fun n hn => hw n (by simp only [List.map_cons, DataW.weightsEach, List.mem_append]; exact .inl hn))
    obtain ⟨b, hb1, hbg, hb2, hb3⟩ := h' enc W cs ys (fun i g' hg => by have := hx (i + 1) g' (by simpa using hg); simpa using this) (by simpa using hl)
      (fun n hn => hw n (by simp only [List.map_cons, DataW.weightsEach, List.mem_append]; exact .inr hn)) (by omega)
    refine ⟨(a, b), ⟨ha1, hb1⟩, by simp only [List.map_cons, blkAll]; omega, by simp [ha2, hb2], ?_⟩
    have e : (cs.drop off).take (sz + sz') = (cs.drop off).take sz ++ (cs.drop (off + sz)).take sz' := by
      rw [List.take_add, List.drop_drop]
    rw [e]
    exact ha3.append hb3
theorem DecB.struct {fs : List (Nat × TypeId)} {sz : Nat} {α β : Type} {f : α → List AV} {ok : α → Prop} {gg : α → Nat} (h : DecFsB P m 0 fs sz f ok gg) (ht : flds P t = some fs) (hsz : P.cellsOf t = sz) (g : β → List AV) (ok' : β → Prop) (g' : β → Nat) (k : α → β) (hg : ∀ a, g (k a) = f a) (hok : ∀ a, ok a → ok' (k a)) (hgg : ∀ a, g' (k a) ≤ gg a + 1) :
    DecB P (m + 1) t sz g ok' g' := by
  intro H enc W cs d ps hd hw
  obtain ⟨gs, hgs, hfs⟩ := flds_some ht
  obtain ⟨xs, n, hm, hx, hl, hlen, hf⟩ := DataW.trod_struct hgs hd
  cases hm
  simp only [Prod.mk.injEq] at hx
  obtain ⟨rfl, rfl⟩ := hx
  obtain ⟨a, h1, hag, h2, h3⟩ := h enc W cs xs (fun i g' hg' => by
      rw [← hfs, List.getElem?_map] at hg'
      cases hi : gs.toList[i]? with
      | none => simp [hi] at hg'
      | some z => simp only [hi, Option.map_some, Option.some.injEq] at hg'; subst hg'; exact hf i z (by simpa using hi)) (by rw [← hfs]; simpa using hlen) (fun n hn => hw n (by
      rw [← hfs, List.map_map] at hn
      simpa [DataW.weights, hgs, Function.comp_def] using hn)) (by omega)
  refine ⟨k a, hok a h1, by have := hgg a; simp only [blk]; omega, by rw [hg]; exact h2, ?_⟩
  rw [hg]
  simp only [List.drop_zero] at h3
  rw [List.take_of_length_le (by omega)] at h3
  exact h3
theorem DecB.arg {α : Type} {f : α → AV} {ok : α → Prop} {g : α → Nat} (h : ∀ m, DecB P m t 1 (fun a => [f a]) ok g) {H : Type} {enc : TypeId × Value → H} {W : World} {v : Value} {d : DataW H} {ps : List MemPlace} (hd : DataW.Trod enc P W 0 (fun _ => true) true t v d ps)
    (hw : ∀ n ∈ d.weights P t, n ≤ reachBytes) (hv : ∀ cs, v ≠ .agg cs) : ∃ a, ok a ∧ g a ≤ blk d ∧ Rep immG W (f a) v := by
  obtain ⟨n, hn⟩ := hd
  obtain ⟨a, h1, hag, h2, h3⟩ := h n enc W _ d ps hn hw
  have hc : v.cells = #[v] := by cases v <;> first | rfl | exact absurd rfl (hv _)
  rw [hc] at h3
  exact ⟨a, h1, hag, h3.2.2 0 _ _ rfl rfl⟩
end
end Go.Ab
namespace Go.Proofs.Ythkpgjnibolnhaa
open Go.Ab
open Go.ChangeShapes Go.WideShapes Go.ChangeAt Go.RowKit Go.WideElems
mutual
theorem bulk_eq {H : Type} : ∀ d : DataW H, Rows.uptoBulk d = blk d
  | .lit (.string _) => rfl
  | .lit (.bool _) => rfl
  | .lit (.int _ _) => rfl
  | .lit (.float _ _) => rfl
  | .lit .nil => rfl
  | .nil => rfl
  | .ptr d => by simp only [Rows.uptoBulk, blk, bulk_eq d]
  | .slice e s => by simp only [Rows.uptoBulk, blk, bulkAll_eq e, bulkAll_eq s]
  | .agg e => by simp only [Rows.uptoBulk, blk, bulkAll_eq e]
  | .iface _ d => by simp only [Rows.uptoBulk, blk, bulk_eq d]
  | .map e => by simp only [Rows.uptoBulk, blk, bulkEs_eq e]
  | .held _ => rfl
theorem bulkAll_eq {H : Type} : ∀ d : List (DataW H), Rows.uptoBulkAll d = blkAll d
  | [] => rfl
  | d :: r => by simp only [Rows.uptoBulkAll, blkAll, bulk_eq d, bulkAll_eq r]
theorem bulkEs_eq {H : Type} : ∀ d : List (Lit × DataW H), Rows.uptoBulkEntries d = blkEs d
  | [] => rfl
  | x :: r => by simp only [Rows.uptoBulkEntries, blkEs, bulkE_eq x, bulkEs_eq r]
theorem bulkE_eq {H : Type} : ∀ d : Lit × DataW H, Rows.uptoBulkEntry d = blkE d
  | (.string _, d) => by simp only [Rows.uptoBulkEntry, blkE, bulk_eq d]
  | (.bool _, d) => by simp only [Rows.uptoBulkEntry, blkE, bulk_eq d]
  | (.int _ _, d) => by simp only [Rows.uptoBulkEntry, blkE, bulk_eq d]
  | (.float _ _, d) => by simp only [Rows.uptoBulkEntry, blkE, bulk_eq d]
  | (.nil, d) => by simp only [Rows.uptoBulkEntry, blkE, bulk_eq d]
end
theorem small_bulk {H : Type} {ds : List (DataW H)} (h : Rows.uptoSmall H ds = true) : blkAll ds ≤ 1048576 := by
  have h2 := of_decide_eq_true h
  rwa [bulkAll_eq] at h2
theorem bVs_sum : ∀ l, bVs l = (l.map bV).sum
  | [] => rfl
  | v :: r => by simp [bVs, bVs_sum r]
theorem bMs_sum : ∀ l, bMs l = (l.map bM).sum
  | [] => rfl
  | v :: r => by simp [bMs, bMs_sum r]
abbrev DV (m : Nat) : Prop := DecB Try.prog m 100 5 cV (fun _ => True) bV
abbrev DM (m : Nat) : Prop := DecB Try.prog m 114 6 cM (fun _ => True) bM
theorem decVs {m : Nat} (h : DV m) : DecB Try.prog (m + 1) 98 1 (fun l : List Val => [.sl .no 5 (cVs l)]) (fun _ => True) (fun l => bVs l + 1) := by
  intro H enc W cs d ps h1 h2
  obtain ⟨a, h3, h4, h5, h6⟩ := DecB.slice (t := 98) Try.underlying98 (B := 80) (sz := 5) (by kernel_rfl) (by kernel_rfl) (by decide) h enc W cs d ps h1 h2
  exact ⟨a, trivial, by simp only [bVs_sum]; exact h4, h5, by simp only [cVs_map]; exact h6⟩
theorem decMs {m : Nat} (h : DM m) : DecB Try.prog (m + 1) 52 1 (fun l : List Mem => [.sl .no 6 (cMs l)]) (fun _ => True) (fun l => bMs l + 1) := by
  intro H enc W cs d ps h1 h2
  obtain ⟨a, h3, h4, h5, h6⟩ := DecB.slice (t := 52) Try.underlying52 (B := 96) (sz := 6) (by kernel_rfl) (by kernel_rfl) (by decide) h enc W cs d ps h1 h2
  exact ⟨a, trivial, by simp only [bMs_sum]; exact h4, h5, by simp only [cMs_map]; exact h6⟩
theorem dec : ∀ m, DV m ∧ DM m := by
  intro m
  induction m using Nat.strongRecOn with
  | _ m ih =>
    have hs : ∀ {k}, k ≤ m → DecB Try.prog k 98 1 (fun l : List Val => [.sl .no 5 (cVs l)]) (fun _ => True) (fun l => bVs l + 1) := fun {k} hk => by
      cases k with
      | zero => exact DecB.zero
      | succ k => exact decVs (ih k (by omega)).1
    have hm : ∀ {k}, k ≤ m → DecB Try.prog k 52 1 (fun l : List Mem => [.sl .no 6 (cMs l)]) (fun _ => True) (fun l => bMs l + 1) := fun {k} hk => by
      cases k with
      | zero => exact DecB.zero
      | succ k => exact decMs (ih k (by omega)).2
    refine ⟨?_, ?_⟩
    · cases m with
      | zero => exact DecB.zero
      | succ k =>
        exact DecB.struct (DecFsB.cons (by kernel_rfl) (DecB.int (k := .i64) Try.underlying3) (DecFsB.cons (by kernel_rfl) (DecB.int (k := .i64) Try.underlying2) (DecFsB.cons (by kernel_rfl) (DecB.str Try.underlying9) (DecFsB.cons (by kernel_rfl) (hs (by omega)) (DecFsB.cons (by kernel_rfl) (hm (by omega)) DecFsB.nil)))))
          (by kernel_rfl) (by kernel_rfl) cV (fun _ => True) bV (fun x => .mk x.1 x.2.1 x.2.2.1 x.2.2.2.1 x.2.2.2.2.1) (fun a => rfl) (fun a h => trivial) (fun a => by simp only [bV]; omega)
    · cases m with
      | zero => exact DecB.zero
      | succ k =>
        exact DecB.struct (DecFsB.cons (by kernel_rfl) (DecB.str Try.underlying9) (DecFsB.cons (by kernel_rfl) (ih k (by omega)).1 DecFsB.nil))
          (by kernel_rfl) (by kernel_rfl) cM (fun _ => True) bM (fun x => .mk x.1 x.2.1) (fun a => by simp [cM]) (fun a h => trivial) (fun a => by simp only [bM]; omega)
theorem decMsA : ∀ m, DecB Try.prog m 52 1 (fun l : List Mem => [.sl .no 6 (cMs l)]) (fun _ => True) (fun l => bMs l + 1)
  | 0 => DecB.zero
  | m + 1 => decMs (dec m).2
theorem decNB : ∀ m, DecB Try.prog m 35 2 cN (fun _ => True) (fun _ => 1)
  | 0 => DecB.zero
  | k + 1 => DecB.struct (DecFsB.cons (by kernel_rfl) (DecB.str Try.underlying9) (DecFsB.cons (by kernel_rfl) (DecB.str Try.underlying9) DecFsB.nil))
      (by kernel_rfl) (by kernel_rfl) cN (fun _ => True) (fun _ => 1) (fun x => ⟨x.1, x.2.1⟩) (fun a => rfl) (fun a h => trivial) (fun a => by omega)
theorem decNsB : ∀ m, DecB Try.prog m 22 1 (fun l : List Need => [.sl .no 2 (cNs l)]) (fun _ => True) (fun l => l.length + 1)
  | 0 => DecB.zero
  | m + 1 => by
    intro enc W cs d ps h1 h2
    obtain ⟨a, h3, h4, h5, h6⟩ := DecB.slice (t := 22) Try.underlying22 (B := 32) (sz := 2) (by kernel_rfl) (by kernel_rfl) (by decide) (decNB m) enc W cs d ps h1 h2
    have e : ∀ l : List Need, (l.map fun _ => 1).sum = l.length := fun l => by induction l with
      | nil => rfl
      | cons x r ih => simp [ih]; omega
    exact ⟨a, trivial, by have := e a; simp only at h4 ⊢; omega, h5, by simp only [cNs]; exact h6⟩
structure RowB where
  key : List UInt8
  typ : List UInt8
  cols : List Mem
  broken : Bool
def cRow (r : RowB) : List AV := [.str r.key, .str r.typ, .sl .no 6 (cMs r.cols), .bool r.broken]
theorem decRow : ∀ m, DecB Try.prog m 54 4 cRow (fun _ => True) (fun r => r.key.length + r.typ.length + bMs r.cols + 1)
  | 0 => DecB.zero
  | k + 1 => DecB.struct (DecFsB.cons (by kernel_rfl) (DecB.str Try.underlying9) (DecFsB.cons (by kernel_rfl) (DecB.str Try.underlying9) (DecFsB.cons (by kernel_rfl) (decMsA k) (DecFsB.cons (by kernel_rfl) (DecB.bool Try.underlying4) DecFsB.nil))))
      (by kernel_rfl) (by kernel_rfl) cRow (fun _ => True) (fun r => r.key.length + r.typ.length + bMs r.cols + 1) (fun x => ⟨x.1, x.2.1, x.2.2.1, x.2.2.2.1⟩) (fun a => rfl) (fun a h => trivial) (fun a => by simp only; omega)
theorem decGot : ∀ m, DecB Try.prog m 57 6 cG (fun _ => True) (fun r => r.key.length + r.typ.length + bMs r.cols + 1)
  | 0 => DecB.zero
  | k + 1 => DecB.struct (DecFsB.cons (by kernel_rfl) (decRow k) (DecFsB.cons (by kernel_rfl) (DecB.bool Try.underlying4) (DecFsB.cons (by kernel_rfl) (DecB.int (k := .i64) Try.underlying55) DecFsB.nil)))
      (by kernel_rfl) (by kernel_rfl) cG (fun _ => True) (fun r => r.key.length + r.typ.length + bMs r.cols + 1) (fun x => ⟨x.1.key, x.1.typ, x.1.cols, x.1.broken, x.2.1, x.2.2.1⟩) (fun a => rfl) (fun a h => trivial) (fun a => by simp only; omega)
theorem decOpB : ∀ m, DecB Try.prog m 59 10 cOp (fun _ => True) bOp
  | 0 => DecB.zero
  | k + 1 => DecB.struct (DecFsB.cons (by kernel_rfl) (DecB.int (k := .i64) Try.underlying3) (DecFsB.cons (by kernel_rfl) (decNB k) (DecFsB.cons (by kernel_rfl) (decGot k) (DecFsB.cons (by kernel_rfl) (decNsB k) DecFsB.nil))))
      (by kernel_rfl) (by kernel_rfl) cOp (fun _ => True) bOp (fun x => ⟨x.1, x.2.1, x.2.2.1, x.2.2.2.1⟩) (fun a => rfl) (fun a h => trivial) (fun a => by simp only [bOp]; omega)
theorem decOpsB : ∀ m, DecB Try.prog m 45 1 (fun l : List OpB => [.sl .no 10 (cOps l)]) (fun _ => True) (fun l => bOps l + 1)
  | 0 => DecB.zero
  | m + 1 => by
    intro enc W cs d ps h1 h2
    obtain ⟨a, h3, h4, h5, h6⟩ := DecB.slice (t := 45) Try.underlying45 (B := 144) (sz := 10) (by kernel_rfl) (by kernel_rfl) (by decide) (decOpB m) enc W cs d ps h1 h2
    exact ⟨a, trivial, by simp only [bOps]; exact h4, h5, by simp only [cOps]; exact h6⟩
end Go.Proofs.Ythkpgjnibolnhaa
namespace Go.Proofs.Ythkpgjnibolnhaa
open Go.Ab
open Go.ChangeShapes Go.WideShapes Go.ChangeAt Go.RowKit Go.WideElems
theorem BatchKnows_contract (H : Type) (enc : TypeId × Value → H) (W : World) (base : Nat) (args : Array Value) (ds gs : List (DataW H)) (before : List MemPlace)
    (hval : ∀ (j : Nat) t v, Try.f8.params[j]? = some t → args[j]? = some v → Value.okWide Try.prog W .any base t v)
    (hW : DataW.Whole enc Try.prog Try.f8.params.toList Rows.batchKnowsSpec.vars false W args.toList ds gs before) (hc : blkAll (ds ++ gs) ≤ 1048576)
    (hz : (DataW.weightsEach Try.prog (Try.f8.params.toList ++ (Rows.OpenSpec.upto Rows.batchKnowsSpec).bare.plain.varTypes Try.prog) (ds ++ gs)).all (· ≤ reachBytes) = true) :
    Calls Try.prog 8 args W fun e W' => ∃ v, e = .returned v ∧ Rows.batchKnowsSpec.post enc Try.prog Try.f8 false true false false W args v W' := by
  have hW' := hW
  obtain ⟨p, q, hA0, hV, rfl, hfz, hnd⟩ := hW
  have hA : DataW.TrodAll enc Try.prog W 0 (fun _ => true) true Try.f8.params.toList args.toList ds p := hA0
  obtain ⟨rfl, rfl⟩ := trodVars_none hV
  rw [Try.params8] at hA hval hz
  obtain ⟨v0, vs0, d0, ds0, p0, q0, hargs, rfl, rfl, h0, hA⟩ := trodAll_cons hA
  obtain ⟨rfl, rfl, rfl⟩ := trodAll_nil hA
  obtain rfl : args = #[v0] := by cases args; simp_all
  obtain ⟨a0, ok0, b0, g0⟩ := DecB.arg (P := Try.prog) (f := fun l => .sl .no 10 (cOps l)) (decOpsB) h0 (sized hz (j := 0) rfl rfl) (plain_slice Try.underlying45 (hval 0 45 v0 rfl rfl))
  simp only [List.append_nil, blkAll] at hc
  refine law_contract (P := Try.prog) (fn := Try.f8) (tb := 4) laidOut rfl ?_ (by kernel_rfl) Try.underlying4 hW' rfl (fun x hx => by cases hx) (RepAll.cons g0 RepAll.nil) (knows a0 (by omega))
  rw [Try.params8]
  intro t ht
  simp only [List.mem_cons, List.not_mem_nil, or_false] at ht
  rcases ht with rfl <;> exact ⟨by kernel_rfl, by decide +kernel⟩
theorem BatchKnows_lifted (os : Os) (started : os.Started) (H : Type) (enc : TypeId × Value → H) (F : Stop.Interp) :
    ReturnsInHanded {} Try.checked os 8 .any ((Rows.OpenSpec.upto Rows.batchKnowsSpec).pre6 enc Try.prog Try.f8 Rows.batchKnowsUptoRow.domain false) (((Rows.OpenSpec.upto Rows.batchKnowsSpec).at F).post enc Try.prog Try.f8 false true false false) := by
  refine returnsInHanded_of_cond_sized (C := Try.checked) (s := Rows.OpenSpec.upto Rows.batchKnowsSpec) (k := Rows.uptoSmall) rfl own started (by kernel_rfl) Try.func8
    (OpenSpec.witness (enc := enc) (C := Try.checked) (s := Rows.OpenSpec.upto Rows.batchKnowsSpec) (k := Rows.uptoSmall) rfl false ⟨#[], #[.slice none 0 0], []⟩ 8 (by kernel_rfl) (by kernel_rfl) (by kernel_rfl)
      (x := ([.nil], [], [])) (by kernel_rfl) rfl (by kernel_rfl)) ?_
  intro W base args ds gs before hval hW _ hk hz _
  exact BatchKnows_contract H enc W base args ds gs before hval hW (small_bulk hk) hz
theorem BatchKnows_upto : Rows.BatchKnowsUptoSaid :=
  OpenClaim.holds_of_cond 8 Try.f8 rfl rfl rfl rfl rfl rfl rfl ⟨rfl, rfl, rfl, rfl, rfl⟩ rfl rfl rfl rfl rfl (by kernel_rfl) Try.func8 (by kernel_rfl)
    (of_decide_eq_true (by kernel_rfl)) (by unfold Func.isWrapper; first | (rw [if_pos (by decide +kernel)]; kernel_rfl) | (rw [if_neg (by decide +kernel)]; exact ⟨rfl, rfl⟩))
    (fun os started H enc _ F => BatchKnows_lifted os started H enc F)
end Go.Proofs.Ythkpgjnibolnhaa
