/- Texts joined: SaysR Ra Ra2 Va Vb DocS DocL Vh. -/
import Derived.Test.YticbbfbpeimkbaaGreatDoorM1
import Derived.Test.YticbbfbpeimkbaaGreatDoorM2
import Derived.Test.YticbbfbpeimkbaaGreatDoorM3
import Derived.Test.YticbbfbpeimkbaaGreatDoorM4
import Derived.Test.YticbbfbpeimkbaaGreatDoorM5
import Derived.Test.YticbbfbpeimkbaaGreatDoorM6
set_option maxRecDepth 100000
set_option linter.unusedSimpArgs false
set_option linter.unusedVariables false
namespace Go.Proofs.YticbbfbpeimkbaaGreatDoor
open Go.Ab
theorem wordR (s : List UInt8) : Pure Tryz.prog 238 [.str s] (.agg (cK ⟨2, s⟩)) := by
  refine Pure.go ir238 ck238 (Nat.le_refl _) fun KP Q hQ => ?_
  simp (disch := first | omega | assumption) only [ir238, go_sem, ↓reduceIte]
  first
  | exact hQ _ _ _ [.agg [.int .i64 2, .str s]] nofun (by simp (disch := first | omega | assumption) only [ir238, resvs, resv, go_sem, ↓reduceIte]) rfl
  | (refine goA_intro fun b hb => ?_
     simp (disch := first | omega | assumption) only [go_sem, ↓reduceIte]
     exact hQ _ _ _ [.agg [.int .i64 2, .str s]] nofun (by simp (disch := first | omega | assumption) only [ir238, resvs, resv, go_sem, ↓reduceIte]) rfl)
theorem punctR (s : List UInt8) : Pure Tryz.prog 241 [.str s] (.agg (cK ⟨1, s⟩)) := by
  refine Pure.go ir241 ck241 (Nat.le_refl _) fun KP Q hQ => ?_
  simp (disch := first | omega | assumption) only [ir241, go_sem, ↓reduceIte]
  first
  | exact hQ _ _ _ [.agg [.int .i64 1, .str s]] nofun (by simp (disch := first | omega | assumption) only [ir241, resvs, resv, go_sem, ↓reduceIte]) rfl
  | (refine goA_intro fun b hb => ?_
     simp (disch := first | omega | assumption) only [go_sem, ↓reduceIte]
     exact hQ _ _ _ [.agg [.int .i64 1, .str s]] nofun (by simp (disch := first | omega | assumption) only [ir241, resvs, resv, go_sem, ↓reduceIte]) rfl)
theorem WrittenR : ∀ v, wfV v → 4 * bV v ≤ Lim → Pure Tryz.prog 145 [.agg (cV v)] (.sl .no 2 (cKs (tokV v))) := by
  refine Val.ind fun k n s l m ihl ihm hw hb => ?_
  have hb' : 4 * (1 + s.length + bVs l + bMs m) ≤ Lim := hb
  obtain ⟨hn, hwl, hwm⟩ := hw
  have hll := bVs_len l
  have hml := bMs_len m
  have h1 := cVs_len l
  have h2 := cMs_len m
  simp only [Lim] at hb'
  have hsl : s.length ≤ Lim := by simp only [Lim]; omega
  refine Pure.go ir145 ck145 (Nat.le_refl _) fun KP Q hQ => ?_
  by_cases k0 : k = 0
  · subst k0
    simp (disch := first | omega | assumption) only [ir145, cV_mk, go_sem, ↓reduceIte]
    refine goK_pure (wordR _) ?_
    simp (disch := first | omega | assumption) only [cK, go_sem, ↓reduceIte]
    exact hQ _ _ _ _ nofun rfl (by simp [tupOf, envOf, AV.strip, AV.strip1, tokV, cKs, cK])
  by_cases k1 : k = 1
  · subst k1
    by_cases n1 : n = 1
    · simp (disch := first | omega | assumption) only [ir145, cV_mk, n1, go_sem, ↓reduceIte]
      refine goK_pure (wordR _) ?_
      simp (disch := first | omega | assumption) only [cK, go_sem, ↓reduceIte]
      exact hQ _ _ _ _ nofun rfl (by simp [tupOf, envOf, AV.strip, AV.strip1, tokV, cKs, cK, n1, boolT])
    · simp (disch := first | omega | assumption) only [ir145, cV_mk, n1, go_sem, ↓reduceIte]
      refine goK_pure (wordR _) ?_
      simp (disch := first | omega | assumption) only [cK, go_sem, ↓reduceIte]
      exact hQ _ _ _ _ nofun rfl (by simp [tupOf, envOf, AV.strip, AV.strip1, tokV, cKs, cK, n1, boolT])
  by_cases k2 : k = 2
  · subst k2
    simp (disch := first | omega | assumption) only [ir145, cV_mk, go_sem, ↓reduceIte]
    refine goK_pure (DecimalR n hn.1 hn.2) ?_
    simp (disch := first | omega | assumption) only [go_sem, ↓reduceIte]
    exact hQ _ _ _ _ nofun rfl (by simp [tupOf, envOf, AV.strip, AV.strip1, tokV, cKs, cK])
  by_cases k3 : k = 3
  · subst k3
    simp (disch := first | omega | assumption) only [ir145, cV_mk, go_sem, ↓reduceIte]
    refine goK_pure (NumberR s hsl) ?_
    simp (disch := first | omega | assumption) only [go_sem, ↓reduceIte]
    exact hQ _ _ _ _ nofun rfl (by simp [tupOf, envOf, AV.strip, AV.strip1, tokV, cKs, cK])
  by_cases k4 : k = 4
  · subst k4
    simp (disch := first | omega | assumption) only [ir145, cV_mk, go_sem, ↓reduceIte]
    exact hQ _ _ _ _ nofun rfl (by simp [tupOf, envOf, AV.strip, AV.strip1, tokV, cKs, cK])
  by_cases k5 : k = 5
  · subst k5
    simp (disch := first | omega | assumption) only [ir145, cV_mk, go_sem, ↓reduceIte]
    refine goK_pure (wordR _) ?_
    simp (disch := first | omega | assumption) only [cK, go_sem, ↓reduceIte]
    exact hQ _ _ _ _ nofun rfl (by simp [tupOf, envOf, AV.strip, AV.strip1, tokV, cKs, cK])
  by_cases k8 : k = 8
  · subst k8
    simp (disch := first | omega | assumption) only [ir145, cV_mk, go_sem, ↓reduceIte]
    refine goK_pure (punctR _) ?_
    simp (disch := first | omega | assumption) only [go_sem, ↓reduceIte]
    refine goK_pure (wordR _) ?_
    simp (disch := first | omega | assumption) only [cK, go_sem, ↓reduceIte]
    exact hQ _ _ _ _ nofun rfl (by simp [tupOf, envOf, AV.strip, AV.strip1, tokV, cKs, cK])
  have hl4 := tokVs_le l
  have hm4 := tokMs_le m
  by_cases k6 : k = 6
  · subst k6
    simp (disch := first | omega | assumption) only [ir145, cV_mk, h1, go_sem, ↓reduceIte]
    refine goK_pure (punctR _) ?_
    simp (disch := first | omega | assumption) only [cK, go_sem, ↓reduceIte]
    refine goL_range l 4 (fun x : Own × List Tok => [(3, .sl x.1 2 (cKs x.2))]) (fun done rest x H => x.2 ++ tokVs rest = ⟨1, [91]⟩ :: tokVs l ∧ OwnS Heap.emp .full H x.1 x.2.length 2) (.full, [⟨1, [91]⟩]) (by simp (disch := first | omega | assumption) only [cKs, cK, go_sem, ↓reduceIte]) ⟨rfl, OwnS.refl trivial⟩ ?_ ?_
    · rintro ⟨o, a⟩ H J ⟨ha, hs⟩ hlt
      simp only [tokVs, List.append_nil] at ha
      have hal : a.length ≤ 1 + 4 * bVs l := by rw [ha]; simp only [List.length_cons]; omega
      have hcl := cKs_len a
      simp (disch := first | omega | assumption) only [h1, hlt, go_sem, ↓reduceIte]
      refine goK_pure (punctR _) ?_
      simp (disch := first | omega | assumption) only [cK, go_sem, ↓reduceIte]
      refine goP_ownS (by rw [hcl]; exact hs.own) (by simp only [hcl, List.length_cons, List.length_nil]; omega) (by simp only [hcl, List.length_cons, List.length_nil, maxLen]; omega) fun o' H' hs' => ?_
      simp (disch := first | omega | assumption) only [go_sem, ↓reduceIte]
      have e : cKs a ++ [[.int .i64 1, .str [93]]] = cKs (tokV (.mk 6 n s l m)) := by
        rw [ha]; simp [tokV, cKs, cK]
      exact hQ _ _ _ _ nofun rfl (by simp [tupOf, envOf, AV.strip, AV.strip1, e])
    · rintro done x rest ⟨o, a⟩ H J hd hlt _ ⟨ha, hs⟩ hJ
      have hg := cVs_get hd
      have hbm := bVs_mid done x rest
      rw [← hd] at hbm
      simp only [tokVs] at ha
      have hx := tokV_le x
      have hal : a.length ≤ 1 + 4 * bVs l := by
        have := congrArg List.length ha
        simp only [List.length_append, List.length_cons] at this
        omega
      have hcl := cKs_len a
      have hcx := cKs_len (tokV x)
      have hmem : x ∈ l := by rw [hd]; simp
      simp (disch := first | omega | assumption) only [cV_len, cV_take, cV_splice, cM_len, cM_take, cM_splice, cM_mk, h1, hlt, hg, go_sem, ↓reduceIte]
      refine goK_pure (ihl x hmem (wfVs_mem hwl x hmem) (by simp only [Lim]; omega)) ?_
      simp (disch := first | omega | assumption) only [go_sem, ↓reduceIte]
      refine goP_ownS (by rw [hcl]; exact hs.own) (by simp only [hcl, hcx]; omega) (by simp only [hcl, hcx, maxLen]; omega) fun o' H' hs' => ?_
      simp (disch := first | omega | assumption) only [wrap64, cKs_strip, go_sem, ↓reduceIte]
      exact goJ (hJ (o', a ++ tokV x) H' ⟨by rw [← ha]; simp, hs.trans (by simpa [hcl, hcx] using hs')⟩) (by simp (disch := first | omega | assumption) only [cKs_append, go_sem, ↓reduceIte])
  · have et : tokV (.mk k n s l m) = ⟨1, [123]⟩ :: (tokMs m ++ [⟨1, [125]⟩]) := by simp [tokV, k0, k1, k2, k3, k4, k5, k8, k6]
    simp (disch := first | omega | assumption) only [ir145, cV_mk, h2, k0, k1, k2, k3, k4, k5, k8, k6, go_sem, ↓reduceIte]
    refine goK_pure (punctR _) ?_
    simp (disch := first | omega | assumption) only [cK, go_sem, ↓reduceIte]
    refine goL_range m 6 (fun x : Own × List Tok => [(5, .sl x.1 2 (cKs x.2))]) (fun done rest x H => x.2 ++ tokMs rest = ⟨1, [123]⟩ :: tokMs m ∧ OwnS Heap.emp .full H x.1 x.2.length 2) (.full, [⟨1, [123]⟩]) (by simp (disch := first | omega | assumption) only [cKs, cK, go_sem, ↓reduceIte]) ⟨rfl, OwnS.refl trivial⟩ ?_ ?_
    · rintro ⟨o, a⟩ H J ⟨ha, hs⟩ hlt
      simp only [tokMs, List.append_nil] at ha
      have hal : a.length ≤ 1 + 4 * bMs m := by rw [ha]; simp only [List.length_cons]; omega
      have hcl := cKs_len a
      simp (disch := first | omega | assumption) only [h2, hlt, go_sem, ↓reduceIte]
      refine goK_pure (punctR _) ?_
      simp (disch := first | omega | assumption) only [cK, go_sem, ↓reduceIte]
      refine goP_ownS (by rw [hcl]; exact hs.own) (by simp only [hcl, List.length_cons, List.length_nil]; omega) (by simp only [hcl, List.length_cons, List.length_nil, maxLen]; omega) fun o' H' hs' => ?_
      simp (disch := first | omega | assumption) only [go_sem, ↓reduceIte]
      have e : cKs a ++ [[.int .i64 1, .str [125]]] = cKs (tokV (.mk k n s l m)) := by
        rw [et, ha]; simp [cKs, cK]
      exact hQ _ _ _ _ nofun rfl (by simp [tupOf, envOf, AV.strip, AV.strip1, e])
    · rintro done x rest ⟨o, a⟩ H J hd hlt _ ⟨ha, hs⟩ hJ
      have hg := cMs_get hd
      have hbm := bMs_mid done x rest
      rw [← hd] at hbm
      have hmem : x ∈ m := by rw [hd]; simp
      have hx := tokM_le x
      simp only [tokMs] at ha
      have hal : a.length + (tokM x).length ≤ 1 + 4 * bMs m := by
        have := congrArg List.length ha
        simp only [List.length_append, List.length_cons] at this
        omega
      obtain ⟨t, v⟩ := x
      simp only [tokM, bM, List.length_cons] at ha hbm hal hx
      have hcl := cKs_len a
      have hcx := cKs_len (tokV v)
      simp (disch := first | omega | assumption) only [cV_len, cV_take, cV_splice, cM_len, cM_take, cM_splice, cM_mk, h2, hlt, hg, go_sem, ↓reduceIte]
      refine goK_pure (wordR _) ?_
      simp (disch := first | omega | assumption) only [cV_len, cV_take, cV_splice, cM_len, cM_take, cM_splice, cM_mk, go_sem, ↓reduceIte]
      refine goK_pure (punctR _) ?_
      simp (disch := first | omega | assumption) only [cV_len, cV_take, cV_splice, cM_len, cM_take, cM_splice, cM_mk, cK, go_sem, ↓reduceIte]
      refine goP_ownS (by rw [hcl]; exact hs.own) (by simp only [hcl, List.length_cons, List.length_nil]; omega) (by simp only [hcl, List.length_cons, List.length_nil, maxLen]; omega) fun o2 H2 hs2 => ?_
      have hs2' : OwnS Heap.emp .full H2 o2 (a.length + 2) 2 := hs.trans (by simpa [hcl] using hs2)
      simp (disch := first | omega | assumption) only [cV_len, cV_take, cV_splice, cM_len, cM_take, cM_splice, cM_mk, h2, hlt, hg, go_sem, ↓reduceIte]
      refine goK_pure (ihm t v hmem (wfMs_mem hwm t v hmem) (by simp only [Lim]; omega)) ?_
      simp (disch := first | omega | assumption) only [go_sem, ↓reduceIte]
      have hl2 : (cKs a ++ [[AV.int .i64 2, .str t], [.int .i64 1, .str [58]]]).length = a.length + 2 := by simp [hcl]
      refine goP_ownS (by rw [hl2]; exact hs2'.own) (by rw [hl2, hcx]; omega) (by rw [hl2, hcx]; simp only [maxLen]; omega) fun o3 H3 hs3 => ?_
      rw [hl2, hcx] at hs3
      simp (disch := first | omega | assumption) only [wrap64, cKs_strip, go_sem, ↓reduceIte]
      have ea : cKs (a ++ [⟨2, t⟩, ⟨1, [58]⟩] ++ tokV v) = cKs a ++ [[AV.int .i64 2, .str t], [.int .i64 1, .str [58]]] ++ cKs (tokV v) := by simp [cKs, cK]
      have el : (a ++ [(⟨2, t⟩ : Tok), ⟨1, [58]⟩] ++ tokV v).length = a.length + 2 + (tokV v).length := by simp; omega
      exact goJ (hJ (o3, a ++ [⟨2, t⟩, ⟨1, [58]⟩] ++ tokV v) H3 ⟨by rw [← ha]; simp, hs2'.trans (by rw [el]; exact hs3)⟩) (by simp (disch := first | omega | assumption) only [ea, go_sem, ↓reduceIte])
end Go.Proofs.YticbbfbpeimkbaaGreatDoor
namespace Go.Proofs.YticbbfbpeimkbaaGreatDoor
open Go.Ab
theorem rightV2R (v : Val) (hv : bV v ≤ Lim) (dp : Int) (h0 : 0 ≤ dp) (h1 : dp ≤ 64) (fixed : Bool) : Pure Tryz.prog 151 [.agg (cV v), .int .i64 dp, .bool fixed] (.bool (rightV2 dp fixed v)) := by
  refine Pure.go ir151 ck151 (Nat.le_refl _) fun KP Q hQ => ?_
  have hdv := depthV_le v
  have hv' := hv
  simp only [Lim] at hv'
  have d1 : IntKind.wrap .i64 (dp + depthV v) = dp + depthV v := wrap64 (by omega) (by omega)
  have hcv := cT_len (varsV v [])
  simp (disch := first | omega | assumption) only [cV_len, cV_take, cV_splice, cM_len, cM_take, cM_splice, cM_mk, ir151, go_sem, ↓reduceIte]
  refine goK_pure (plainVR v hv) ?_
  cases hp : plainV v with
  | false =>
    simp (disch := first | omega | assumption) only [go_sem, ↓reduceIte]
    exact hQ _ _ _ _ nofun rfl (by simp [tupOf, envOf, AV.strip, AV.strip1, rightV2, hp])
  | true =>
    simp (disch := first | omega | assumption) only [cV_len, cV_take, cV_splice, cM_len, cM_take, cM_splice, cM_mk, go_sem, ↓reduceIte]
    refine goK_pure (depthR v hv) ?_
    by_cases hd : dp + depthV v ≤ 16
    case neg =>
      simp (disch := first | omega | assumption) only [cV_len, cV_take, cV_splice, cM_len, cM_take, cM_splice, cM_mk, d1, hd, go_sem, ↓reduceIte]
      exact hQ _ _ _ _ nofun rfl (by simp [tupOf, envOf, AV.strip, AV.strip1, rightV2, hp, hd])
    cases fixed with
    | false =>
      simp (disch := first | omega | assumption) only [cV_len, cV_take, cV_splice, cM_len, cM_take, cM_splice, cM_mk, d1, hd, go_sem, ↓reduceIte]
      exact hQ _ _ _ _ nofun rfl (by simp [tupOf, envOf, AV.strip, AV.strip1, rightV2, hp, hd])
    | true =>
      simp (disch := first | omega | assumption) only [cV_len, cV_take, cV_splice, cM_len, cM_take, cM_splice, cM_mk, d1, hd, go_sem, ↓reduceIte]
      refine goK_pure (varsRT v hv) ?_
      by_cases hz : (varsV v []).length = 0
      · have hz' : (((varsV v []).length : Int) = 0) = True := eq_true (by omega)
        simp (disch := first | omega | assumption) only [hcv, hz', go_sem, ↓reduceIte]
        exact hQ _ _ _ _ nofun rfl (by simp [tupOf, envOf, AV.strip, AV.strip1, rightV2, hp, hd, hz])
      · have hz' : ¬ (((varsV v []).length : Int) = 0) := by omega
        simp (disch := first | omega | assumption) only [hcv, hz', go_sem, ↓reduceIte]
        exact hQ _ _ _ _ nofun rfl (by simp [tupOf, envOf, AV.strip, AV.strip1, rightV2, hp, hd, hz])
theorem rightMsR (m : List Mem) (hm : bMs m ≤ Lim) (dp : Int) (h0 : 0 ≤ dp) (h1 : dp ≤ 64) (fixed : Bool) : Pure Tryz.prog 149 [.sl .no 6 (cMs m), .int .i64 dp, .bool fixed] (.bool (rightMs dp fixed m)) := by
  refine Pure.go ir149 ck149 (Nat.le_refl _) fun KP Q hQ => ?_
  have hcl := cMs_len m
  have hml := bMs_len m
  have hm' := hm
  simp only [Lim] at hm'
  simp (disch := first | omega | assumption) only [ir149, go_sem, ↓reduceIte]
  refine goL_range m 7 (fun _ : Unit => []) (fun done rest _ H => rightMs dp fixed m = rightMs dp fixed rest) () (by simp (disch := first | omega | assumption) only [go_sem, ↓reduceIte]) rfl ?_ ?_
  · rintro _ H J hx hlt
    have e : rightMs dp fixed m = true := hx
    simp (disch := first | omega | assumption) only [hcl, hlt, go_sem, ↓reduceIte]
    exact hQ _ _ _ _ nofun rfl (by simp [tupOf, envOf, AV.strip, AV.strip1, e])
  · rintro done x rest _ H J hd hlt hlt2 hx hJ
    have hg := cMs_get hd
    have hbm := bMs_mid done x rest
    rw [← hd] at hbm
    obtain ⟨s, v⟩ := x
    simp only [bM] at hbm
    have hst : rightMs dp fixed m = (nameM s && rightV2 dp fixed v && rightMs dp fixed rest) := by rw [hx]; simp [rightMs, rightMe]
    simp (disch := first | omega | assumption) only [cV_len, cV_take, cV_splice, cM_len, cM_take, cM_splice, cM_mk, hcl, hlt, hg, go_sem, ↓reduceIte]
    refine goK_pure (nameR s (by simp only [Lim]; omega)) ?_
    cases hn : nameM s with
    | false =>
      simp (disch := first | omega | assumption) only [go_sem, ↓reduceIte]
      exact hQ _ _ _ _ nofun rfl (by simp [tupOf, envOf, AV.strip, AV.strip1, hst, hn])
    | true =>
      simp (disch := first | omega | assumption) only [cV_len, cV_take, cV_splice, cM_len, cM_take, cM_splice, cM_mk, hcl, hlt, hg, go_sem, ↓reduceIte]
      refine goK_pure (rightV2R v (by simp only [Lim]; omega) dp h0 h1 fixed) ?_
      cases hr : rightV2 dp fixed v with
      | false =>
        simp (disch := first | omega | assumption) only [go_sem, ↓reduceIte]
        exact hQ _ _ _ _ nofun rfl (by simp [tupOf, envOf, AV.strip, AV.strip1, hst, hn, hr])
      | true =>
        simp (disch := first | omega | assumption) only [wrap64, go_sem, ↓reduceIte]
        exact goJ (hJ () _ (by rw [hst, hn, hr]; rfl)) (by simp (disch := first | omega | assumption) only [go_sem, ↓reduceIte])
theorem rightDsR (m : List DirD) (hm : bDs m ≤ Lim) (dp : Int) (h0 : 0 ≤ dp) (h1 : dp ≤ 64) (fixed : Bool) : Pure Tryz.prog 80 [.sl .no 2 (cDs m), .int .i64 dp, .bool fixed] (.bool (rightDs dp fixed m)) := by
  refine Pure.go ir80 ck80 (Nat.le_refl _) fun KP Q hQ => ?_
  have hcl := cDs_len m
  have hml := bDs_len m
  have hm' := hm
  simp only [Lim] at hm'
  simp (disch := first | omega | assumption) only [ir80, go_sem, ↓reduceIte]
  refine goL_range m 7 (fun _ : Unit => []) (fun done rest _ H => rightDs dp fixed m = rightDs dp fixed rest) () (by simp (disch := first | omega | assumption) only [go_sem, ↓reduceIte]) rfl ?_ ?_
  · rintro _ H J hx hlt
    have e : rightDs dp fixed m = true := hx
    simp (disch := first | omega | assumption) only [hcl, hlt, go_sem, ↓reduceIte]
    exact hQ _ _ _ _ nofun rfl (by simp [tupOf, envOf, AV.strip, AV.strip1, e])
  · rintro done x rest _ H J hd hlt hlt2 hx hJ
    have hg := cDs_get hd
    have hbm := bDs_mid done x rest
    rw [← hd] at hbm
    obtain ⟨s, args⟩ := x
    simp only [bD] at hbm
    have ex : cD ⟨s, args⟩ = [.str s, .sl .no 6 (cMs args)] := rfl
    rw [ex] at hg
    have hst : rightDs dp fixed m = (nameM s && rightMs dp fixed args && rightDs dp fixed rest) := by rw [hx]; simp [rightDs, rightDi]
    simp (disch := first | omega | assumption) only [hcl, hlt, hg, go_sem, ↓reduceIte]
    refine goK_pure (nameR s (by simp only [Lim]; omega)) ?_
    cases hn : nameM s with
    | false =>
      simp (disch := first | omega | assumption) only [go_sem, ↓reduceIte]
      exact hQ _ _ _ _ nofun rfl (by simp [tupOf, envOf, AV.strip, AV.strip1, hst, hn])
    | true =>
      simp (disch := first | omega | assumption) only [hcl, hlt, hg, go_sem, ↓reduceIte]
      refine goK_pure (rightMsR args (by simp only [Lim]; omega) dp h0 h1 fixed) ?_
      cases hr : rightMs dp fixed args with
      | false =>
        simp (disch := first | omega | assumption) only [go_sem, ↓reduceIte]
        exact hQ _ _ _ _ nofun rfl (by simp [tupOf, envOf, AV.strip, AV.strip1, hst, hn, hr])
      | true =>
        simp (disch := first | omega | assumption) only [wrap64, go_sem, ↓reduceIte]
        exact goJ (hJ () _ (by rw [hst, hn, hr]; rfl)) (by simp (disch := first | omega | assumption) only [go_sem, ↓reduceIte])
def SelsR (c : Nat) : Prop := ∀ l : List SelD, bSs l ≤ c → bSs l ≤ Lim → ∀ dp : Int, 0 ≤ dp → dp ≤ 17 → Pure Tryz.prog 81 [.sl .no 7 (cSs l), .int .i64 dp] (.bool (rightSs dp l))
theorem rightSR {c : Nat} (hL : SelsR c) (k : Int) (al nm : List UInt8) (args : List Mem) (dirs : List DirD) (on : List UInt8) (sels : List SelD) (hc : bSs sels ≤ c) (hb : bS (.mk k al nm args dirs on sels) ≤ Lim) (dp : Int) (h0 : 0 ≤ dp) (h1 : dp ≤ 16) :
    Pure Tryz.prog 150 [.agg (cS (.mk k al nm args dirs on sels)), .int .i64 dp] (.bool (rightS dp (.mk k al nm args dirs on sels))) := by
  refine Pure.go ir150 ck150 (Nat.le_refl _) fun KP Q hQ => ?_
  have hb' := hb
  simp only [bS, Lim] at hb'
  have hcm := cMs_len args
  have hcs := cSs_len sels
  have w1 : IntKind.wrap .i64 (dp + 1) = dp + 1 := wrap64 (by omega) (by omega)
  have hsels := hL sels hc (by simp only [Lim]; omega) (dp + 1) (by omega) (by omega)
  simp (disch := first | omega | assumption) only [ir150, cS_mk, go_sem, ↓reduceIte]
  refine goK_pure (rightDsR dirs (by simp only [Lim]; omega) dp h0 (by omega) false) ?_
  cases hd : rightDs dp false dirs with
  | false =>
    simp (disch := first | omega | assumption) only [go_sem, ↓reduceIte]
    exact hQ _ _ _ _ nofun rfl (by simp [tupOf, envOf, AV.strip, AV.strip1, rightS, hd])
  | true =>
    by_cases k0 : k = 0
    · subst k0
      simp (disch := first | omega | assumption) only [go_sem, ↓reduceIte]
      refine goK_pure (nameR nm (by simp only [Lim]; omega)) ?_
      cases hn : nameM nm with
      | false =>
        simp (disch := first | omega | assumption) only [go_sem, ↓reduceIte]
        exact hQ _ _ _ _ nofun rfl (by simp [tupOf, envOf, AV.strip, AV.strip1, rightS, hd, hn])
      | true =>
        by_cases g2 : al = []
        case pos =>
          have g6 : (decide (al = []) || nameM al) = true := by simp [g2]
          subst g2
          have g2 : True := trivial
          by_cases g3 : on = []
          case neg =>
            simp (disch := first | omega | assumption) only [g2, g3, go_sem, ↓reduceIte]
            exact hQ _ _ _ _ nofun rfl (by simp [tupOf, envOf, AV.strip, AV.strip1, rightS, hd, hn, g3])
          simp (disch := first | omega | assumption) only [g2, g3, go_sem, ↓reduceIte]
          refine goK_pure (rightMsR args (by simp only [Lim]; omega) dp h0 (by omega) false) ?_
          cases hm : rightMs dp false args with
          | false =>
            simp (disch := first | omega | assumption) only [go_sem, ↓reduceIte]
            exact hQ _ _ _ _ nofun rfl (by simp [tupOf, envOf, AV.strip, AV.strip1, rightS, hd, hn, hm])
          | true =>
            by_cases g5 : sels.length = 0
            · have g5' : ((sels.length : Int) = 0) = True := eq_true (by omega)
              simp (disch := first | omega | assumption) only [hcs, g5', go_sem, ↓reduceIte]
              exact hQ _ _ _ _ nofun rfl (by simp [tupOf, envOf, AV.strip, AV.strip1, rightS, hd, hn, hm, g3, g5, g6])
            · have g5' : ¬ ((sels.length : Int) = 0) := by omega
              simp (disch := first | omega | assumption) only [hcs, g5', w1, go_sem, ↓reduceIte]
              refine goK_pure hsels ?_
              simp (disch := first | omega | assumption) only [go_sem, ↓reduceIte]
              exact hQ _ _ _ _ nofun rfl (by simp [tupOf, envOf, AV.strip, AV.strip1, rightS, hd, hn, hm, g3, g5, g6, rightSs])
        case neg =>
          simp (disch := first | omega | assumption) only [g2, go_sem, ↓reduceIte]
          refine goK_pure (nameR al (by simp only [Lim]; omega)) ?_
          cases hal : nameM al with
          | false =>
            simp (disch := first | omega | assumption) only [go_sem, ↓reduceIte]
            exact hQ _ _ _ _ nofun rfl (by simp [tupOf, envOf, AV.strip, AV.strip1, rightS, hd, hn, g2, hal])
          | true =>
            have g6 : (decide (al = []) || nameM al) = true := by simp [hal]
            by_cases g3 : on = []
            case neg =>
              simp (disch := first | omega | assumption) only [g2, g3, go_sem, ↓reduceIte]
              exact hQ _ _ _ _ nofun rfl (by simp [tupOf, envOf, AV.strip, AV.strip1, rightS, hd, hn, g3])
            simp (disch := first | omega | assumption) only [g2, g3, go_sem, ↓reduceIte]
            refine goK_pure (rightMsR args (by simp only [Lim]; omega) dp h0 (by omega) false) ?_
            cases hm : rightMs dp false args with
            | false =>
              simp (disch := first | omega | assumption) only [go_sem, ↓reduceIte]
              exact hQ _ _ _ _ nofun rfl (by simp [tupOf, envOf, AV.strip, AV.strip1, rightS, hd, hn, hm])
            | true =>
              by_cases g5 : sels.length = 0
              · have g5' : ((sels.length : Int) = 0) = True := eq_true (by omega)
                simp (disch := first | omega | assumption) only [hcs, g5', go_sem, ↓reduceIte]
                exact hQ _ _ _ _ nofun rfl (by simp [tupOf, envOf, AV.strip, AV.strip1, rightS, hd, hn, hm, g3, g5, g6])
              · have g5' : ¬ ((sels.length : Int) = 0) := by omega
                simp (disch := first | omega | assumption) only [hcs, g5', w1, go_sem, ↓reduceIte]
                refine goK_pure hsels ?_
                simp (disch := first | omega | assumption) only [go_sem, ↓reduceIte]
                exact hQ _ _ _ _ nofun rfl (by simp [tupOf, envOf, AV.strip, AV.strip1, rightS, hd, hn, hm, g3, g5, g6, rightSs])
    by_cases k1 : k = 1
    · subst k1
      simp (disch := first | omega | assumption) only [go_sem, ↓reduceIte]
      refine goK_pure (nameR nm (by simp only [Lim]; omega)) ?_
      cases hn : nameM nm with
      | false =>
        simp (disch := first | omega | assumption) only [go_sem, ↓reduceIte]
        exact hQ _ _ _ _ nofun rfl (by simp [tupOf, envOf, AV.strip, AV.strip1, rightS, hd, hn])
      | true =>
        by_cases g1 : nm = [111, 110]
        · subst g1
          simp (disch := first | omega | assumption) only [go_sem, ↓reduceIte]
          exact hQ _ _ _ _ nofun rfl (by simp [tupOf, envOf, AV.strip, AV.strip1, rightS, hd])
        by_cases g2 : al = []
        case neg =>
          simp (disch := first | omega | assumption) only [g1, g2, go_sem, ↓reduceIte]
          exact hQ _ _ _ _ nofun rfl (by simp [tupOf, envOf, AV.strip, AV.strip1, rightS, hd, hn, g1, g2])
        by_cases g3 : on = []
        case neg =>
          simp (disch := first | omega | assumption) only [g1, g2, g3, go_sem, ↓reduceIte]
          exact hQ _ _ _ _ nofun rfl (by simp [tupOf, envOf, AV.strip, AV.strip1, rightS, hd, hn, g1, g2, g3])
        by_cases g4 : args.length = 0
        case neg =>
          have g4' : ¬ ((args.length : Int) = 0) := by omega
          simp (disch := first | omega | assumption) only [g1, g2, g3, hcm, g4', go_sem, ↓reduceIte]
          exact hQ _ _ _ _ nofun rfl (by simp [tupOf, envOf, AV.strip, AV.strip1, rightS, hd, hn, g1, g2, g3, g4])
        have g4' : ((args.length : Int) = 0) = True := eq_true (by omega)
        by_cases g5 : sels.length = 0
        · have g5' : ((sels.length : Int) = 0) = True := eq_true (by omega)
          simp (disch := first | omega | assumption) only [g1, g2, g3, hcm, g4', hcs, g5', go_sem, ↓reduceIte]
          exact hQ _ _ _ _ nofun rfl (by simp [tupOf, envOf, AV.strip, AV.strip1, rightS, hd, hn, g1, g2, g3, g4, g5])
        · have g5' : ¬ ((sels.length : Int) = 0) := by omega
          simp (disch := first | omega | assumption) only [g1, g2, g3, hcm, g4', hcs, g5', go_sem, ↓reduceIte]
          exact hQ _ _ _ _ nofun rfl (by simp [tupOf, envOf, AV.strip, AV.strip1, rightS, hd, hn, g1, g2, g3, g4, g5])
    by_cases k2 : k = 2
    · subst k2
      by_cases g1 : nm = []
      case neg =>
        simp (disch := first | omega | assumption) only [g1, go_sem, ↓reduceIte]
        exact hQ _ _ _ _ nofun rfl (by simp [tupOf, envOf, AV.strip, AV.strip1, rightS, hd, g1])
      by_cases g2 : al = []
      case neg =>
        simp (disch := first | omega | assumption) only [g1, g2, go_sem, ↓reduceIte]
        exact hQ _ _ _ _ nofun rfl (by simp [tupOf, envOf, AV.strip, AV.strip1, rightS, hd, g1, g2])
      by_cases g3 : args.length = 0
      case neg =>
        have g3' : ¬ ((args.length : Int) = 0) := by omega
        simp (disch := first | omega | assumption) only [g1, g2, hcm, g3', go_sem, ↓reduceIte]
        exact hQ _ _ _ _ nofun rfl (by simp [tupOf, envOf, AV.strip, AV.strip1, rightS, hd, g1, g2, g3])
      have g3' : ((args.length : Int) = 0) = True := eq_true (by omega)
      by_cases g4 : on = []
      · simp (disch := first | omega | assumption) only [g1, g2, hcm, g3', g4, w1, go_sem, ↓reduceIte]
        refine goK_pure hsels ?_
        simp (disch := first | omega | assumption) only [go_sem, ↓reduceIte]
        exact hQ _ _ _ _ nofun rfl (by simp [tupOf, envOf, AV.strip, AV.strip1, rightS, hd, g1, g2, g3, g4, rightSs])
      · simp (disch := first | omega | assumption) only [g1, g2, hcm, g3', g4, go_sem, ↓reduceIte]
        refine goK_pure (nameR on (by simp only [Lim]; omega)) ?_
        cases hn : nameM on with
        | false =>
          simp (disch := first | omega | assumption) only [go_sem, ↓reduceIte]
          exact hQ _ _ _ _ nofun rfl (by simp [tupOf, envOf, AV.strip, AV.strip1, rightS, hd, g1, g2, g3, g4, hn])
        | true =>
          simp (disch := first | omega | assumption) only [w1, go_sem, ↓reduceIte]
          refine goK_pure hsels ?_
          simp (disch := first | omega | assumption) only [go_sem, ↓reduceIte]
          exact hQ _ _ _ _ nofun rfl (by simp [tupOf, envOf, AV.strip, AV.strip1, rightS, hd, g1, g2, g3, g4, hn, rightSs])
    · simp (disch := first | omega | assumption) only [k0, k1, k2, go_sem, ↓reduceIte]
      exact hQ _ _ _ _ nofun rfl (by simp [tupOf, envOf, AV.strip, AV.strip1, rightS, hd, k0, k1, k2])
theorem rightSsR : ∀ c, SelsR c := by
  intro c
  induction c using Nat.strongRecOn with
  | _ c ih =>
  intro m hc hm dp h0 h1
  refine Pure.go ir81 ck81 (Nat.le_refl _) fun KP Q hQ => ?_
  have hcl := cSs_len m
  have hml := bSs_len m
  have hm' := hm
  simp only [Lim] at hm'
  by_cases hz : m.length = 0
  · have hz' : ((m.length : Int) = 0) = True := eq_true (by omega)
    simp (disch := first | omega | assumption) only [ir81, hcl, hz', go_sem, ↓reduceIte]
    exact hQ _ _ _ _ nofun rfl (by simp [tupOf, envOf, AV.strip, AV.strip1, rightSs, hz])
  have hz' : ¬ ((m.length : Int) = 0) := by omega
  by_cases hd : dp ≤ 16
  case neg =>
    have hd' : ((16 : Int) < dp) = True := eq_true (by omega)
    simp (disch := first | omega | assumption) only [ir81, hcl, hz', hd', go_sem, ↓reduceIte]
    exact hQ _ _ _ _ nofun rfl (by simp [tupOf, envOf, AV.strip, AV.strip1, rightSs, hz, hd])
  have hd' : ¬ ((16 : Int) < dp) := by omega
  have er : rightSs dp m = rightSl dp m := by simp [rightSs, hz, hd]
  simp (disch := first | omega | assumption) only [ir81, hcl, hz', hd', go_sem, ↓reduceIte]
  refine goL_range m 5 (fun _ : Unit => []) (fun done rest _ H => rightSl dp m = rightSl dp rest) () (by simp (disch := first | omega | assumption) only [go_sem, ↓reduceIte]) rfl ?_ ?_
  · rintro _ H J hx hlt
    have e : rightSs dp m = true := by rw [er]; exact hx
    simp (disch := first | omega | assumption) only [hcl, hlt, go_sem, ↓reduceIte]
    exact hQ _ _ _ _ nofun rfl (by simp [tupOf, envOf, AV.strip, AV.strip1, e])
  · rintro done x rest _ H J hdn hlt hlt2 hx hJ
    have hg := cSs_get hdn
    have hbm := bSs_mid done x rest
    rw [← hdn] at hbm
    have hst : rightSl dp m = (rightS dp x && rightSl dp rest) := by rw [hx]; simp [rightSl]
    obtain ⟨k, al, nm, args, dirs, on, sels⟩ := x
    have hbx : bS (.mk k al nm args dirs on sels) = 1 + al.length + nm.length + on.length + bMs args + bDs dirs + bSs sels := rfl
    have hR := rightSR (ih (bSs sels) (by omega)) k al nm args dirs on sels (Nat.le_refl _) (by simp only [Lim]; omega) dp h0 hd
    rw [cS_mk] at hg hR
    simp (disch := first | omega | assumption) only [hcl, hlt, hg, go_sem, ↓reduceIte]
    refine goK_pure hR ?_
    cases hr : rightS dp (.mk k al nm args dirs on sels) with
    | false =>
      have e : rightSs dp m = false := by rw [er, hst, hr]; rfl
      simp (disch := first | omega | assumption) only [go_sem, ↓reduceIte]
      exact hQ _ _ _ _ nofun rfl (by simp [tupOf, envOf, AV.strip, AV.strip1, e])
    | true =>
      simp (disch := first | omega | assumption) only [wrap64, go_sem, ↓reduceIte]
      exact goJ (hJ () _ (by rw [hst, hr]; rfl)) (by simp (disch := first | omega | assumption) only [go_sem, ↓reduceIte])
end Go.Proofs.YticbbfbpeimkbaaGreatDoor
namespace Go.Proofs.YticbbfbpeimkbaaGreatDoor
open Go.Ab
end Go.Proofs.YticbbfbpeimkbaaGreatDoor
namespace Go.Proofs.YticbbfbpeimkbaaGreatDoor
open Go.Ab
structure VAt (H : Heap) (w : Nat) (o : Own) (l : List Tok) : Prop where
  cell : H w = some (.cells [.sl o 2 (cKs l)])
  own : Owned H o l.length 2
structure VR (H0 : Heap) (o0 : Own) (w : Nat) (l0 tk : List Tok) (H : Heap) (o : Own) : Prop where
  here : VAt H w o (l0 ++ tk)
  st : WStep H0 o0 w H o
def VC (f : FuncId) (args : List AV) (tk : List Tok) : Prop :=
  ∀ (H : Heap) (w : Nat) (o : Own) (l : List Tok), VAt H w o l → l.length + tk.length ≤ Lim →
    ACalls Tryz.prog f (.ptr w 0 :: args) H (RetT fun v H' => v = .tup [] ∧ ∃ o', VR H o w l tk H' o')
theorem VR.refl {H : Heap} {o : Own} {w : Nat} {l : List Tok} (h : VAt H w o l) : VR H o w l [] H o := ⟨by rw [List.append_nil]; exact h, .refl _ _ _⟩
theorem VAt.alloc {H : Heap} {w b : Nat} {o : Own} {l : List Tok} {x : AObj} (h : VAt H w o l) (hb : H b = none) : VAt (H.upd b x) w o l :=
  ⟨by rw [upd_ne (fun e => by subst e; rw [h.cell] at hb; cases hb)]; exact h.cell, h.own.upd hb⟩
theorem VR.alloc {H0 H : Heap} {o0 o : Own} {w b : Nat} {l0 tk : List Tok} {x : AObj} (h : VR H0 o0 w l0 tk H o) (hb : H b = none) : VR H0 o0 w l0 tk (H.upd b x) o := ⟨h.here.alloc hb, h.st.alloc hb⟩
theorem VR.cast {H0 H : Heap} {o0 o : Own} {w : Nat} {l0 tk tk' : List Tok} (h : VR H0 o0 w l0 tk H o) (e : tk = tk') : VR H0 o0 w l0 tk' H o := e ▸ h
theorem VAt.app {H H1 : Heap} {w : Nat} {o o1 : Own} {l ts : List Tok} {n : Nat} (h : VAt H w o l) (hs : OwnS H o H1 o1 n 2) (hn : n = (l ++ ts).length) :
    H1 w = some (.cells [.sl o 2 (cKs l)]) ∧ VR H o w l ts (H1.upd w (.cells [.sl o1 2 (cKs (l ++ ts))])) o1 := by
  subst hn
  have hc := own_keep h.own h.cell hs.kept
  exact ⟨hc, ⟨upd_same .., own_upd hs.own hc⟩, fun c y hcw hn hy => by rw [upd_ne hcw]; exact hs.kept c y hy hn, hs.new⟩
section
variable {KP : AV → Heap → Prop} {Q : AExit → Env → Heap → Prop} {st : List Fr} {ρ : Env} {H : Heap} {all items : List AItem} {d : Option Nat} {R : List Chk}
theorem goK_V {f : FuncId} {args : List AV} {tk' : List Tok} (hc : VC f args tk') {H0 : Heap} {o0 o : Own} {w : Nat} {l0 tk : List Tok} (h : VR H0 o0 w l0 tk H o) (hb : l0.length + (tk.length + tk'.length) ≤ Lim)
    (k : ∀ o' H', VR H0 o0 w l0 (tk ++ tk') H' o' → WStep H o w H' o' → goR Tryz.prog KP Q all items st R (ρ.set d (.tup [])) H') : goK Tryz.prog KP Q all items st d R ρ f (.ptr w 0 :: args) H := by
  refine goK_ret (hc H w o _ h.here (by simp only [List.length_append]; omega)) fun v H' ⟨hv, o', h2⟩ => ?_
  subst hv
  exact k o' H' ⟨by rw [← List.append_assoc]; exact h2.here, h.st.trans h.here.cell h2.st⟩ h2.st
end
theorem pR (s : List UInt8) : VC 74 [.str s] [pk s] := by
  intro H w o l h hb
  refine ACalls.go ir74 ck74 (Nat.le_refl _) fun KP Q hQ => ?_
  have hkl := cKs_len l
  have hc := h.cell
  simp only [Lim, List.length_cons, List.length_nil] at hb
  simp (disch := first | omega | assumption) only [ir74, hc, go_sem, ↓reduceIte]
  refine goP_ownS (by rw [hkl]; exact h.own) (by simp only [hkl, List.length_cons, List.length_nil]; omega) (by simp only [hkl, List.length_cons, List.length_nil, maxLen]; omega) fun o2 H2 hs2 => ?_
  obtain ⟨g1, g2⟩ := h.app (ts := [pk s]) hs2 (by simp [hkl])
  have ek : cKs l ++ [[AV.int .i64 1, AV.str s]] = cKs (l ++ [pk s]) := cKs_app l (pk s)
  simp (disch := first | omega | assumption) only [g1, ek, go_sem, ↓reduceIte]
  exact hQ _ _ _ _ [] nofun rfl (Low.refl _) ⟨rfl, o2, g2⟩
theorem wR (s : List UInt8) : VC 73 [.str s] [wk s] := by
  intro H w o l h hb
  refine ACalls.go ir73 ck73 (Nat.le_refl _) fun KP Q hQ => ?_
  have hkl := cKs_len l
  have hc := h.cell
  simp only [Lim, List.length_cons, List.length_nil] at hb
  simp (disch := first | omega | assumption) only [ir73, hc, go_sem, ↓reduceIte]
  refine goP_ownS (by rw [hkl]; exact h.own) (by simp only [hkl, List.length_cons, List.length_nil]; omega) (by simp only [hkl, List.length_cons, List.length_nil, maxLen]; omega) fun o2 H2 hs2 => ?_
  obtain ⟨g1, g2⟩ := h.app (ts := [wk s]) hs2 (by simp [hkl])
  have ek : cKs l ++ [[AV.int .i64 2, AV.str s]] = cKs (l ++ [wk s]) := cKs_app l (wk s)
  simp (disch := first | omega | assumption) only [g1, ek, go_sem, ↓reduceIte]
  exact hQ _ _ _ _ [] nofun rfl (Low.refl _) ⟨rfl, o2, g2⟩
theorem valueVR (v : Val) (hw : wfV v) (hv : 4 * bV v ≤ Lim) : VC 76 [.agg (cV v)] (tokV v) := by
  intro H w o l h hb
  refine ACalls.go ir76 ck76 (Nat.le_refl _) fun KP Q hQ => ?_
  have hkl := cKs_len l
  have hkt := cKs_len (tokV v)
  have hc := h.cell
  simp only [Lim] at hb
  simp (disch := first | omega | assumption) only [cV_len, cV_take, cV_splice, cM_len, cM_take, cM_splice, cM_mk, ir76, hc, go_sem, ↓reduceIte]
  refine goK_pure (WrittenR v hw hv) ?_
  simp (disch := first | omega | assumption) only [cV_len, cV_take, cV_splice, cM_len, cM_take, cM_splice, cM_mk, hc, go_sem, ↓reduceIte]
  refine goP_ownS (by rw [hkl]; exact h.own) (by rw [hkl, hkt]; omega) (by rw [hkl, hkt]; simp only [maxLen]; omega) fun o2 H2 hs2 => ?_
  obtain ⟨g1, g2⟩ := h.app (ts := tokV v) hs2 (by simp [hkl, hkt])
  rw [cKs_append] at g2
  simp (disch := first | omega | assumption) only [g1, cKs_strip, go_sem, ↓reduceIte]
  exact hQ _ _ _ _ [] nofun rfl (Low.refl _) ⟨rfl, o2, g2⟩
theorem argsVR (m : List Mem) (hw : wfMs m) (hm : 8 * bMs m ≤ Lim) : VC 146 [.sl .no 6 (cMs m)] (tArgs m) := by
  intro H w o l h hb
  have hml := bMs_len m
  have hcl := cMs_len m
  have hm' := hm
  simp only [Lim] at hm'
  refine ACalls.go ir146 ck146 (Nat.le_refl _) fun KP Q hQ => ?_
  have w0 := VR.refl h
  by_cases hz : m.length = 0
  · have hz' : ((m.length : Int) = 0) = True := eq_true (by omega)
    simp (disch := first | omega | assumption) only [ir146, hcl, hz', go_sem, ↓reduceIte]
    have em := List.length_eq_zero_iff.1 hz
    subst em
    exact hQ _ _ H H [] nofun rfl (Low.refl _) ⟨rfl, o, w0⟩
  · have hz' : ¬ ((m.length : Int) = 0) := by omega
    have eT : tArgs m = pk [40] :: (tokMs m ++ [pk [41]]) := by unfold tArgs; rw [if_neg hz]
    rw [eT] at hb
    simp only [List.length_cons, List.length_append, List.length_nil, Lim] at hb
    simp (disch := first | omega | assumption) only [ir146, hcl, hz', go_sem, ↓reduceIte]
    refine goK_V (pR [40]) w0 (by simp only [Lim, List.length_cons, List.length_nil]; omega) fun o2 H2 w2 _ => ?_
    simp (disch := first | omega | assumption) only [hcl, go_sem, ↓reduceIte]
    refine goL_range m 4 (fun x : Own => []) (fun done rest x H' => VR H o w l (pk [40] :: tokMs done) H' x) o2 (by simp (disch := first | omega | assumption) only [go_sem, ↓reduceIte]) w2 ?_ ?_
    · rintro o3 H3 J w3 hlt
      simp (disch := first | omega | assumption) only [hcl, hlt, go_sem, ↓reduceIte]
      refine goK_V (pR [41]) w3 (by simp only [Lim, List.length_cons, List.length_nil]; omega) fun o4 H4 w4 _ => ?_
      simp (disch := first | omega | assumption) only [go_sem, ↓reduceIte]
      exact hQ _ _ H4 H4 [] nofun rfl (Low.refl _) ⟨rfl, o4, w4.cast (by rw [eT]; simp)⟩
    · rintro done x rest o3 H3 J hd hlt hlt2 w3 hJ
      have hg := cMs_get hd
      have hbm := bMs_mid done x rest
      rw [← hd] at hbm
      have hmem : x ∈ m := by rw [hd]; simp
      have hlen : (tokMs m).length = (tokMs done).length + (tokM x).length + (tokMs rest).length := by rw [hd, tokMs_app]; simp [tokMs]; omega
      obtain ⟨s, v⟩ := x
      have hwv := wfMs_mem hw s v hmem
      simp only [bM] at hbm
      have e2 : (tokM (.mk s v)).length = 2 + (tokV v).length := by simp [tokM]; omega
      rw [e2] at hlen
      simp (disch := first | omega | assumption) only [cV_len, cV_take, cV_splice, cM_len, cM_take, cM_splice, cM_mk, hcl, hlt, hg, go_sem, ↓reduceIte]
      refine goK_V (wR s) w3 (by simp only [Lim, List.length_cons, List.length_nil]; omega) fun o5 H5 w5 _ => ?_
      simp (disch := first | omega | assumption) only [cV_len, cV_take, cV_splice, cM_len, cM_take, cM_splice, cM_mk, hcl, hlt, hg, go_sem, ↓reduceIte]
      refine goK_V (pR [58]) w5 (by simp only [Lim, List.length_cons, List.length_nil, List.length_append]; omega) fun o6 H6 w6 _ => ?_
      simp (disch := first | omega | assumption) only [cV_len, cV_take, cV_splice, cM_len, cM_take, cM_splice, cM_mk, hcl, hlt, hg, go_sem, ↓reduceIte]
      refine goK_V (valueVR v hwv (by simp only [Lim]; omega)) w6 (by simp only [Lim, List.length_cons, List.length_nil, List.length_append]; omega) fun o7 H7 w7 _ => ?_
      simp (disch := first | omega | assumption) only [wrap64, go_sem, ↓reduceIte]
      exact goJ (hJ o7 H7 (w7.cast (by rw [tokMs_app]; simp [tokMs, tokM, wk, pk]))) (by simp (disch := first | omega | assumption) only [go_sem, ↓reduceIte])
end Go.Proofs.YticbbfbpeimkbaaGreatDoor
namespace Go.Proofs.YticbbfbpeimkbaaGreatDoor
open Go.Ab
theorem tDs_len_mid (a : List DirD) (x : DirD) (b : List DirD) : (tDs (a ++ x :: b)).length = (tDs a).length + (tD x).length + (tDs b).length := by simp [tDs]; omega
theorem dirsVR (m : List DirD) (hw : wfDs m) (hm : 8 * bDs m ≤ Lim) : VC 77 [.sl .no 2 (cDs m)] (tDs m) := by
  intro H w o l h hb
  have hml := bDs_len m
  have hcl := cDs_len m
  have hm' := hm
  simp only [Lim] at hm' hb
  refine ACalls.go ir77 ck77 (Nat.le_refl _) fun KP Q hQ => ?_
  have w0 := VR.refl h
  simp (disch := first | omega | assumption) only [ir77, hcl, go_sem, ↓reduceIte]
  refine goL_range m 4 (fun x : Own => []) (fun done rest x H' => VR H o w l (tDs done) H' x) o (by simp (disch := first | omega | assumption) only [go_sem, ↓reduceIte]) w0 ?_ ?_
  · rintro o3 H3 J w3 hlt
    simp (disch := first | omega | assumption) only [hcl, hlt, go_sem, ↓reduceIte]
    exact hQ _ _ H3 H3 [] nofun rfl (Low.refl _) ⟨rfl, o3, w3⟩
  · rintro done x rest o3 H3 J hd hlt hlt2 w3 hJ
    have hg := cDs_get hd
    have hbm := bDs_mid done x rest
    rw [← hd] at hbm
    have hmem : x ∈ m := by rw [hd]; simp
    have hlen : (tDs m).length = (tDs done).length + (tD x).length + (tDs rest).length := by rw [hd, tDs_len_mid]
    have hwx := hw x hmem
    obtain ⟨s, args⟩ := x
    simp only [bD] at hbm
    have e2 : (tD ⟨s, args⟩).length = 2 + (tArgs args).length := by simp [tD]; omega
    rw [e2] at hlen
    have ex : cD ⟨s, args⟩ = [.str s, .sl .no 6 (cMs args)] := rfl
    rw [ex] at hg
    simp (disch := first | omega | assumption) only [hcl, hlt, hg, go_sem, ↓reduceIte]
    refine goK_V (pR [64]) w3 (by simp only [Lim, List.length_cons, List.length_nil]; omega) fun o5 H5 w5 _ => ?_
    simp (disch := first | omega | assumption) only [hcl, hlt, hg, go_sem, ↓reduceIte]
    refine goK_V (wR s) w5 (by simp only [Lim, List.length_cons, List.length_nil, List.length_append]; omega) fun o6 H6 w6 _ => ?_
    simp (disch := first | omega | assumption) only [hcl, hlt, hg, go_sem, ↓reduceIte]
    refine goK_V (argsVR args hwx (by simp only [Lim]; omega)) w6 (by simp only [Lim, List.length_cons, List.length_nil, List.length_append]; omega) fun o7 H7 w7 _ => ?_
    simp (disch := first | omega | assumption) only [wrap64, go_sem, ↓reduceIte]
    exact goJ (hJ o7 H7 (w7.cast (by rw [tDs_snoc]; simp [tD]))) (by simp (disch := first | omega | assumption) only [go_sem, ↓reduceIte])
theorem tSl_len_mid (a : List SelD) (x : SelD) (b : List SelD) : (tSl (a ++ x :: b)).length = (tSl a).length + (tS x).length + (tSl b).length := by rw [tSl_app]; simp [tSl]; omega
def SelsV (c : Nat) : Prop := ∀ l : List SelD, bSs l ≤ c → wfSs l → 8 * bSs l ≤ Lim → VC 78 [.sl .no 7 (cSs l)] (tSl l)
set_option maxHeartbeats 4000000 in
theorem selsVR : ∀ c, SelsV c := by
  intro c
  induction c using Nat.strongRecOn with
  | _ c ih =>
  intro L hc hwL hm H w o l h hb
  have hm' := hm
  simp only [Lim] at hm' hb
  have hcs := cSs_len L
  have hLl := bSs_len L
  refine ACalls.go ir78 ck78 (Nat.le_refl _) fun KP Q hQ => ?_
  have w0 := VR.refl h
  simp (disch := first | omega | assumption) only [ir78, hcs, go_sem, ↓reduceIte]
  refine goL_range L 4 (fun x : Own => []) (fun done rest x H' => VR H o w l (tSl done) H' x) o (by simp (disch := first | omega | assumption) only [go_sem, ↓reduceIte]) w0 ?_ ?_
  · rintro o3 H3 J w3 hlt
    simp (disch := first | omega | assumption) only [hcs, hlt, go_sem, ↓reduceIte]
    exact hQ _ _ H3 H3 [] nofun rfl (Low.refl _) ⟨rfl, o3, w3⟩
  · rintro done x rest o3 H3 J hd hlt hlt2 w3 hJ
    have hg := cSs_get hd
    have hbm := bSs_mid done x rest
    rw [← hd] at hbm
    have hlen : (tSl L).length = (tSl done).length + (tS x).length + (tSl rest).length := by rw [hd, tSl_len_mid]
    have hmem : x ∈ L := by rw [hd]; simp
    have hwx := wfSs_mem hwL x hmem
    obtain ⟨k, al, nm, args, dirs, on, sels⟩ := x
    have hbx : bS (.mk k al nm args dirs on sels) = 1 + al.length + nm.length + on.length + bMs args + bDs dirs + bSs sels := rfl
    have hcss := cSs_len sels
    have hLB := ih (bSs sels) (by omega)
    obtain ⟨hwa, hwd, hws⟩ := hwx
    rw [cS_mk] at hg
    have eT : tS (.mk k al nm args dirs on sels) = (if k = 0 then (if al = [] then [] else [wk al, pk [58]]) ++ (wk nm :: tArgs args) else if k = 1 then [pk [46, 46, 46], wk nm] else pk [46, 46, 46] :: (if on = [] then [] else [wk [111, 110], wk on])) ++
      (tDs dirs ++ (if sels.length = 0 then [] else pk [123] :: (tSl sels ++ [pk [125]]))) := rfl
    have hlen2 := hlen
    rw [eT] at hlen2
    simp only [List.length_append] at hlen2
    simp (disch := first | omega | assumption) only [hcs, hlt, hg, go_sem, ↓reduceIte]
    refine goA_intro fun b hb => ?_
    have hbw : b ≠ w := fun e => by subst e; rw [w3.here.cell] at hb; cases hb
    have w5 := w3.alloc (x := .cells [.int .i64 k, .str al, .str nm, .sl .no 6 (cMs args), .sl .no 2 (cDs dirs), .str on, .sl .no 7 (cSs sels)]) hb
    have hbc : (H3.upd b (.cells [.int .i64 k, .str al, .str nm, .sl .no 6 (cMs args), .sl .no 2 (cDs dirs), .str on, .sl .no 7 (cSs sels)])) b = some (.cells [.int .i64 k, .str al, .str nm, .sl .no 6 (cMs args), .sl .no 2 (cDs dirs), .str on, .sl .no 7 (cSs sels)]) := upd_same ..
    by_cases k0 : k = 0
    · subst k0
      rw [if_pos rfl] at hlen2 eT
      simp only [List.length_append, List.length_cons, List.length_nil] at hlen2
      by_cases hal : al = []
      · rw [if_pos hal] at hlen2
        simp only [List.length_nil] at hlen2
        subst hal
        have hal : True := trivial
        simp (disch := first | omega | assumption) only [hbc, go_sem, ↓reduceIte]
        refine goK_V (wR nm) w5 (by simp only [Lim, List.length_cons, List.length_nil]; omega) fun o6 H6 w6 s6 => ?_
        have hb6 := s6.box w5.here.own hbc hbw
        simp (disch := first | omega | assumption) only [hb6, go_sem, ↓reduceIte]
        refine goK_V (argsVR args hwa (by simp only [Lim]; omega)) w6 (by simp only [Lim, List.length_cons, List.length_nil, List.length_append]; omega) fun oX HX wX sX => ?_
        have hbX := sX.box w6.here.own hb6 hbw
        simp (disch := first | omega | assumption) only [hbX, go_sem, ↓reduceIte]
        refine goK_V (dirsVR dirs hwd (by simp only [Lim]; omega)) wX (by simp only [Lim, List.length_cons, List.length_nil, List.length_append]; omega) fun oY HY wY sY => ?_
        have hbY := sY.box wX.here.own hbX hbw
        by_cases hz : sels.length = 0
        case pos =>
          have hz' : ¬ ((0 : Int) < (sels.length : Int)) := by omega
          simp (disch := first | omega | assumption) only [hbY, hcss, hz', wrap64, go_sem, ↓reduceIte]
          exact goJ (hJ oY HY (wY.cast (by rw [tSl_snoc, eT]; simp [hz, hal]))) (by simp (disch := first | omega | assumption) only [go_sem, ↓reduceIte])
        case neg =>
          have hz' : ((0 : Int) < (sels.length : Int)) = True := eq_true (by omega)
          rw [if_neg hz] at hlen2
          simp only [List.length_cons, List.length_nil, List.length_append] at hlen2
          simp (disch := first | omega | assumption) only [hbY, hcss, hz', go_sem, ↓reduceIte]
          refine goK_V (pR [123]) wY (by simp only [Lim, List.length_cons, List.length_nil, List.length_append]; omega) fun oZ HZ wZ sZ => ?_
          have hbZ := sZ.box wY.here.own hbY hbw
          simp (disch := first | omega | assumption) only [hbZ, go_sem, ↓reduceIte]
          refine goK_V (hLB sels (Nat.le_refl _) hws (by simp only [Lim]; omega)) wZ (by simp only [Lim, List.length_cons, List.length_nil, List.length_append]; omega) fun oU HU wU _ => ?_
          simp (disch := first | omega | assumption) only [go_sem, ↓reduceIte]
          refine goK_V (pR [125]) wU (by simp only [Lim, List.length_cons, List.length_nil, List.length_append]; omega) fun oV HV wV _ => ?_
          simp (disch := first | omega | assumption) only [wrap64, go_sem, ↓reduceIte]
          exact goJ (hJ oV HV (wV.cast (by rw [tSl_snoc, eT]; simp [hz, hal]))) (by simp (disch := first | omega | assumption) only [go_sem, ↓reduceIte])
      · rw [if_neg hal] at hlen2
        simp only [List.length_cons, List.length_nil] at hlen2
        simp (disch := first | omega | assumption) only [hbc, hal, go_sem, ↓reduceIte]
        refine goK_V (wR al) w5 (by simp only [Lim, List.length_cons, List.length_nil]; omega) fun o4 H4 w4 s4 => ?_
        have hb4 := s4.box w5.here.own hbc hbw
        simp (disch := first | omega | assumption) only [hb4, go_sem, ↓reduceIte]
        refine goK_V (pR [58]) w4 (by simp only [Lim, List.length_cons, List.length_nil, List.length_append]; omega) fun o7 H7 w7 s7 => ?_
        have hb7 := s7.box w4.here.own hb4 hbw
        simp (disch := first | omega | assumption) only [hb7, go_sem, ↓reduceIte]
        refine goK_V (wR nm) w7 (by simp only [Lim, List.length_cons, List.length_nil, List.length_append]; omega) fun o6 H6 w6 s6 => ?_
        have hb6 := s6.box w7.here.own hb7 hbw
        simp (disch := first | omega | assumption) only [hb6, go_sem, ↓reduceIte]
        refine goK_V (argsVR args hwa (by simp only [Lim]; omega)) w6 (by simp only [Lim, List.length_cons, List.length_nil, List.length_append]; omega) fun oX HX wX sX => ?_
        have hbX := sX.box w6.here.own hb6 hbw
        simp (disch := first | omega | assumption) only [hbX, go_sem, ↓reduceIte]
        refine goK_V (dirsVR dirs hwd (by simp only [Lim]; omega)) wX (by simp only [Lim, List.length_cons, List.length_nil, List.length_append]; omega) fun oY HY wY sY => ?_
        have hbY := sY.box wX.here.own hbX hbw
        by_cases hz : sels.length = 0
        case pos =>
          have hz' : ¬ ((0 : Int) < (sels.length : Int)) := by omega
          simp (disch := first | omega | assumption) only [hbY, hcss, hz', wrap64, go_sem, ↓reduceIte]
          exact goJ (hJ oY HY (wY.cast (by rw [tSl_snoc, eT]; simp [hz, hal]))) (by simp (disch := first | omega | assumption) only [go_sem, ↓reduceIte])
        case neg =>
          have hz' : ((0 : Int) < (sels.length : Int)) = True := eq_true (by omega)
          rw [if_neg hz] at hlen2
          simp only [List.length_cons, List.length_nil, List.length_append] at hlen2
          simp (disch := first | omega | assumption) only [hbY, hcss, hz', go_sem, ↓reduceIte]
          refine goK_V (pR [123]) wY (by simp only [Lim, List.length_cons, List.length_nil, List.length_append]; omega) fun oZ HZ wZ sZ => ?_
          have hbZ := sZ.box wY.here.own hbY hbw
          simp (disch := first | omega | assumption) only [hbZ, go_sem, ↓reduceIte]
          refine goK_V (hLB sels (Nat.le_refl _) hws (by simp only [Lim]; omega)) wZ (by simp only [Lim, List.length_cons, List.length_nil, List.length_append]; omega) fun oU HU wU _ => ?_
          simp (disch := first | omega | assumption) only [go_sem, ↓reduceIte]
          refine goK_V (pR [125]) wU (by simp only [Lim, List.length_cons, List.length_nil, List.length_append]; omega) fun oV HV wV _ => ?_
          simp (disch := first | omega | assumption) only [wrap64, go_sem, ↓reduceIte]
          exact goJ (hJ oV HV (wV.cast (by rw [tSl_snoc, eT]; simp [hz, hal]))) (by simp (disch := first | omega | assumption) only [go_sem, ↓reduceIte])
    by_cases k1 : k = 1
    · subst k1
      rw [if_neg (by decide), if_pos rfl] at hlen2 eT
      simp only [List.length_cons, List.length_nil] at hlen2
      have hal : True := trivial
      simp (disch := first | omega | assumption) only [hbc, go_sem, ↓reduceIte]
      refine goK_V (pR [46, 46, 46]) w5 (by simp only [Lim, List.length_cons, List.length_nil]; omega) fun o4 H4 w4 s4 => ?_
      have hb4 := s4.box w5.here.own hbc hbw
      simp (disch := first | omega | assumption) only [hb4, go_sem, ↓reduceIte]
      refine goK_V (wR nm) w4 (by simp only [Lim, List.length_cons, List.length_nil, List.length_append]; omega) fun oX HX wX sX => ?_
      have hbX := sX.box w4.here.own hb4 hbw
      simp (disch := first | omega | assumption) only [hbX, go_sem, ↓reduceIte]
      refine goK_V (dirsVR dirs hwd (by simp only [Lim]; omega)) wX (by simp only [Lim, List.length_cons, List.length_nil, List.length_append]; omega) fun oY HY wY sY => ?_
      have hbY := sY.box wX.here.own hbX hbw
      by_cases hz : sels.length = 0
      case pos =>
        have hz' : ¬ ((0 : Int) < (sels.length : Int)) := by omega
        simp (disch := first | omega | assumption) only [hbY, hcss, hz', wrap64, go_sem, ↓reduceIte]
        exact goJ (hJ oY HY (wY.cast (by rw [tSl_snoc, eT]; simp [hz, hal]))) (by simp (disch := first | omega | assumption) only [go_sem, ↓reduceIte])
      case neg =>
        have hz' : ((0 : Int) < (sels.length : Int)) = True := eq_true (by omega)
        rw [if_neg hz] at hlen2
        simp only [List.length_cons, List.length_nil, List.length_append] at hlen2
        simp (disch := first | omega | assumption) only [hbY, hcss, hz', go_sem, ↓reduceIte]
        refine goK_V (pR [123]) wY (by simp only [Lim, List.length_cons, List.length_nil, List.length_append]; omega) fun oZ HZ wZ sZ => ?_
        have hbZ := sZ.box wY.here.own hbY hbw
        simp (disch := first | omega | assumption) only [hbZ, go_sem, ↓reduceIte]
        refine goK_V (hLB sels (Nat.le_refl _) hws (by simp only [Lim]; omega)) wZ (by simp only [Lim, List.length_cons, List.length_nil, List.length_append]; omega) fun oU HU wU _ => ?_
        simp (disch := first | omega | assumption) only [go_sem, ↓reduceIte]
        refine goK_V (pR [125]) wU (by simp only [Lim, List.length_cons, List.length_nil, List.length_append]; omega) fun oV HV wV _ => ?_
        simp (disch := first | omega | assumption) only [wrap64, go_sem, ↓reduceIte]
        exact goJ (hJ oV HV (wV.cast (by rw [tSl_snoc, eT]; simp [hz, hal]))) (by simp (disch := first | omega | assumption) only [go_sem, ↓reduceIte])
    · rw [if_neg k0, if_neg k1] at hlen2 eT
      simp only [List.length_cons] at hlen2
      simp (disch := first | omega | assumption) only [hbc, k0, k1, go_sem, ↓reduceIte]
      refine goK_V (pR [46, 46, 46]) w5 (by simp only [Lim, List.length_cons, List.length_nil]; omega) fun o4 H4 w4 s4 => ?_
      have hb4 := s4.box w5.here.own hbc hbw
      by_cases hal : on = []
      · rw [if_pos hal] at hlen2
        simp only [List.length_nil] at hlen2
        subst hal
        have hal : True := trivial
        have wX := w4
        have hbX := hb4
        simp (disch := first | omega | assumption) only [hb4, go_sem, ↓reduceIte]
        refine goK_V (dirsVR dirs hwd (by simp only [Lim]; omega)) wX (by simp only [Lim, List.length_cons, List.length_nil, List.length_append]; omega) fun oY HY wY sY => ?_
        have hbY := sY.box wX.here.own hbX hbw
        by_cases hz : sels.length = 0
        case pos =>
          have hz' : ¬ ((0 : Int) < (sels.length : Int)) := by omega
          simp (disch := first | omega | assumption) only [hbY, hcss, hz', wrap64, go_sem, ↓reduceIte]
          exact goJ (hJ oY HY (wY.cast (by rw [tSl_snoc, eT]; simp [hz, hal]))) (by simp (disch := first | omega | assumption) only [go_sem, ↓reduceIte])
        case neg =>
          have hz' : ((0 : Int) < (sels.length : Int)) = True := eq_true (by omega)
          rw [if_neg hz] at hlen2
          simp only [List.length_cons, List.length_nil, List.length_append] at hlen2
          simp (disch := first | omega | assumption) only [hbY, hcss, hz', go_sem, ↓reduceIte]
          refine goK_V (pR [123]) wY (by simp only [Lim, List.length_cons, List.length_nil, List.length_append]; omega) fun oZ HZ wZ sZ => ?_
          have hbZ := sZ.box wY.here.own hbY hbw
          simp (disch := first | omega | assumption) only [hbZ, go_sem, ↓reduceIte]
          refine goK_V (hLB sels (Nat.le_refl _) hws (by simp only [Lim]; omega)) wZ (by simp only [Lim, List.length_cons, List.length_nil, List.length_append]; omega) fun oU HU wU _ => ?_
          simp (disch := first | omega | assumption) only [go_sem, ↓reduceIte]
          refine goK_V (pR [125]) wU (by simp only [Lim, List.length_cons, List.length_nil, List.length_append]; omega) fun oV HV wV _ => ?_
          simp (disch := first | omega | assumption) only [wrap64, go_sem, ↓reduceIte]
          exact goJ (hJ oV HV (wV.cast (by rw [tSl_snoc, eT]; simp [hz, hal]))) (by simp (disch := first | omega | assumption) only [go_sem, ↓reduceIte])
      · rw [if_neg hal] at hlen2
        simp only [List.length_cons, List.length_nil] at hlen2
        simp (disch := first | omega | assumption) only [hb4, hal, go_sem, ↓reduceIte]
        refine goK_V (wR [111, 110]) w4 (by simp only [Lim, List.length_cons, List.length_nil, List.length_append]; omega) fun o7 H7 w7 s7 => ?_
        have hb7 := s7.box w4.here.own hb4 hbw
        simp (disch := first | omega | assumption) only [hb7, go_sem, ↓reduceIte]
        refine goK_V (wR on) w7 (by simp only [Lim, List.length_cons, List.length_nil, List.length_append]; omega) fun oX HX wX sX => ?_
        have hbX := sX.box w7.here.own hb7 hbw
        simp (disch := first | omega | assumption) only [hbX, go_sem, ↓reduceIte]
        refine goK_V (dirsVR dirs hwd (by simp only [Lim]; omega)) wX (by simp only [Lim, List.length_cons, List.length_nil, List.length_append]; omega) fun oY HY wY sY => ?_
        have hbY := sY.box wX.here.own hbX hbw
        by_cases hz : sels.length = 0
        case pos =>
          have hz' : ¬ ((0 : Int) < (sels.length : Int)) := by omega
          simp (disch := first | omega | assumption) only [hbY, hcss, hz', wrap64, go_sem, ↓reduceIte]
          exact goJ (hJ oY HY (wY.cast (by rw [tSl_snoc, eT]; simp [hz, hal]))) (by simp (disch := first | omega | assumption) only [go_sem, ↓reduceIte])
        case neg =>
          have hz' : ((0 : Int) < (sels.length : Int)) = True := eq_true (by omega)
          rw [if_neg hz] at hlen2
          simp only [List.length_cons, List.length_nil, List.length_append] at hlen2
          simp (disch := first | omega | assumption) only [hbY, hcss, hz', go_sem, ↓reduceIte]
          refine goK_V (pR [123]) wY (by simp only [Lim, List.length_cons, List.length_nil, List.length_append]; omega) fun oZ HZ wZ sZ => ?_
          have hbZ := sZ.box wY.here.own hbY hbw
          simp (disch := first | omega | assumption) only [hbZ, go_sem, ↓reduceIte]
          refine goK_V (hLB sels (Nat.le_refl _) hws (by simp only [Lim]; omega)) wZ (by simp only [Lim, List.length_cons, List.length_nil, List.length_append]; omega) fun oU HU wU _ => ?_
          simp (disch := first | omega | assumption) only [go_sem, ↓reduceIte]
          refine goK_V (pR [125]) wU (by simp only [Lim, List.length_cons, List.length_nil, List.length_append]; omega) fun oV HV wV _ => ?_
          simp (disch := first | omega | assumption) only [wrap64, go_sem, ↓reduceIte]
          exact goJ (hJ oV HV (wV.cast (by rw [tSl_snoc, eT]; simp [hz, hal]))) (by simp (disch := first | omega | assumption) only [go_sem, ↓reduceIte])
theorem vat_new {H : Heap} {b : Nat} : VAt (H.upd b (.cells [.sl .nil 2 []])) b .nil [] := ⟨upd_same .., rfl⟩
theorem selsTopR (l : List SelD) (hw : wfSs l) (hb : 16 * bSs l + 16 ≤ Lim) : Pure Tryz.prog 38 [.sl .no 7 (cSs l)] (.tup [.sl .no 2 (cKs (if rightSs 1 l then tSl l else [])), .bool (rightSs 1 l)]) := by
  refine Pure.go ir38 ck38 (Nat.le_refl _) fun KP Q hQ => ?_
  have hb' := hb
  simp only [Lim] at hb'
  have htl := tSl_le l
  simp (disch := first | omega | assumption) only [ir38, go_sem, ↓reduceIte]
  refine goK_pure (rightSsR (bSs l) l (Nat.le_refl _) (by simp only [Lim]; omega) 1 (by decide) (by decide)) ?_
  cases hr : rightSs 1 l with
  | false =>
    rw [hr] at hQ
    simp (disch := first | omega | assumption) only [go_sem, ↓reduceIte]
    exact hQ _ _ _ _ nofun rfl (by simp [tupOf, envOf, AV.strip, AV.strip1, cKs])
  | true =>
    rw [hr] at hQ
    simp (disch := first | omega | assumption) only [go_sem, ↓reduceIte]
    refine goA_intro fun b hb => ?_
    have w0 := VR.refl (vat_new (H := Heap.emp) (b := b))
    simp (disch := first | omega | assumption) only [go_sem, ↓reduceIte]
    refine goK_V (selsVR (bSs l) l (Nat.le_refl _) hw (by simp only [Lim]; omega)) w0 (by simp only [Lim, List.length_nil]; omega) fun o2 H2 w2 _ => ?_
    have hc := w2.here.cell
    simp only [List.nil_append] at hc
    simp (disch := first | omega | assumption) only [hc, go_sem, ↓reduceIte]
    exact hQ _ _ _ _ nofun rfl (by simp [tupOf, envOf, AV.strip, AV.strip1])
end Go.Proofs.YticbbfbpeimkbaaGreatDoor
namespace Go.Proofs.YticbbfbpeimkbaaGreatDoor
open Go.Ab
end Go.Proofs.YticbbfbpeimkbaaGreatDoor
namespace Go.Proofs.YticbbfbpeimkbaaGreatDoor
open Go.Ab
def lD (x : DirD) : Nat := 2 + x.nm.length + bMs x.args
def lDs (l : List DirD) : Nat := (l.map lD).sum
mutual
def lS : SelD → Nat
  | .mk _ al nm args dirs on sels => 2 + nm.length + al.length + on.length + bMs args + lDs dirs + lSs sels
def lSs : List SelD → Nat
  | [] => 0
  | x :: r => lS x + lSs r
end
theorem sum_le {α : Type} {f g : α → Nat} {c : Nat} (h : ∀ x, f x ≤ c * g x) : ∀ l : List α, (l.map f).sum ≤ c * (l.map g).sum
  | [] => Nat.zero_le _
  | x :: r => by have := sum_le h r; have := h x; simp only [List.map_cons, List.sum_cons, Nat.mul_add]; omega
theorem lDs_le (l : List DirD) : lDs l ≤ 2 * bDs l := sum_le (fun x => by simp only [lD, bD]; omega) l
mutual
theorem lS_le : ∀ x, lS x ≤ 2 * bS x
  | .mk k al nm args dirs on sels => by
    have h1 := lDs_le dirs
    have h2 := lSs_le sels
    simp only [lS, bS]; omega
theorem lSs_le : ∀ l, lSs l ≤ 2 * bSs l
  | [] => by simp [lSs]
  | x :: r => by
    have h1 := lS_le x
    have h2 := lSs_le r
    simp only [lSs, bSs]; omega
end
theorem lightDirsC (l : List DirD) (hb : bDs l ≤ Lim) : Pure Tryz.prog 67 [.sl .no 2 (cDs l)] (.int .i64 (lDs l)) := by
  refine Pure.go ir67 ck67 (Nat.le_refl _) fun KP Q hQ => ?_
  have h1 := cDs_len l
  have hl := bDs_len l
  have hle := lDs_le l
  have hb' := hb
  simp only [Lim] at hb'
  simp (disch := first | omega | assumption) only [ir67, h1, go_sem, ↓reduceIte]
  refine goL_range l 4 (fun n : Int => [(3, .int .i64 n)]) (fun done rest n H => n + lDs rest = lDs l) 0 (by simp (disch := first | omega | assumption) only [go_sem, ↓reduceIte]) (by simp) ?_ ?_
  · rintro n H J hn hlt
    simp only [lDs, List.map_nil, List.sum_nil] at hn
    simp (disch := first | omega | assumption) only [h1, hlt, go_sem, ↓reduceIte]
    have : n = ((lDs l : Nat) : Int) := by simp only [lDs]; omega
    exact hQ _ _ _ _ nofun rfl (by simp [tupOf, envOf, AV.strip, AV.strip1, this])
  · rintro done x rest n H J hd hlt _ hn hJ
    have hg := cDs_get hd
    have hbm := bDs_mid done x rest
    rw [← hd] at hbm
    obtain ⟨nm, args⟩ := x
    simp only [bD] at hbm
    have hn' : n + (2 + nm.length + bMs args + lDs rest : Nat) = lDs l := by rw [← hn]; simp [lDs, lD]
    have hsz : bV (.mk 0 0 [] [] args) = 1 + bMs args := by simp [bV, bVs]
    have hp : (0 : Int) ≤ n := by
      have := lDs_le rest
      have e : lDs l = lDs done + lDs (⟨nm, args⟩ :: rest) := by rw [hd]; simp [lDs]
      omega
    simp (disch := first | omega | assumption) only [h1, hlt, hg, cD, wrap64, go_sem, ↓reduceIte]
    refine goK_pure (Pure.low (sizeC (.mk 0 0 [] [] args) (by rw [hsz]; simp only [Lim]; omega))) ?_
    rw [hsz]
    simp (disch := first | omega | assumption) only [h1, hlt, hg, cD, wrap64, go_sem, ↓reduceIte]
    exact goJ (hJ (n + 1 + nm.length + ((1 + bMs args : Nat) : Int)) _ (by omega)) (by simp (disch := first | omega | assumption) only [wrap64, go_sem, ↓reduceIte])
theorem lightSelsN : ∀ c : Nat, ∀ l : List SelD, bSs l ≤ c → c ≤ Lim → Pure Tryz.prog 35 [.sl .no 7 (cSs l)] (.int .i64 (lSs l)) := by
  intro c
  induction c using Nat.strongRecOn with
  | _ c ih =>
  intro l hb hc
  refine Pure.go ir35 ck35 (Nat.le_refl _) fun KP Q hQ => ?_
  have h1 := cSs_len l
  have hl := bSs_len l
  have hle := lSs_le l
  have hb' := hc
  simp only [Lim] at hb'
  simp (disch := first | omega | assumption) only [ir35, h1, go_sem, ↓reduceIte]
  refine goL_range l 4 (fun n : Int => [(3, .int .i64 n)]) (fun done rest n H => n + lSs rest = lSs l ∧ 0 ≤ n) 0 (by simp (disch := first | omega | assumption) only [go_sem, ↓reduceIte]) (by simp) ?_ ?_
  · rintro n H J ⟨hn, _⟩ hlt
    simp only [lSs] at hn
    simp (disch := first | omega | assumption) only [h1, hlt, go_sem, ↓reduceIte]
    have : n = ((lSs l : Nat) : Int) := by omega
    exact hQ _ _ _ _ nofun rfl (by simp [tupOf, envOf, AV.strip, AV.strip1, this])
  · rintro done x rest n H J hd hlt _ ⟨hn, hp⟩ hJ
    have hg := cSs_get hd
    have hbm := bSs_mid done x rest
    rw [← hd] at hbm
    obtain ⟨k, al, nm, args, dirs, on, sels⟩ := x
    have hdl := lDs_le dirs
    have hsl := lSs_le sels
    simp only [bS] at hbm
    rw [cS_mk] at hg
    simp only [lSs, lS] at hn
    have hsz : bV (.mk 0 0 [] [] args) = 1 + bMs args := by simp [bV, bVs]
    simp (disch := first | omega | assumption) only [h1, hlt, hg, wrap64, go_sem, ↓reduceIte]
    refine goK_pure (Pure.low (sizeC (.mk 0 0 [] [] args) (by rw [hsz]; simp only [Lim]; omega))) ?_
    rw [hsz]
    simp (disch := first | omega | assumption) only [h1, hlt, hg, wrap64, go_sem, ↓reduceIte]
    refine goK_pure (lightDirsC dirs (by simp only [Lim]; omega)) ?_
    simp (disch := first | omega | assumption) only [h1, hlt, hg, wrap64, go_sem, ↓reduceIte]
    refine goK_pure (ih (bSs sels) (by omega) sels (Nat.le_refl _) (by omega)) ?_
    simp (disch := first | omega | assumption) only [h1, hlt, hg, wrap64, go_sem, ↓reduceIte]
    exact goJ (hJ (n + 1 + nm.length + al.length + on.length + ((1 + bMs args : Nat) : Int) + lDs dirs + lSs sels) _ ⟨by omega, by omega⟩) (by simp (disch := first | omega | assumption) only [wrap64, go_sem, ↓reduceIte])
theorem lightSelsC (l : List SelD) (hb : bSs l ≤ Lim) : Pure Tryz.prog 35 [.sl .no 7 (cSs l)] (.int .i64 (lSs l)) := lightSelsN (bSs l) l (Nat.le_refl _) hb
end Go.Proofs.YticbbfbpeimkbaaGreatDoor
namespace Go.Proofs.YticbbfbpeimkbaaGreatDoor
open Go.Ab
theorem PrintSelsL (l : List SelD) (hw : wfSs l) (hb : bSs l ≤ 1048576) : Pure Tryz.prog 5 [.sl .no 7 (cSs l)] (.bool true) := by
  refine Pure.go ir5 ck5 (Nat.le_refl _) fun KP Q hQ => ?_
  simp (disch := first | omega | assumption) only [ir5, go_sem, ↓reduceIte]
  refine goK_pure (lightSelsC l (by simp only [Lim]; omega)) ?_
  by_cases h : (3200 : Int) < ((lSs l : Nat) : Int)
  · have h' := eq_true h
    simp (disch := first | omega | assumption) only [h', go_sem, ↓reduceIte]
    refine goK_pure awake7C ?_
    simp (disch := first | omega | assumption) only [go_sem, ↓reduceIte]
    exact hQ _ _ _ _ nofun rfl (by simp [tupOf, envOf, AV.strip, AV.strip1])
  · simp (disch := first | omega | assumption) only [h, go_sem, ↓reduceIte]
    refine goK_pure (copySsC l (by simp only [Lim]; omega)) ?_
    simp (disch := first | omega | assumption) only [go_sem, ↓reduceIte]
    refine goK_pure (printSelsC l hw (by simp only [Lim]; omega)) ?_
    simp (disch := first | omega | assumption) only [go_sem, ↓reduceIte]
    refine goK_pure (selsTopR l hw (by simp only [Lim]; omega)) ?_
    simp (disch := first | omega | assumption) only [go_sem, ↓reduceIte]
    have hl := tSl_le l
    have hs := sameTokensR (selToks l) (selToks l) (by unfold selToks; simp only [Lim]; split <;> first | omega | exact Nat.zero_le _)
    rw [eqd_true rfl] at hs
    refine goK_pure hs ?_
    simp (disch := first | omega | assumption) only [go_sem, ↓reduceIte]
    refine goK_pure awake7C ?_
    simp (disch := first | omega | assumption) only [go_sem, ↓reduceIte]
    exact hQ _ _ _ _ nofun rfl (by simp [tupOf, envOf, AV.strip, AV.strip1])
end Go.Proofs.YticbbfbpeimkbaaGreatDoor
