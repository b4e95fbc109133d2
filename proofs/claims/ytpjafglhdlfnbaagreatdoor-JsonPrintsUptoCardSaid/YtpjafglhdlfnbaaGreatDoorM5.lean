/- Texts joined: Rd3 Rd4 Rd5 IrD JRead Itoa App Jv Jp NumR NumS Jr Put Jo Jaw Row RowV. -/
import Derived.Test.YtpjafglhdlfnbaaGreatDoorRows
import Derived.Lib.ItoaMem
import Derived.Lib.ParseIntBTie
import Derived.Lib.ValidLaws
import Derived.Test.YtpjafglhdlfnbaaGreatDoorCards
import Derived.Test.YtpjafglhdlfnbaaGreatDoorTie
import Derived.Lib.LaidIn
import Derived.Lib.LaidU8T
import Derived.Lib.LaidTab
import Derived.Deep.DeepHandedRow
import Derived.Deep.DeepWitnessRowRef
import Derived.ProofKit
import Derived.SizedLaws
import Derived.OpenShut
import Derived.Test.YtpjafglhdlfnbaaGreatDoorM1
import Derived.Test.YtpjafglhdlfnbaaGreatDoorM2
import Derived.Test.YtpjafglhdlfnbaaGreatDoorM3
import Derived.Test.YtpjafglhdlfnbaaGreatDoorM4
set_option maxRecDepth 100000
set_option linter.unusedSimpArgs false
set_option linter.unusedVariables false
namespace Go.Proofs.YtpjafglhdlfnbaaGreatDoor
open Go.Ab
theorem mustM_sk (p t : List UInt8) : mustM p (skB t) = mustM p t := by unfold mustM; rw [mayM_sk]
theorem At.other {H H' : Heap} {r c : Nat} {s t : List UInt8} {dp : Nat} (h : At H r s t dp H') (hc : c ≠ r) : H' c = H c := by
  obtain ⟨p, _, rfl⟩ := h; rw [upd_ne hc]
theorem LInv.init {H : Heap} {r : Nat} {s p t : List UInt8} {dp sz : Nat} (hp : p ++ t = s) (hr : H r = some (rdc s p dp)) : LInv H r s dp H t .nil 0 sz :=
  ⟨fun _ _ _ h => h, ⟨p, hp, hr⟩, rfl, nofun, _, hr⟩
theorem LInv.new {H H1 : Heap} {r b : Nat} {s t : List UInt8} {dp : Nat} {o : Own} {n sz : Nat} {x : AObj} (h : LInv H r s dp H1 t o n sz) (hb : H1 b = none) : LInv H r s dp (H1.upd b x) t o n sz := by
  obtain ⟨p, hp, h1⟩ := h.here
  refine ⟨fun c y hc hy => ?_, ⟨p, hp, ?_⟩, ?_, h.tip, h.hr⟩
  · rw [upd_ne (fun e => by subst e; rw [h.keep c y hc hy] at hb; cases hb)]; exact h.keep c y hc hy
  · rw [upd_ne (fun e => by subst e; rw [h1] at hb; cases hb)]; exact h1
  · exact Owned.upd h.own hb
abbrev zC : List AV := [.int .i64 0, .int .i64 0, .str [], .sl .nil 5 [], .sl .nil 6 []]
theorem listC {k : Nat} (hk : k < 16) (hv : ValC k) {H : Heap} {r : Nat} {s p t : List UInt8} (hs : p ++ t = s) (hl : s.length ≤ LimS) (hr : H r = some (rdc s p (16 - k))) :
    ACalls Tryz.prog 61 [.ptr r 0] H (fun e H' => match e with | .ret v => RetP H r s (16 - (k + 1)) (listM (valM k) t) (fun v => .agg (cV v)) v H' | .pan v => PanP (listM (valM k) t) v H') := by
  refine retStrip (ACalls.goO (R := fun v H' => RetP H r s (16 - (k + 1)) (listM (valM k) t) (fun v => .agg (cV v)) v.strip H') (RP := fun v H' => PanP (listM (valM k) t) v H') ir61 ck61 (Nat.le_refl _) fun KP Q hQ hP => ?_)
  have L0 : LInv H r s (16 - k) H t .nil 0 5 := LInv.init hs hr
  have hl0 := hl
  simp only [LimS] at hl
  have e16 : ((16 - k : Nat) : Int) - 1 = ((16 - (k + 1) : Nat) : Int) := by omega
  simp (disch := first | omega | assumption) only [ir61, go_sem, ↓reduceIte]
  refine goA_intro fun b2 hb2 => ?_
  simp (disch := first | omega | assumption) only [go_sem, ↓reduceIte]
  refine goA_intro fun b3 hb3 => ?_
  simp (disch := first | omega | assumption) only [go_sem, ↓reduceIte]
  have hb3' := hb3
  have h23 : b3 ≠ b2 := fun e => by subst e; rw [upd_same] at hb3; cases hb3
  have hb3H : H b3 = none := by rw [upd_ne h23] at hb3; exact hb3
  have hrb2 : r ≠ b2 := fun e => by subst e; rw [hb2] at hr; cases hr
  have hrb3 : r ≠ b3 := fun e => by subst e; rw [hb3H] at hr; cases hr
  have L1 := (L0.new (x := .cells zC) hb2).new (x := .cells [.int .i64 6, .int .i64 0, .str [], .sl .nil 5 [], .sl .nil 6 []]) hb3
  have fin : ∀ (l : List Val) (t' : List UInt8) (o : Own) (H1 : Heap), LInv H r s (16 - k) H1 t' o l.length 5 → listM (valM k) t = .ok (.mk 6 0 [] l [], t') → H1 b2 = some (.cells zC) →
      ∀ (p1 : List UInt8), p1 ++ t' = s → H1 r = some (rdc s p1 (16 - k)) → ∃ H2, Low H2 ((H1.upd r (rdc s p1 (16 - (k + 1)))).upd b2 (.cells [.int .i64 6, .int .i64 0, .str [], .sl o 5 (cVs l), .sl .nil 6 []])) ∧
        RetP H r s (16 - (k + 1)) (listM (valM k) t) (fun v => .agg (cV v)) (AV.agg [.int .i64 6, .int .i64 0, .str [], .sl .no 5 (cVs l), .sl .no 6 []]) H2 := by
    intro l t' o H1 L e1 h2 p1 hp1 hr1
    have L2 := (L.call (t' := t') (dp' := 16 - (k + 1)) ⟨p1, hp1, rfl⟩).box (b := b2) (cs := zC) (cs' := [.int .i64 6, .int .i64 0, .str [], .sl o 5 (cVs l), .sl .nil 6 []]) hb2 (by rw [upd_ne (Ne.symm hrb2)]; exact h2)
    obtain ⟨H2, h3, h4⟩ := L2.low
    exact ⟨H2, h3, _, _, e1, rfl, h4⟩
  refine goK_ret (mayC (dp := 16 - k) hs hl0 (by rw [upd_ne hrb3, upd_ne hrb2]; exact hr) [93] (by decide)) fun v H1 hm => ?_
  unfold MayP at hm
  cases hx : mayM [93] t with
  | some t' =>
    rw [hx] at hm
    obtain ⟨hv1, ha⟩ := hm
    subst hv1
    have L2 := L1.call ha
    obtain ⟨p1, hp1, hr1⟩ := L2.here
    have h2 : H1 b2 = some (.cells zC) := by rw [ha.other (Ne.symm hrb2), upd_ne (Ne.symm h23), upd_same]
    have h3 : H1 b3 = some (.cells [.int .i64 6, .int .i64 0, .str [], .sl .nil 5 [], .sl .nil 6 []]) := by rw [ha.other (Ne.symm hrb3), upd_same]
    obtain ⟨H2, hlow, hret⟩ := fin [] t' .nil H1 L2 (by unfold listM; rw [hx]) h2 p1 hp1 hr1
    simp only [rdc] at hr1
    simp only [zC] at h2
    have n1 := Ne.symm hrb2
    have n2 := Ne.symm hrb3
    simp (disch := first | omega | assumption) only [hr1, h2, h3, wrap64, e16, go_sem, ↓reduceIte]
    refine hQ _ _ _ H2 [.agg [.int .i64 6, .int .i64 0, .str [], .sl .nil 5 [], .sl .nil 6 []]] nofun (by simp (disch := first | omega | assumption) only [ir61, resvs, resv, upd_same, go_sem, ↓reduceIte]) hlow hret
  | none =>
    rw [hx] at hm
    obtain ⟨hv1, ha⟩ := hm
    subst hv1
    have L2 := L1.call ha
    obtain ⟨p1, hp1, hr1⟩ := L2.here
    have h2 : H1 b2 = some (.cells zC) := by rw [ha.other (Ne.symm hrb2), upd_ne (Ne.symm h23), upd_same]
    have h3 : H1 b3 = some (.cells [.int .i64 6, .int .i64 0, .str [], .sl .nil 5 [], .sl .nil 6 []]) := by rw [ha.other (Ne.symm hrb3), upd_same]
    have n1 := Ne.symm hrb2
    have n2 := Ne.symm hrb3
    have eL : listM (valM k) t = (valM k t).bind fun v t => (itemsM (valM k) (t.length + 1) [v] t).bind fun l t => .ok (.mk 6 0 [] l [], t) := by unfold listM; rw [hx]
    simp (disch := first | omega | assumption) only [h3, go_sem, ↓reduceIte]
    refine goK_both (hv _ r s p1 (skB t) hp1 hl0 hr1) (fun v H3 ⟨x, t3, e3, hv3, ha3⟩ => ?_) fun v H3 ⟨n, e3, hv3⟩ => hP v H3 H3 (Low.refl _) ⟨n, by rw [eL]; rw [valM_sk] at e3; simp only [RR.bind, e3], hv3⟩
    subst hv3
    rw [valM_sk] at e3
    have L3 := L2.call ha3
    have h23' : H3 b2 = some (.cells zC) := by rw [ha3.other n1]; exact h2
    have h33 : H3 b3 = some (.cells [.int .i64 6, .int .i64 0, .str [], .sl .nil 5 [], .sl .nil 6 []]) := by rw [ha3.other n2]; exact h3
    have hf3 := (valM_fit k _ _ _ e3).1
    have htl : t.length ≤ s.length := by rw [← hs]; simp
    simp (disch := first | omega | assumption) only [h33, cV_len, cV_strip, go_sem, ↓reduceIte]
    refine goP_ownS (o := .nil) rfl (by simp) (by simp [maxLen]) fun o4 H4 hs4 => ?_
    have L4 := L3.app (o' := o4) (n' := 1) (by simpa using hs4)
    have h24 : H4 b2 = some (.cells zC) := own_keep (show Owned H3 .nil 0 5 from rfl) h23' hs4.kept
    have h34 : H4 b3 = some (.cells [.int .i64 6, .int .i64 0, .str [], .sl .nil 5 [], .sl .nil 6 []]) := own_keep (show Owned H3 .nil 0 5 from rfl) h33 hs4.kept
    simp (disch := first | omega | assumption) only [h34, cV_strip, go_sem, ↓reduceIte]
    obtain ⟨R, hR⟩ : ∃ R, itemsM (valM k) (t3.length + 1) [x] t3 = R := ⟨_, rfl⟩
    have eR : listM (valM k) t = R.bind fun l t => .ok (.mk 6 0 [] l [], t) := by rw [eL]; simp only [RR.bind, e3, hR]
    refine goL_st (fun _ : List Val × List UInt8 × Own => []) (fun y H' => LInv H r s (16 - k) H' y.2.1 y.2.2 y.1.length 5 ∧ H' b2 = some (.cells zC) ∧ H' b3 = some (.cells [.int .i64 6, .int .i64 0, .str [], .sl y.2.2 5 (cVs y.1), .sl .nil 6 []]) ∧ (∃ n, y.2.1.length < n ∧ itemsM (valM k) n y.1 y.2.1 = R) ∧ y.1.length + y.2.1.length ≤ s.length) (fun y => y.2.1.length) ([x], t3, o4) (by simp (disch := first | omega | assumption) only [go_sem, ↓reduceIte])
      ⟨L4.box hb3H h34, by rw [upd_ne (Ne.symm h23)]; exact h24, by rw [upd_same, cVs, cVs], ⟨_, by simp, hR⟩, by have := hf3.lt; simp; omega⟩ ?_
    rintro ⟨l, t4, o⟩ H5 J ⟨L5, h25, h35, ⟨n, hn, hg⟩, hle⟩ hJ
    simp only at L5 h25 h35 hn hg hle
    obtain ⟨n, rfl⟩ : ∃ m, n = m + 1 := ⟨n - 1, by omega⟩
    obtain ⟨p5, hp5, hr5⟩ := L5.here
    simp (disch := first | omega | assumption) only [go_sem, ↓reduceIte]
    refine goK_ret (mayC (dp := 16 - k) hp5 hl0 hr5 [93] (by decide)) fun v H6 hm => ?_
    unfold MayP at hm
    simp only [itemsM] at hg
    cases hx5 : mayM [93] t4 with
    | some t' =>
      rw [hx5] at hm hg
      obtain ⟨hv6, ha6⟩ := hm
      subst hv6
      have L6 := L5.call ha6
      obtain ⟨p6, hp6, hr6⟩ := L6.here
      have h26 : H6 b2 = some (.cells zC) := by rw [ha6.other n1]; exact h25
      have h36 := h35
      rw [← ha6.other n2] at h36
      obtain ⟨H7, hlow, hret⟩ := fin l t' o H6 L6 (by rw [eR, ← hg]; rfl) h26 p6 hp6 hr6
      simp only [rdc] at hr6
      simp only [zC] at h26
      simp (disch := first | omega | assumption) only [hr6, h26, h36, wrap64, e16, go_sem, ↓reduceIte]
      refine hQ _ _ _ H7 [.agg [.int .i64 6, .int .i64 0, .str [], .sl o 5 (cVs l), .sl .nil 6 []]] nofun (by simp (disch := first | omega | assumption) only [ir61, resvs, resv, upd_same, go_sem, ↓reduceIte]) hlow hret
    | none =>
      rw [hx5] at hm hg
      obtain ⟨hv6, ha6⟩ := hm
      subst hv6
      have L6 := L5.call ha6
      obtain ⟨p6, hp6, hr6⟩ := L6.here
      have h26 : H6 b2 = some (.cells zC) := by rw [ha6.other n1]; exact h25
      have h36 := h35
      rw [← ha6.other n2] at h36
      simp (disch := first | omega | assumption) only [go_sem, ↓reduceIte]
      refine goK_both (mustC (dp := 16 - k) hp6 hl0 hr6 [44] (by decide)) (fun v H7 ⟨_, t7, e7, hv7, ha7⟩ => ?_) fun v H7 ⟨m, e7, hv7⟩ => hP v H7 H7 (Low.refl _) ⟨m, by rw [eR, ← hg]; rw [mustM_sk] at e7; simp only [RR.bind, e7], hv7⟩
      subst hv7
      rw [mustM_sk] at e7
      have L7 := L6.call ha7
      obtain ⟨p7, hp7, hr7⟩ := L7.here
      have h27 : H7 b2 = some (.cells zC) := by rw [ha7.other n1]; exact h26
      have h37 := h36
      rw [← ha7.other n2] at h37
      have hf7 := mustM_suf e7
      simp only [List.length_cons, List.length_nil] at hf7
      simp (disch := first | omega | assumption) only [h37, go_sem, ↓reduceIte]
      refine goK_both (hv _ r s p7 t7 hp7 hl0 hr7) (fun v H8 ⟨x8, t8, e8, hv8, ha8⟩ => ?_) fun v H8 ⟨m, e8, hv8⟩ => hP v H8 H8 (Low.refl _) ⟨m, by rw [eR, ← hg]; simp only [RR.bind, e7, e8], hv8⟩
      subst hv8
      have L8 := L7.call ha8
      have h28 : H8 b2 = some (.cells zC) := by rw [ha8.other n1]; exact h27
      have h38 := h37
      rw [← ha8.other n2] at h38
      have hf8 := (valM_fit k _ _ _ e8).1.lt
      have hll := cVs_len l
      simp (disch := first | omega | assumption) only [h38, cV_len, cV_strip, go_sem, ↓reduceIte]
      refine goP_ownS (by rw [hll]; exact L8.own) (by simp [hll]; omega) (by simp [hll, maxLen]; omega) fun o9 H9 hs9 => ?_
      have L9 := L8.app (o' := o9) (n' := l.length + 1) (by simpa [hll] using hs9)
      have h29 : H9 b2 = some (.cells zC) := own_keep L8.own h28 hs9.kept
      have h39 := own_keep L8.own h38 hs9.kept
      simp (disch := first | omega | assumption) only [h39, cV_strip, go_sem, ↓reduceIte]
      refine goJ (hJ (l ++ [x8], t8, o9) _ (by show t8.length < t4.length; omega) ⟨?_, by rw [upd_ne (Ne.symm h23)]; exact h29, ?_, ⟨n, by show t8.length < n; omega, ?_⟩, by simp; omega⟩) (by simp (disch := first | omega | assumption) only [go_sem, ↓reduceIte])
      · simpa using L9.box hb3H h39
      · simp only [upd_same]; rw [cVs_map, cVs_map]; simp
      · simp only [RR.bind, e7, e8] at hg; exact hg
end Go.Proofs.YtpjafglhdlfnbaaGreatDoor
namespace Go.Proofs.YtpjafglhdlfnbaaGreatDoor
open Go.Ab
theorem memberM_one {p : List UInt8 → RR Val} {l l' : List Mem} {t t' : List UInt8} (h : memberM p l t = .ok (l', t')) : l'.length = l.length + 1 := by
  unfold memberM at h
  obtain ⟨s, t1, h1, h⟩ := RR.bind_ok h
  split at h
  · cases h
  · obtain ⟨_, t2, h2, h⟩ := RR.bind_ok h
    obtain ⟨v, t3, h3, h⟩ := RR.bind_ok h
    cases h
    simp
theorem mappedC {k : Nat} (hk : k < 16) (hv : ValC k) {H : Heap} {r : Nat} {s p t : List UInt8} (hs : p ++ t = s) (hl : s.length ≤ LimS) (hr : H r = some (rdc s p (16 - k))) :
    ACalls Tryz.prog 60 [.ptr r 0] H (fun e H' => match e with | .ret v => RetP H r s (16 - (k + 1)) (mapM (valM k) t) (fun v => .agg (cV v)) v H' | .pan v => PanP (mapM (valM k) t) v H') := by
  refine retStrip (ACalls.goO (R := fun v H' => RetP H r s (16 - (k + 1)) (mapM (valM k) t) (fun v => .agg (cV v)) v.strip H') (RP := fun v H' => PanP (mapM (valM k) t) v H') ir60 ck60 (Nat.le_refl _) fun KP Q hQ hP => ?_)
  have L0 : LInv H r s (16 - k) H t .nil 0 6 := LInv.init hs hr
  have hl0 := hl
  simp only [LimS] at hl
  have e16 : ((16 - k : Nat) : Int) - 1 = ((16 - (k + 1) : Nat) : Int) := by omega
  simp (disch := first | omega | assumption) only [ir60, go_sem, ↓reduceIte]
  refine goA_intro fun b2 hb2 => ?_
  simp (disch := first | omega | assumption) only [go_sem, ↓reduceIte]
  refine goA_intro fun b3 hb3 => ?_
  simp (disch := first | omega | assumption) only [go_sem, ↓reduceIte]
  have hb3' := hb3
  have h23 : b3 ≠ b2 := fun e => by subst e; rw [upd_same] at hb3; cases hb3
  have hb3H : H b3 = none := by rw [upd_ne h23] at hb3; exact hb3
  have hrb2 : r ≠ b2 := fun e => by subst e; rw [hb2] at hr; cases hr
  have hrb3 : r ≠ b3 := fun e => by subst e; rw [hb3H] at hr; cases hr
  have L1 := (L0.new (x := .cells zC) hb2).new (x := .cells [.int .i64 7, .int .i64 0, .str [], .sl .nil 5 [], .sl .nil 6 []]) hb3
  have fin : ∀ (l : List Mem) (t' : List UInt8) (o : Own) (H1 : Heap), LInv H r s (16 - k) H1 t' o l.length 6 → mapM (valM k) t = .ok (.mk 7 0 [] [] l, t') → H1 b2 = some (.cells zC) →
      ∀ (p1 : List UInt8), p1 ++ t' = s → H1 r = some (rdc s p1 (16 - k)) → ∃ H2, Low H2 ((H1.upd r (rdc s p1 (16 - (k + 1)))).upd b2 (.cells [.int .i64 7, .int .i64 0, .str [], .sl .nil 5 [], .sl o 6 (cMs l)])) ∧
        RetP H r s (16 - (k + 1)) (mapM (valM k) t) (fun v => .agg (cV v)) (AV.agg [.int .i64 7, .int .i64 0, .str [], .sl .no 5 [], .sl .no 6 (cMs l)]) H2 := by
    intro l t' o H1 L e1 h2 p1 hp1 hr1
    have L2 := (L.call (t' := t') (dp' := 16 - (k + 1)) ⟨p1, hp1, rfl⟩).box (b := b2) (cs := zC) (cs' := [.int .i64 7, .int .i64 0, .str [], .sl .nil 5 [], .sl o 6 (cMs l)]) hb2 (by rw [upd_ne (Ne.symm hrb2)]; exact h2)
    obtain ⟨H2, h3, h4⟩ := L2.low
    exact ⟨H2, h3, _, _, e1, rfl, h4⟩
  refine goK_ret (mayC (dp := 16 - k) hs hl0 (by rw [upd_ne hrb3, upd_ne hrb2]; exact hr) [125] (by decide)) fun v H1 hm => ?_
  unfold MayP at hm
  cases hx : mayM [125] t with
  | some t' =>
    rw [hx] at hm
    obtain ⟨hv1, ha⟩ := hm
    subst hv1
    have L2 := L1.call ha
    obtain ⟨p1, hp1, hr1⟩ := L2.here
    have h2 : H1 b2 = some (.cells zC) := by rw [ha.other (Ne.symm hrb2), upd_ne (Ne.symm h23), upd_same]
    have h3 : H1 b3 = some (.cells [.int .i64 7, .int .i64 0, .str [], .sl .nil 5 [], .sl .nil 6 []]) := by rw [ha.other (Ne.symm hrb3), upd_same]
    obtain ⟨H2, hlow, hret⟩ := fin [] t' .nil H1 L2 (by unfold mapM; rw [hx]) h2 p1 hp1 hr1
    simp only [rdc] at hr1
    simp only [zC] at h2
    have n1 := Ne.symm hrb2
    have n2 := Ne.symm hrb3
    simp (disch := first | omega | assumption) only [hr1, h2, h3, wrap64, e16, go_sem, ↓reduceIte]
    refine hQ _ _ _ H2 [.agg [.int .i64 7, .int .i64 0, .str [], .sl .nil 5 [], .sl .nil 6 []]] nofun (by simp (disch := first | omega | assumption) only [ir60, resvs, resv, upd_same, go_sem, ↓reduceIte]) hlow hret
  | none =>
    rw [hx] at hm
    obtain ⟨hv1, ha⟩ := hm
    subst hv1
    have L2 := L1.call ha
    obtain ⟨p1, hp1, hr1⟩ := L2.here
    have h2 : H1 b2 = some (.cells zC) := by rw [ha.other (Ne.symm hrb2), upd_ne (Ne.symm h23), upd_same]
    have h3 : H1 b3 = some (.cells [.int .i64 7, .int .i64 0, .str [], .sl .nil 5 [], .sl .nil 6 []]) := by rw [ha.other (Ne.symm hrb3), upd_same]
    have n1 := Ne.symm hrb2
    have n2 := Ne.symm hrb3
    have eL : mapM (valM k) t = (memberM (valM k) [] t).bind fun l t => (membersM (valM k) (t.length + 1) l t).bind fun l t => .ok (.mk 7 0 [] [] l, t) := by unfold mapM; rw [hx]
    simp (disch := first | omega | assumption) only [h3, go_sem, ↓reduceIte]
    have hsk : memberM (valM k) [] (skB t) = memberM (valM k) [] t := by unfold memberM textM; rw [skB_idem]
    refine goK_both (memberC hv hp1 hl0 hr1 [] .nil rfl (by simp)) (fun v H3 ⟨l3, t3, o3, p3, e3, hv3, hp3, hs3⟩ => ?_) fun v H3 ⟨n, e3, hv3⟩ => hP v H3 H3 (Low.refl _) ⟨n, by rw [eL]; rw [hsk] at e3; simp only [RR.bind, e3], hv3⟩
    subst hv3
    rw [hsk] at e3
    have L3 := L2.mem hp3 hs3
    have hrr : ∀ c x, c ≠ r → H1 c = some (.cells x) → H3 c = some (.cells x) := fun c x hc h => own_keep (H := H1.upd r (rdc s p3 (16 - k))) (o := .nil) (n := 0) (sz := 6) rfl (by rw [upd_ne hc]; exact h) hs3.kept
    have h23' := hrr b2 _ n1 h2
    have h33 := hrr b3 _ n2 h3
    have hf3 := memberM_fit (valM_fit k) e3
    have htl : t.length ≤ s.length := by rw [← hs]; simp
    simp (disch := first | omega | assumption) only [h33, go_sem, ↓reduceIte]
    obtain ⟨R, hR⟩ : ∃ R, membersM (valM k) (t3.length + 1) l3 t3 = R := ⟨_, rfl⟩
    have eR : mapM (valM k) t = R.bind fun l t => .ok (.mk 7 0 [] [] l, t) := by rw [eL]; simp only [RR.bind, e3, hR]
    have hl3 : l3.length + t3.length ≤ s.length := by
      have := hf3.2.1
      have h1 : l3.length = 1 := memberM_one e3
      omega
    refine goL_st (fun _ : List Mem × List UInt8 × Own => []) (fun y H' => LInv H r s (16 - k) H' y.2.1 y.2.2 y.1.length 6 ∧ H' b2 = some (.cells zC) ∧ H' b3 = some (.cells [.int .i64 7, .int .i64 0, .str [], .sl .nil 5 [], .sl y.2.2 6 (cMs y.1)]) ∧ (∃ n, y.2.1.length < n ∧ membersM (valM k) n y.1 y.2.1 = R) ∧ y.1.length + y.2.1.length ≤ s.length) (fun y => y.2.1.length) (l3, t3, o3) (by simp (disch := first | omega | assumption) only [go_sem, ↓reduceIte])
      ⟨L3.box hb3H h33, by rw [upd_ne (Ne.symm h23)]; exact h23', by rw [upd_same], ⟨_, by simp, hR⟩, hl3⟩ ?_
    rintro ⟨l, t4, o⟩ H5 J ⟨L5, h25, h35, ⟨n, hn, hg⟩, hle⟩ hJ
    simp only at L5 h25 h35 hn hg hle
    obtain ⟨n, rfl⟩ : ∃ m, n = m + 1 := ⟨n - 1, by omega⟩
    obtain ⟨p5, hp5, hr5⟩ := L5.here
    simp (disch := first | omega | assumption) only [go_sem, ↓reduceIte]
    refine goK_ret (mayC (dp := 16 - k) hp5 hl0 hr5 [125] (by decide)) fun v H6 hm => ?_
    unfold MayP at hm
    simp only [membersM] at hg
    cases hx5 : mayM [125] t4 with
    | some t' =>
      rw [hx5] at hm hg
      obtain ⟨hv6, ha6⟩ := hm
      subst hv6
      have L6 := L5.call ha6
      obtain ⟨p6, hp6, hr6⟩ := L6.here
      have h26 : H6 b2 = some (.cells zC) := by rw [ha6.other n1]; exact h25
      have h36 := h35
      rw [← ha6.other n2] at h36
      obtain ⟨H7, hlow, hret⟩ := fin l t' o H6 L6 (by rw [eR, ← hg]; rfl) h26 p6 hp6 hr6
      simp only [rdc] at hr6
      simp only [zC] at h26
      simp (disch := first | omega | assumption) only [hr6, h26, h36, wrap64, e16, go_sem, ↓reduceIte]
      refine hQ _ _ _ H7 [.agg [.int .i64 7, .int .i64 0, .str [], .sl .nil 5 [], .sl o 6 (cMs l)]] nofun (by simp (disch := first | omega | assumption) only [ir60, resvs, resv, upd_same, go_sem, ↓reduceIte]) hlow hret
    | none =>
      rw [hx5] at hm hg
      obtain ⟨hv6, ha6⟩ := hm
      subst hv6
      have L6 := L5.call ha6
      obtain ⟨p6, hp6, hr6⟩ := L6.here
      have h26 : H6 b2 = some (.cells zC) := by rw [ha6.other n1]; exact h25
      have h36 := h35
      rw [← ha6.other n2] at h36
      simp (disch := first | omega | assumption) only [go_sem, ↓reduceIte]
      refine goK_both (mustC (dp := 16 - k) hp6 hl0 hr6 [44] (by decide)) (fun v H7 ⟨_, t7, e7, hv7, ha7⟩ => ?_) fun v H7 ⟨m, e7, hv7⟩ => hP v H7 H7 (Low.refl _) ⟨m, by rw [eR, ← hg]; rw [mustM_sk] at e7; simp only [RR.bind, e7], hv7⟩
      subst hv7
      rw [mustM_sk] at e7
      have L7 := L6.call ha7
      obtain ⟨p7, hp7, hr7⟩ := L7.here
      have h27 : H7 b2 = some (.cells zC) := by rw [ha7.other n1]; exact h26
      have h37 := h36
      rw [← ha7.other n2] at h37
      have hf7 := mustM_suf e7
      simp only [List.length_cons, List.length_nil] at hf7
      simp (disch := first | omega | assumption) only [h37, go_sem, ↓reduceIte]
      refine goK_both (memberC hv hp7 hl0 hr7 l o L7.own (by simp only [LimS]; omega)) (fun v H8 ⟨l8, t8, o8, p8, e8, hv8, hp8, hs8⟩ => ?_) fun v H8 ⟨m, e8, hv8⟩ => hP v H8 H8 (Low.refl _) ⟨m, by rw [eR, ← hg]; simp only [RR.bind, e7, e8], hv8⟩
      subst hv8
      have L8 := L7.mem hp8 hs8
      have hrr8 : ∀ c x, c ≠ r → H7 c = some (.cells x) → H8 c = some (.cells x) := fun c x hc h => own_keep (H := H7.upd r (rdc s p8 (16 - k))) (o := o) (n := l.length) (sz := 6) (own_upd L7.own hr7) (by rw [upd_ne hc]; exact h) hs8.kept
      have h28 := hrr8 b2 _ n1 h27
      have h38 := hrr8 b3 _ n2 h37
      have hf8 := memberM_fit (valM_fit k) e8
      have hone := memberM_one e8
      simp (disch := first | omega | assumption) only [h38, go_sem, ↓reduceIte]
      refine goJ (hJ (l8, t8, o8) _ (by show t8.length < t4.length; omega) ⟨L8.box hb3H h38, by rw [upd_ne (Ne.symm h23)]; exact h28, by simp only [upd_same], ⟨n, by show t8.length < n; omega, ?_⟩, by simp; omega⟩) (by simp (disch := first | omega | assumption) only [go_sem, ↓reduceIte])
      simp only [RR.bind, e7, e8] at hg; exact hg
end Go.Proofs.YtpjafglhdlfnbaaGreatDoor
namespace Go.Proofs.YtpjafglhdlfnbaaGreatDoor
open Go.Ab
def innM : Nat → List UInt8 → RR Val
  | 0 => deepM
  | n + 1 => valM n
theorem valM_head {k : Nat} {t : List UInt8} (h1 : (skB t).head? ≠ some 123) (h2 : (skB t).head? ≠ some 91) : valM k t = headM (skB t) (innM k) := by
  cases k with
  | zero => simp only [valM]; rw [if_neg (by simp [h1, h2])]; rfl
  | succ n => rfl
theorem cV_agg_strip (v : Val) : (AV.agg (cV v)).strip = .agg (cV v) := by
  simp only [AV.strip, cV_strip]
theorem valueC (k : Nat) (hk : k ≤ 16) (ih : ∀ n, k = n + 1 → ValC n) : ValC k := by
  intro H r s p t hs hl hr
  refine retStrip (ACalls.goO (R := fun v H' => RetP H r s (16 - k) (valM k t) (fun v => .agg (cV v)) v.strip H') (RP := fun v H' => PanP (valM k t) v H') ir33 ck33 (Nat.le_refl _) fun KP Q hQ hP => ?_)
  have L0 : LInv H r s (16 - k) H t .nil 0 5 := LInv.init hs hr
  have hl0 := hl
  simp only [LimS] at hl
  simp (disch := first | omega | assumption) only [ir33, go_sem, ↓reduceIte]
  refine goA_intro fun b2 hb2 => ?_
  simp (disch := first | omega | assumption) only [go_sem, ↓reduceIte]
  have hrb2 : r ≠ b2 := fun e => by subst e; rw [hb2] at hr; cases hr
  have n1 := Ne.symm hrb2
  have L1 := L0.new (x := .cells zC) hb2
  have fin : ∀ (v : Val) (t' : List UInt8) (H1 : Heap) (cs : List AV), LInv H r s (16 - k) H1 t' .nil 0 5 → valM k t = .ok (v, t') → H1 b2 = some (.cells zC) → (AV.agg cs).strip = .agg (cV v) →
      ∃ H2, Low H2 (H1.upd b2 (.cells cs)) ∧ RetP H r s (16 - k) (valM k t) (fun v => .agg (cV v)) (AV.agg cs).strip H2 := by
    intro v t' H1 cs L e1 h2 e2
    have L2 := L.box (b := b2) (cs := zC) (cs' := cs) hb2 h2
    obtain ⟨H2, h3, h4⟩ := L2.low
    exact ⟨H2, h3, _, _, e1, e2, h4⟩
  refine goK_ret (blanksC (dp := 16 - k) hs hl0 (by rw [upd_ne hrb2]; exact hr)) fun v H1 ⟨hv1, ha⟩ => ?_
  subst hv1
  have L2 := L1.call ha
  obtain ⟨p1, hp1, hr1⟩ := L2.here
  have h2 : H1 b2 = some (.cells zC) := by rw [ha.other n1, upd_same]
  have hlen : p1.length + (skB t).length = s.length := by rw [← hp1]; simp
  have hr1' := hr1
  simp only [rdc] at hr1'
  cases hu : skB t with
  | nil =>
    rw [hu] at hlen
    have h3 : ¬ ((p1.length : Int) < s.length) := by simp at hlen; omega
    simp (disch := first | omega | assumption) only [hr1', h3, go_sem, ↓reduceIte]
    have eW : valM k t = wordM (skB t) := by rw [valM_head (by rw [hu]; simp) (by rw [hu]; simp), hu]; rfl
    refine goK_ret (mayC (dp := 16 - k) hp1 hl0 hr1 [110, 117, 108, 108] (by decide)) fun v H3 hm => ?_
    unfold MayP at hm
    unfold wordM at eW
    cases hx : mayM [110, 117, 108, 108] (skB t) with
    | some t' =>
      rw [hx] at hm eW
      obtain ⟨hv3, ha3⟩ := hm
      subst hv3
      have L3 := L2.call ha3
      have h23 : H3 b2 = some (.cells zC) := by rw [ha3.other n1]; exact h2
      obtain ⟨H9, hlow, hret⟩ := fin nullV t' H3 zC L3 eW h23 rfl
      simp (disch := first | omega | assumption) only [h23, go_sem, ↓reduceIte]
      exact hQ _ _ _ H9 [.agg zC] nofun (by simp (disch := first | omega | assumption) only [ir33, resvs, resv, upd_same, go_sem, ↓reduceIte]) hlow hret
    | none =>
      rw [hx] at hm eW
      obtain ⟨hv3, ha3⟩ := hm
      subst hv3
      have L3 := L2.call ha3
      have h23 : H3 b2 = some (.cells zC) := by rw [ha3.other n1]; exact h2
      rw [skB_idem] at L3
      obtain ⟨p3, hp3, hr3⟩ := L3.here
      simp (disch := first | omega | assumption) only [go_sem, ↓reduceIte]
      refine goK_ret (mayC (dp := 16 - k) hp3 hl0 hr3 [116, 114, 117, 101] (by decide)) fun v H4 hm => ?_
      unfold MayP at hm
      cases hx4 : mayM [116, 114, 117, 101] (skB t) with
      | some t' =>
        rw [hx4] at hm eW
        obtain ⟨hv4, ha4⟩ := hm
        subst hv4
        have L4 := L3.call ha4
        have h24 : H4 b2 = some (.cells zC) := by rw [ha4.other n1]; exact h23
        obtain ⟨H9, hlow, hret⟩ := fin _ t' H4 [.int .i64 1, .int .i64 1, .str [], .sl .nil 5 [], .sl .nil 6 []] L4 eW h24 rfl
        simp (disch := first | omega | assumption) only [h24, go_sem, ↓reduceIte]
        exact hQ _ _ _ H9 [.agg [.int .i64 1, .int .i64 1, .str [], .sl .nil 5 [], .sl .nil 6 []]] nofun (by simp (disch := first | omega | assumption) only [ir33, resvs, resv, upd_same, go_sem, ↓reduceIte]) hlow hret
      | none =>
        rw [hx4] at hm eW
        obtain ⟨hv4, ha4⟩ := hm
        subst hv4
        have L4 := L3.call ha4
        have h24 : H4 b2 = some (.cells zC) := by rw [ha4.other n1]; exact h23
        rw [skB_idem] at L4
        obtain ⟨p4, hp4, hr4⟩ := L4.here
        simp (disch := first | omega | assumption) only [go_sem, ↓reduceIte]
        refine goK_both (mustC (dp := 16 - k) hp4 hl0 hr4 [102, 97, 108, 115, 101] (by decide)) (fun v H5 ⟨_, t5, e5, hv5, ha5⟩ => ?_) fun v H5 ⟨m, e5, hv5⟩ => hP v H5 H5 (Low.refl _) ⟨m, by rw [eW]; simp only [e5, RR.bind], hv5⟩
        subst hv5
        have L5 := L4.call ha5
        have h25 : H5 b2 = some (.cells zC) := by rw [ha5.other n1]; exact h24
        simp only [e5, RR.bind] at eW
        obtain ⟨H9, hlow, hret⟩ := fin _ t5 H5 [.int .i64 1, .int .i64 0, .str [], .sl .nil 5 [], .sl .nil 6 []] L5 eW h25 rfl
        simp (disch := first | omega | assumption) only [h25, go_sem, ↓reduceIte]
        exact hQ _ _ _ H9 [.agg [.int .i64 1, .int .i64 0, .str [], .sl .nil 5 [], .sl .nil 6 []]] nofun (by simp (disch := first | omega | assumption) only [ir33, resvs, resv, upd_same, go_sem, ↓reduceIte]) hlow hret
  | cons c u =>
    rw [hu] at hlen
    have h3 : ((p1.length : Int) < s.length) = True := eq_true (by simp at hlen; omega)
    have h4 : ((p1.length : Int) + 1 ≤ s.length) = True := eq_true (by simp at hlen; omega)
    have h5 : (p1.length : Int) ≤ (p1.length : Int) + 1 := by omega
    have h6 : ((p1.length : Int) + 1).toNat = p1.length + 1 := by omega
    have h7 : (s.take (p1.length + 1)).drop p1.length = [c] := by rw [← hp1, hu]; simp [List.take_append, List.drop_append]
    have brk : (c = 123 ∨ c = 91) → ([c] = [123] ∨ [c] = [91]) := fun h => by rcases h with rfl | rfl <;> simp
    by_cases c1 : c = 123 ∨ c = 91
    · -- a bracket
      have hopen : ∀ v H3, (16 - k = 16 ∧ v = stopV 4) → KP v H3 := fun v H3 ⟨e0, hv3⟩ => hP v H3 H3 (Low.refl _) ⟨4, by
        have : k = 0 := by omega
        subst this
        simp only [valM, hu, List.head?_cons]; rw [if_pos (by rcases c1 with rfl | rfl <;> simp)], hv3⟩
      have post : ∀ (H3 : Heap), 16 - k < 16 → H3 = H1.upd r (rdc s p1 (16 - k + 1)) → ∃ n, k = n + 1 ∧ (H3.upd r (rdc s (p1 ++ [c]) (16 - n))) r = some (rdc s (p1 ++ [c]) (16 - n)) ∧ LInv H r s (16 - n) (H3.upd r (rdc s (p1 ++ [c]) (16 - n))) u .nil 0 5 ∧ (H3.upd r (rdc s (p1 ++ [c]) (16 - n))) b2 = some (.cells zC) ∧ H3 r = some (.cells [.str s, .int .i64 (p1.length : Int), .int .i64 ((16 - n : Nat) : Int)]) := by
        intro H3 hd hH3
        obtain ⟨n, hn⟩ : ∃ n, k = n + 1 := ⟨k - 1, by omega⟩
        have e0 : 16 - k + 1 = 16 - n := by omega
        rw [e0] at hH3
        refine ⟨n, hn, upd_same .., ?_, by rw [upd_ne n1, hH3, upd_ne n1]; exact h2, by rw [hH3, upd_same]; rfl⟩
        have L3 := L2.call (t' := u) (dp' := 16 - n) (H2 := H1.upd r (rdc s (p1 ++ [c]) (16 - n))) ⟨p1 ++ [c], by rw [← hp1, hu]; simp, rfl⟩
        rw [hH3, upd_upd]; exact L3
      by_cases c2 : c = 123
      · have g1 : ([c] = [(123 : UInt8)]) = True := eq_true (by rw [c2])
        simp (disch := first | omega | assumption) only [hr1', h3, h4, h5, h6, h7, wrap64, g1, go_sem, ↓reduceIte]
        refine goK_both (openC (dp := 16 - k) (by omega) hr1) (fun v H3 ⟨hd, hv3, hH3⟩ => ?_) hopen
        subst hv3
        obtain ⟨n, hn, hr4, L4, h24, hr3⟩ := post H3 hd hH3
        have e8 : ((p1.length : Int) + 1) = ((p1 ++ [c]).length : Nat) := by simp
        simp (disch := first | omega | assumption) only [hr3, wrap64, e8, g1, go_sem, ↓reduceIte]
        have hat4 : (H3.upd r (rdc s (p1 ++ [c]) (16 - n))) = H3.upd r (.cells [.str s, .int .i64 (((p1 ++ [c]).length : Nat) : Int), .int .i64 ((16 - n : Nat) : Int)]) := rfl
        rw [← hat4]
        have eV : valM k t = mapM (valM n) u := by rw [hn, valM, hu, headM, if_pos c2]
        refine goK_both (mappedC (t := u) (p := p1 ++ [c]) (by omega) (ih n hn) (by rw [← hp1, hu]; simp) hl0 hr4) (fun v H5 ⟨x, t5, e5, hv5, ha5⟩ => ?_) fun v H5 ⟨m, e5, hv5⟩ => hP v H5 H5 (Low.refl _) ⟨m, by rw [eV]; exact e5, hv5⟩
        subst hv5
        rw [← hn] at ha5
        have L5 := L4.call ha5
        have h25 : H5 b2 = some (.cells zC) := by rw [ha5.other n1]; exact h24
        obtain ⟨H9, hlow, hret⟩ := fin x t5 H5 (cV x) L5 (by rw [eV]; exact e5) h25 (cV_agg_strip x)
        simp (disch := first | omega | assumption) only [h25, cV_len, cV_splice, go_sem, ↓reduceIte]
        exact hQ _ _ _ H9 [.agg (cV x)] nofun (by simp (disch := first | omega | assumption) only [ir33, resvs, resv, upd_same, cV_len, cV_take, go_sem, ↓reduceIte]) hlow hret
      · have c3 : c = 91 := c1.resolve_left c2
        have g1 : ([c] = [(123 : UInt8)]) = False := eq_false (by simpa using c2)
        have g2 : ([c] = [(91 : UInt8)]) = True := eq_true (by rw [c3])
        simp (disch := first | omega | assumption) only [hr1', h3, h4, h5, h6, h7, wrap64, g1, g2, go_sem, ↓reduceIte]
        refine goK_both (openC (dp := 16 - k) (by omega) hr1) (fun v H3 ⟨hd, hv3, hH3⟩ => ?_) hopen
        subst hv3
        obtain ⟨n, hn, hr4, L4, h24, hr3⟩ := post H3 hd hH3
        have e8 : ((p1.length : Int) + 1) = ((p1 ++ [c]).length : Nat) := by simp
        simp (disch := first | omega | assumption) only [hr3, wrap64, e8, g1, go_sem, ↓reduceIte]
        have hat4 : (H3.upd r (rdc s (p1 ++ [c]) (16 - n))) = H3.upd r (.cells [.str s, .int .i64 (((p1 ++ [c]).length : Nat) : Int), .int .i64 ((16 - n : Nat) : Int)]) := rfl
        rw [← hat4]
        have eV : valM k t = listM (valM n) u := by rw [hn, valM, hu, headM, if_neg c2, if_pos c3]
        refine goK_both (listC (t := u) (p := p1 ++ [c]) (by omega) (ih n hn) (by rw [← hp1, hu]; simp) hl0 hr4) (fun v H5 ⟨x, t5, e5, hv5, ha5⟩ => ?_) fun v H5 ⟨m, e5, hv5⟩ => hP v H5 H5 (Low.refl _) ⟨m, by rw [eV]; exact e5, hv5⟩
        subst hv5
        rw [← hn] at ha5
        have L5 := L4.call ha5
        have h25 : H5 b2 = some (.cells zC) := by rw [ha5.other n1]; exact h24
        obtain ⟨H9, hlow, hret⟩ := fin x t5 H5 (cV x) L5 (by rw [eV]; exact e5) h25 (cV_agg_strip x)
        simp (disch := first | omega | assumption) only [h25, cV_len, cV_splice, go_sem, ↓reduceIte]
        exact hQ _ _ _ H9 [.agg (cV x)] nofun (by simp (disch := first | omega | assumption) only [ir33, resvs, resv, upd_same, cV_len, cV_take, go_sem, ↓reduceIte]) hlow hret
    have c2 : c ≠ 123 := fun e => c1 (.inl e)
    have c3 : c ≠ 91 := fun e => c1 (.inr e)
    have g1 : ([c] = [(123 : UInt8)]) = False := eq_false (by simpa using c2)
    have g2 : ([c] = [(91 : UInt8)]) = False := eq_false (by simpa using c3)
    have eV : valM k t = headM (skB t) (innM k) := valM_head (by rw [hu]; simpa using c2) (by rw [hu]; simpa using c3)
    have eV2 : valM k t = if c = 34 then (textM (skB t)).bind fun s t => .ok (.mk 4 0 s [] [], t) else if nst c then numM (skB t) else wordM (skB t) := by rw [eV, hu, headM, if_neg c2, if_neg c3]
    by_cases c4 : c = 34
    · have g3 : ([c] = [(34 : UInt8)]) = True := eq_true (by rw [c4])
      rw [if_pos c4] at eV2
      simp (disch := first | omega | assumption) only [hr1', h3, h4, h5, h6, h7, wrap64, g1, g2, g3, go_sem, ↓reduceIte]
      refine goK_both (textC (dp := 16 - k) hp1 hl0 hr1) (fun v H5 ⟨x, t5, e5, hv5, ha5⟩ => ?_) fun v H5 ⟨m, e5, hv5⟩ => hP v H5 H5 (Low.refl _) ⟨m, by rw [eV2]; simp only [e5, RR.bind], hv5⟩
      subst hv5
      have L5 := L2.call ha5
      have h25 : H5 b2 = some (.cells zC) := by rw [ha5.other n1]; exact h2
      simp only [e5, RR.bind] at eV2
      obtain ⟨H9, hlow, hret⟩ := fin _ t5 H5 (cV (.mk 4 0 x [] [])) L5 eV2 h25 (cV_agg_strip _)
      simp (disch := first | omega | assumption) only [go_sem, ↓reduceIte]
      refine goK_pure (textP x) ?_
      simp (disch := first | omega | assumption) only [h25, cV_len, cV_splice, go_sem, ↓reduceIte]
      exact hQ _ _ _ H9 [.agg (cV (.mk 4 0 x [] []))] nofun (by simp (disch := first | omega | assumption) only [ir33, resvs, resv, upd_same, cV_len, cV_take, go_sem, ↓reduceIte]) hlow hret
    have g3 : ([c] = [(34 : UInt8)]) = False := eq_false (by simpa using c4)
    have g4 : ([c] = ([] : List UInt8)) = False := eq_false (by simp)
    rw [if_neg c4] at eV2
    simp (disch := first | omega | assumption) only [hr1', h3, h4, h5, h6, h7, wrap64, g1, g2, g3, g4, go_sem, ↓reduceIte]
    refine goK_pure (containsC1 [45, 48, 49, 50, 51, 52, 53, 54, 55, 56, 57] c) ?_
    by_cases c5 : 0 ≤ Lib.indexByte [45, 48, 49, 50, 51, 52, 53, 54, 55, 56, 57] c
    · rw [if_pos (show nst c = true by simp [nst, c5])] at eV2
      simp (disch := first | omega | assumption) only [c5, go_sem, ↓reduceIte]
      refine goK_both (numberV (dp := 16 - k) hp1 hl0 hr1) (fun v H5 ⟨x, t5, e5, hv5, ha5⟩ => ?_) fun v H5 ⟨m, e5, hv5⟩ => hP v H5 H5 (Low.refl _) ⟨m, by rw [eV2]; exact e5, hv5⟩
      subst hv5
      have L5 := L2.call ha5
      have h25 : H5 b2 = some (.cells zC) := by rw [ha5.other n1]; exact h2
      obtain ⟨H9, hlow, hret⟩ := fin x t5 H5 (cV x) L5 (by rw [eV2]; exact e5) h25 (cV_agg_strip x)
      simp (disch := first | omega | assumption) only [h25, cV_len, cV_splice, go_sem, ↓reduceIte]
      exact hQ _ _ _ H9 [.agg (cV x)] nofun (by simp (disch := first | omega | assumption) only [ir33, resvs, resv, upd_same, cV_len, cV_take, go_sem, ↓reduceIte]) hlow hret
    · rw [if_neg (show ¬ nst c = true by simp [nst, c5])] at eV2
      have eW := eV2
      simp (disch := first | omega | assumption) only [c5, go_sem, ↓reduceIte]
      refine goK_ret (mayC (dp := 16 - k) hp1 hl0 hr1 [110, 117, 108, 108] (by decide)) fun v H3 hm => ?_
      unfold MayP at hm
      unfold wordM at eW
      cases hx : mayM [110, 117, 108, 108] (skB t) with
      | some t' =>
        rw [hx] at hm eW
        obtain ⟨hv3, ha3⟩ := hm
        subst hv3
        have L3 := L2.call ha3
        have h23 : H3 b2 = some (.cells zC) := by rw [ha3.other n1]; exact h2
        obtain ⟨H9, hlow, hret⟩ := fin nullV t' H3 zC L3 eW h23 rfl
        simp (disch := first | omega | assumption) only [h23, go_sem, ↓reduceIte]
        exact hQ _ _ _ H9 [.agg zC] nofun (by simp (disch := first | omega | assumption) only [ir33, resvs, resv, upd_same, go_sem, ↓reduceIte]) hlow hret
      | none =>
        rw [hx] at hm eW
        obtain ⟨hv3, ha3⟩ := hm
        subst hv3
        have L3 := L2.call ha3
        have h23 : H3 b2 = some (.cells zC) := by rw [ha3.other n1]; exact h2
        rw [skB_idem] at L3
        obtain ⟨p3, hp3, hr3⟩ := L3.here
        simp (disch := first | omega | assumption) only [go_sem, ↓reduceIte]
        refine goK_ret (mayC (dp := 16 - k) hp3 hl0 hr3 [116, 114, 117, 101] (by decide)) fun v H4 hm => ?_
        unfold MayP at hm
        cases hx4 : mayM [116, 114, 117, 101] (skB t) with
        | some t' =>
          rw [hx4] at hm eW
          obtain ⟨hv4, ha4⟩ := hm
          subst hv4
          have L4 := L3.call ha4
          have h24 : H4 b2 = some (.cells zC) := by rw [ha4.other n1]; exact h23
          obtain ⟨H9, hlow, hret⟩ := fin _ t' H4 [.int .i64 1, .int .i64 1, .str [], .sl .nil 5 [], .sl .nil 6 []] L4 eW h24 rfl
          simp (disch := first | omega | assumption) only [h24, go_sem, ↓reduceIte]
          exact hQ _ _ _ H9 [.agg [.int .i64 1, .int .i64 1, .str [], .sl .nil 5 [], .sl .nil 6 []]] nofun (by simp (disch := first | omega | assumption) only [ir33, resvs, resv, upd_same, go_sem, ↓reduceIte]) hlow hret
        | none =>
          rw [hx4] at hm eW
          obtain ⟨hv4, ha4⟩ := hm
          subst hv4
          have L4 := L3.call ha4
          have h24 : H4 b2 = some (.cells zC) := by rw [ha4.other n1]; exact h23
          rw [skB_idem] at L4
          obtain ⟨p4, hp4, hr4⟩ := L4.here
          simp (disch := first | omega | assumption) only [go_sem, ↓reduceIte]
          refine goK_both (mustC (dp := 16 - k) hp4 hl0 hr4 [102, 97, 108, 115, 101] (by decide)) (fun v H5 ⟨_, t5, e5, hv5, ha5⟩ => ?_) fun v H5 ⟨m, e5, hv5⟩ => hP v H5 H5 (Low.refl _) ⟨m, by rw [eW]; simp only [e5, RR.bind], hv5⟩
          subst hv5
          have L5 := L4.call ha5
          have h25 : H5 b2 = some (.cells zC) := by rw [ha5.other n1]; exact h24
          simp only [e5, RR.bind] at eW
          obtain ⟨H9, hlow, hret⟩ := fin _ t5 H5 [.int .i64 1, .int .i64 0, .str [], .sl .nil 5 [], .sl .nil 6 []] L5 eW h25 rfl
          simp (disch := first | omega | assumption) only [h25, go_sem, ↓reduceIte]
          exact hQ _ _ _ H9 [.agg [.int .i64 1, .int .i64 0, .str [], .sl .nil 5 [], .sl .nil 6 []]] nofun (by simp (disch := first | omega | assumption) only [ir33, resvs, resv, upd_same, go_sem, ↓reduceIte]) hlow hret
theorem valueAll : ∀ k, k ≤ 16 → ValC k
  | 0, h => valueC 0 h fun n e => by cases e
  | k + 1, h => valueC (k + 1) h fun n e => by cases e; exact valueAll k (by omega)
end Go.Proofs.YtpjafglhdlfnbaaGreatDoor
namespace Go.Proofs.YtpjafglhdlfnbaaGreatDoor
open Go.Ab
def sp13 : ASp := ⟨33, 1, 4, (.reg [] [⟨some 2, none, .alloc [.int .i64 0, .int .i64 0, .str [], .sl .nil 5 [], .sl .nil 6 []], []⟩, ⟨some 3, none, .alloc [.int .i64 0], []⟩]), (.block 0 (.seq (.reg [] [⟨some 6, none, .mv (.t 0), []⟩, ⟨some 7, none, .lens (.t 6), []⟩, ⟨some 8, none, .bi .gtr .i64 (.t 7) (.k (.int .i64 8192)), []⟩, ⟨some 5, none, .mv (.t 8), []⟩])
 (.cond (.t 5) (.seq (.reg [] [⟨some 9, none, .bld [.int .i64 0, .int .i64 0, .str [], .sl .nil 5 [], .sl .nil 6 []] [], []⟩, ⟨none, none, .st 5 (.t 2) (.t 9), []⟩, ⟨none, none, .st 1 (.t 3) (.k (.int .i64 3)), []⟩])
 (.ret)) (.seq (.reg [] [⟨some 11, none, .mv (.t 0), []⟩, ⟨some 12, none, .call 31 [(.t 11)], []⟩, ⟨some 13, none, .not (.t 12), []⟩, ⟨some 10, none, .mv (.t 13), []⟩])
 (.cond (.t 10) (.seq (.reg [] [⟨some 14, none, .bld [.int .i64 0, .int .i64 0, .str [], .sl .nil 5 [], .sl .nil 6 []] [], []⟩, ⟨none, none, .st 5 (.t 2) (.t 14), []⟩, ⟨none, none, .st 1 (.t 3) (.k (.int .i64 2)), []⟩])
 (.ret)) (.skip)))))), [⟨some 15, none, .mkfn 32 [] [(.t 2), (.t 3)], []⟩], 15, (.seq (.reg [] [⟨some 16, none, .mv (.t 0), []⟩, ⟨some 17, none, .bld [.str [], .int .i64 0, .int .i64 0] [(0, 1, (.t 16))], []⟩, ⟨some 18, none, .box (.t 17), []⟩, ⟨some 4, none, .mv (.t 18), []⟩])
 (.seq (.reg [] [⟨some 19, none, .mv (.t 4), []⟩, ⟨some 20, none, .call 33 [(.t 19)], []⟩, ⟨none, none, .st 5 (.t 2) (.t 20), []⟩])
 (.seq (.reg [] [⟨some 21, none, .mv (.t 4), []⟩, ⟨some 22, none, .call 34 [(.t 21)], []⟩])
 (.seq (.seq (.reg [] [⟨some 23, none, .mv (.t 4), []⟩, ⟨some 24, none, .nilchk (.t 23), []⟩, ⟨some 25, none, .fa 1 (.t 24), []⟩, ⟨some 26, none, .ld 1 false (.t 25), []⟩, ⟨some 27, none, .mv (.t 0), []⟩, ⟨some 28, none, .lens (.t 27), []⟩, ⟨some 29, none, .bi .lss .i64 (.t 26) (.t 28), []⟩])
 (.cond (.t 29) (.reg [] [⟨some 30, none, .mv (.t 4), []⟩, ⟨some 31, none, .call 35 [(.t 30), (.k (.int .i64 2))], []⟩]) (.skip)))
 (.seq (.reg [] [⟨some 32, none, .ld 5 true (.t 2), []⟩, ⟨none, none, .st 5 (.t 2) (.t 32), []⟩, ⟨none, none, .st 1 (.t 3) (.k (.int .i64 0)), []⟩])
 (.ret)))))), [.c 2 5 true, .c 3 1 false]⟩
theorem ckS13 : chkSp Tryz.prog 13 sp13 = true := by kernel_rfl
def df32 : ADfn := ⟨18, 2, 5, [⟨some 2, none, .mv (.t 5), []⟩], (.seq (.reg [] [⟨some 7, none, .mv (.t 2), []⟩, ⟨some 8, none, .tas 55 (.agg [.int .i64 0]) (.t 7), []⟩, ⟨some 6, none, .mv (.t 8), []⟩, ⟨some 9, none, .ext (.t 6) 0, []⟩, ⟨some 10, none, .ext (.t 6) 1, []⟩, ⟨some 3, none, .alloc [.int .i64 0], []⟩, ⟨none, none, .st 1 (.t 3) (.t 9), []⟩, ⟨some 4, none, .mv (.t 10), []⟩])
 (.seq (.reg [] [⟨some 11, none, .mv (.t 4), []⟩])
 (.cond (.t 11) (.reg [0, 1, 2, 3, 4] [⟨some 12, none, .bld [.int .i64 0, .int .i64 0, .str [], .sl .nil 5 [], .sl .nil 6 []] [], []⟩, ⟨some 13, none, .fa 0 (.t 3), []⟩, ⟨some 14, none, .ld 1 false (.t 13), []⟩, ⟨none, none, .st 5 (.t 0) (.t 12), [2]⟩, ⟨none, none, .st 1 (.t 1) (.t 14), []⟩]) (.seq (.reg [] [⟨some 15, none, .mv (.t 2), []⟩, ⟨some 16, none, .ifnil true (.t 15), []⟩])
 (.cond (.t 16) (.reg [] [⟨some 17, none, .mv (.t 2), []⟩, ⟨none, none, .pan (.t 17), []⟩]) (.skip))))))⟩
theorem ckD32 : chkDfn Tryz.prog 32 df32 = true := by kernel_rfl
end Go.Proofs.YtpjafglhdlfnbaaGreatDoor
namespace Go.Proofs.YtpjafglhdlfnbaaGreatDoor
open Go.Ab
theorem items_go {P : Program} {KP : AV → Heap → Prop} {items : List AItem} {ρ : Env} {H : Heap} {K : Env → Heap → Prop} (h : ∀ Q : AExit → Env → Heap → Prop, (∀ ρ' H', K ρ' H' → Q .normal ρ' H') → goI P KP Q items items [] ρ H) : awpItems P KP (annot items) ρ H K :=
  h (fun e ρ H => match e with | .normal => K ρ H | _ => True) (fun _ _ h => h)
theorem awp_go {P : Program} {KP : AV → Heap → Prop} {c : AC} {ρ : Env} {H : Heap} {K : AExit → Env → Heap → Prop} (h : ∀ (KP' : AV → Heap → Prop) (Q : AExit → Env → Heap → Prop), (∀ v H', KP v H' → KP' v H') → (∀ e ρ' H', K e ρ' H' → Q e ρ' H') → goC P KP' Q c [] ρ H) : awp P KP c K ρ H :=
  h KP K (fun _ _ h => h) (fun _ _ _ h => h)
theorem failK (H : Heap) (r : Nat) (n : Int) : ACalls Tryz.prog 35 [.ptr r 0, .int .i64 n] H (fun e H' => match e with | .ret v => False | .pan v => v = stopV n ∧ H' = H) := by
  refine ACalls.goO (R := fun _ _ => False) (RP := fun v H' => v = stopV n ∧ H' = H) ir35 ck35 (Nat.le_refl _) fun KP Q hQ hP => ?_
  simp (disch := first | omega | assumption) only [ir35, go_sem, ↓reduceIte]
  exact hP _ _ H (Low.refl _) ⟨rfl, rfl⟩
theorem cV_splice2 (x : Val) : splice (cV x) 0 (cV x) = cV x := by cases x; rfl
theorem rec0 {H : Heap} {b2 b3 : Nat} {Q : Heap → Prop} (hq : ∀ b x, H b = none → Q (H.upd b x)) : ACallsD Tryz.prog 32 [.ptr b2 0, .ptr b3 0] none H Q := by
  refine ACallsD.of_fn df32 ckD32 (Nat.le_refl _) (items_go fun Q1 hQ1 => ?_)
  simp (disch := first | omega | assumption) only [df32, Option.getD_none, go_sem, ↓reduceIte]
  refine hQ1 _ _ (awp_go fun KP' Q2 hKP hQ2 => ?_)
  simp (disch := first | omega | assumption) only [df32, go_sem, ↓reduceIte]
  refine goA_intro fun b hb => ?_
  simp (disch := first | omega | assumption) only [go_sem, ↓reduceIte]
  exact hQ2 _ _ _ (hq _ _ hb)
theorem rec1 {H : Heap} {b2 b3 : Nat} {c2 c3 : List AV} {n : Int} {Q : Heap → Prop} (h2 : H b2 = some (.cells c2)) (l2 : c2.length = 5) (h3 : H b3 = some (.cells c3)) (l3 : c3.length = 1) (hne : b3 ≠ b2)
    (hq : ∀ b x, H b = none → Q (((H.upd b x).upd b2 (.cells zC)).upd b3 (.cells [.int .i64 n]))) : ACallsD Tryz.prog 32 [.ptr b2 0, .ptr b3 0] (some (stopV n)) H Q := by
  refine ACallsD.of_fn df32 ckD32 (Nat.le_refl _) (items_go fun Q1 hQ1 => ?_)
  simp (disch := first | omega | assumption) only [df32, Option.getD_some, stopV, go_sem, ↓reduceIte]
  refine hQ1 _ _ (awp_go fun KP' Q2 hKP hQ2 => ?_)
  simp (disch := first | omega | assumption) only [df32, go_sem, ↓reduceIte]
  refine goA_intro fun b hb => ?_
  have n1 : b2 ≠ b := fun e => by subst e; rw [hb] at h2; cases h2
  have n2 : b3 ≠ b := fun e => by subst e; rw [hb] at h3; cases h3
  simp (disch := first | omega | assumption) only [h2, h3, n1, n2, hne, l2, l3, go_sem, ↓reduceIte]
  have e2 : splice c2 0 [.int .i64 0, .int .i64 0, .str [], .sl .nil 5 [], .sl .nil 6 []] = zC := by
    unfold splice; simp only [List.take_zero, List.nil_append, List.length_cons, List.length_nil]; rw [List.drop_eq_nil_of_le (by rw [l2]; decide), List.append_nil]
  have e3 : splice c3 0 [.int .i64 n] = [.int .i64 n] := by
    unfold splice; simp only [List.take_zero, List.nil_append, List.length_cons, List.length_nil]; rw [List.drop_eq_nil_of_le (by rw [l3]; decide), List.append_nil]
  rw [e2, e3]
  exact hQ2 _ _ _ (hq _ _ hb)
def readA (s : List UInt8) : AV := .tup [.agg (cV (readM s).1), .int .i64 (readM s).2]
theorem strip2 (c2 : List AV) (e : Int) : (tupOf [.agg c2, .int .i64 e]).strip = .tup [.agg (c2.map AV.strip1), .int .i64 e] := rfl
theorem res_read {ρ : Env} {H : Heap} {b2 b3 : Nat} {c2 : List AV} {e : Int} (r2 : ρ 2 = .ptr b2 0) (r3 : ρ 3 = .ptr b3 0) (h2 : H b2 = some (.cells c2)) (l2 : c2.length = 5) (h3 : H b3 = some (.cells [.int .i64 e])) :
    resvs ρ H sp13.res = some [.agg c2, .int .i64 e] := by
  have t2 : c2.take 5 = c2 := List.take_of_length_le (by omega)
  have l3 : 5 ≤ c2.length := by omega
  simp (disch := first | omega | assumption) only [sp13, resvs, resv, r2, r3, h2, h3, l2, t2, go_sem, ↓reduceIte]
theorem union_one {b : Nat} {x y : AObj} {B : Heap} (hb : B b = none) : Heap.union ((Heap.one b x).upd b y) B = B.upd b y := by
  funext c
  by_cases e : c = b
  · subst e; simp [Heap.union, Heap.upd]
  · simp [Heap.union, Heap.upd, Heap.one, e]
theorem union_one0 {b : Nat} {x : AObj} {B : Heap} (hb : B b = none) : Heap.union (Heap.one b x) B = B.upd b x := by
  funext c
  by_cases e : c = b
  · subst e; simp [Heap.union, Heap.upd, Heap.one]
  · simp [Heap.union, Heap.upd, Heap.one, e]
theorem low_union {A B : Heap} (hd : Heap.Disj A B) : Low B (Heap.union A B) := Low.of_sub fun c x hc => by
  rcases hd c with h | h
  · simp [Heap.union, h, hc]
  · rw [hc] at h; cases h
abbrev readQ (s : List UInt8) : AEnd → Heap → Prop := fun e H' => match e with | .ret v => (v.strip = readA s ∧ H' = Heap.emp) | .pan _ => False
theorem readS (s : List UInt8) (hl : s.length ≤ LimS) : ACalls Tryz.prog 13 [.str s] Heap.emp (readQ s) := by
  refine ACalls.of_sp sp13 ckS13 (Nat.le_refl _) ?_
  unfold awpD
  refine awp_go fun KP Q hKP hQ => ?_
  have hl0 := hl
  simp only [LimS] at hl
  simp (disch := first | omega | assumption) only [sp13, go_sem, ↓reduceIte]
  refine goA_intro fun b2 hb2 => ?_
  simp (disch := first | omega | assumption) only [go_sem, ↓reduceIte]
  refine goA_intro fun b3 hb3 => ?_
  simp (disch := first | omega | assumption) only [go_sem, ↓reduceIte]
  refine hQ _ _ _ (awp_go fun KP1 Q1 hKP1 hQ1 => ?_)
  have h32 : b3 ≠ b2 := fun e => by subst e; rw [upd_same] at hb3; cases hb3
  by_cases h1 : 8192 < s.length
  · have h1' : ((8192 : Int) < s.length) = True := eq_true (by omega)
    simp (disch := first | omega | assumption) only [sp13, h1', h32, Ne.symm h32, go_sem, ↓reduceIte]
    refine hQ1 _ _ _ ?_
    have e0 : readM s = (nullV, 3) := by unfold readM; rw [if_pos h1]
    show finQ sp13.res (readQ s) .ret _ _
    simp only [finQ]
    rw [res_read (b2 := b2) (b3 := b3) (c2 := zC) (e := 3) rfl rfl (by rw [upd_ne (Ne.symm h32), upd_same]) rfl (upd_same ..)]
    exact ⟨Heap.emp, Low.of_sub (sub_emp _), by rw [strip2, readA, e0]; rfl, rfl⟩
  · have h1' : ¬ ((8192 : Int) < s.length) := by omega
    simp (disch := first | omega | assumption) only [sp13, h1', go_sem, ↓reduceIte]
    refine goK_pure (goodC s (by simp only [Lim]; omega)) ?_
    cases hv : Lib.validD s
    · simp (disch := first | omega | assumption) only [h32, Ne.symm h32, go_sem, ↓reduceIte]
      refine hQ1 _ _ _ ?_
      have e0 : readM s = (nullV, 2) := by unfold readM; rw [if_neg h1, hv]; rfl
      show finQ sp13.res (readQ s) .ret _ _
      simp only [finQ]
      rw [res_read (b2 := b2) (b3 := b3) (c2 := zC) (e := 2) rfl rfl (by rw [upd_ne (Ne.symm h32), upd_same]) rfl (upd_same ..)]
      exact ⟨Heap.emp, Low.of_sub (sub_emp _), by rw [strip2, readA, e0]; rfl, rfl⟩
    · have e0 : readM s = match valM 16 s with
          | .error e => (nullV, e)
          | .ok (v, t) => if skB t = [] then (v, 0) else (nullV, 2) := by unfold readM; rw [if_neg h1, hv]; rfl
      simp (disch := first | omega | assumption) only [go_sem, ↓reduceIte]
      refine hQ1 _ _ _ (items_go fun Q2 hQ2 => ?_)
      simp (disch := first | omega | assumption) only [sp13, go_sem, ↓reduceIte]
      refine hQ2 _ _ ⟨32, _, rfl, by decide +kernel, awp_go fun KP3 Q3 hKP3 hQ3 => ?_⟩
      have fin : ∀ (ρ1 : Env) (H : Heap) (c2 : List AV) (e : Int), ρ1 2 = .ptr b2 0 → ρ1 3 = .ptr b3 0 → H b2 = some (.cells c2) → c2.length = 5 → H b3 = some (.cells [.int .i64 e]) → AV.tup [.agg (c2.map AV.strip1), .int .i64 e] = readA s → finS sp13 (readQ s) ρ1 H := by
        intro ρ1 H c2 e r2 r3 g2 l2 g3 er
        refine ⟨_, res_read (b2 := b2) (b3 := b3) (c2 := c2) (e := e) ?_ ?_ g2 l2 g3, Heap.emp, Low.of_sub (sub_emp _), by rw [strip2]; exact er, rfl⟩
        · rw [keep_get, if_pos (by decide)]; exact r2
        · rw [keep_get, if_pos (by decide)]; exact r3
      have hpan : ∀ (n : Int) (H0 H' : Heap) (c2 : List AV) (c3 : List AV), Low H0 H' → H0 b2 = some (.cells c2) → c2.length = 5 → H0 b3 = some (.cells c3) → c3.length = 1 → readM s = (nullV, n) → KP3 (stopV n) H' := by
        intro n H0 H' c2 c3 hlow g2 l2 g3 l3 er
        refine hKP3 _ _ ⟨H0, hlow, rec1 g2 l2 g3 l3 h32 fun b x hb => fin _ _ zC n rfl rfl (by rw [upd_ne (Ne.symm h32), upd_same]) rfl (upd_same ..) (by rw [readA, er]; rfl)⟩
      have hb3e : Heap.emp b3 = none := rfl
      simp (disch := first | omega | assumption) only [sp13, go_sem, ↓reduceIte]
      refine goA_intro fun b4 hb4 => ?_
      have h43 : b4 ≠ b3 := fun e => by subst e; rw [upd_same] at hb4; cases hb4
      have h42 : b4 ≠ b2 := fun e => by subst e; rw [upd_ne (Ne.symm h32), upd_same] at hb4; cases hb4
      simp (disch := first | omega | assumption) only [go_sem, ↓reduceIte]
      have hd : Heap.Disj (Heap.one b4 (rdc s [] (16 - 16))) ((Heap.emp.upd b2 (.cells zC)).upd b3 (.cells [.int .i64 0])) := fun c => by
        by_cases e : c = b4
        · subst e; exact .inr hb4
        · exact .inl (by simp [Heap.one, e])
      have hc := ACalls.frame hd (valueAll 16 (by decide) (Heap.one b4 (rdc s [] (16 - 16))) b4 s [] s rfl hl0 (by simp [Heap.one]))
      rw [union_one0 hb4] at hc
      refine goK_calls hc fun e H' ⟨A', hq, hd', hH'⟩ => ?_
      subst hH'
      cases e with
      | pan v =>
        obtain ⟨n, e1, hv⟩ := hq
        subst hv
        rw [e1] at e0
        exact hpan n _ _ zC _ (low_union hd') (by rw [upd_ne (Ne.symm h32), upd_same]) rfl (upd_same ..) rfl e0
      | ret v =>
        obtain ⟨x, t', e1, hv, p', hp', hA⟩ := hq
        subst hv; subst hA
        rw [e1] at e0
        simp only at e0
        rw [union_one hb4]
        show goR _ _ _ _ _ _ _ _ _
        simp (disch := first | omega | assumption) only [h32, Ne.symm h32, h43, Ne.symm h43, h42, Ne.symm h42, cV_len, cV_splice, go_sem, ↓reduceIte]
        refine goK_ret (blanksC (dp := 16 - 16) hp' hl (by rw [upd_ne h42, upd_same])) fun v5 H5 ⟨hv5, ha5⟩ => ?_
        subst hv5
        obtain ⟨p5, hp5, hH5⟩ := ha5
        have g4 : H5 b4 = some (.cells [.str s, .int .i64 (p5.length : Int), .int .i64 ((16 - 16 : Nat) : Int)]) := by rw [hH5, upd_same]; rfl
        have g2 : H5 b2 = some (.cells (cV x)) := by rw [hH5, upd_ne (Ne.symm h42), upd_same]
        have g3 : H5 b3 = some (.cells [.int .i64 0]) := by rw [hH5, upd_ne (Ne.symm h43), upd_ne h32, upd_ne (Ne.symm h43), upd_same]
        have hlen : p5.length + (skB t').length = s.length := by rw [← hp5]; simp
        clear hH5
        cases hk : skB t' with
        | nil =>
          rw [hk] at hlen e0
          have hlt : ¬ ((p5.length : Int) < s.length) := by simp at hlen; omega
          simp (disch := first | omega | assumption) only [g4, g2, g3, hlt, h32, Ne.symm h32, cV_len, cV_take, cV_splice, go_sem, ↓reduceIte]
          refine hQ3 _ _ _ ⟨_, Low.refl _, rec0 fun b y hb => ?_⟩
          have n2 : b2 ≠ b := fun e => by subst e; rw [upd_ne (Ne.symm h32), upd_same] at hb; cases hb
          have n3 : b3 ≠ b := fun e => by subst e; rw [upd_same] at hb; cases hb
          exact fin _ _ (cV x) 0 rfl rfl (by rw [upd_ne n2, upd_ne (Ne.symm h32), upd_same, cV_splice2]) (cV_len x) (by rw [upd_ne n3, upd_same]) (by rw [readA, e0, cV_strip]; rfl)
        | cons c r =>
          rw [hk] at hlen e0
          have hlt : ((p5.length : Int) < s.length) = True := eq_true (by simp at hlen; omega)
          simp (disch := first | omega | assumption) only [g4, hlt, go_sem, ↓reduceIte]
          exact goK_both (failK _ b4 2) (fun _ _ h => h.elim) fun v H6 ⟨h6, h7⟩ => by
            subst h6; subst h7
            exact hpan 2 _ _ (cV x) _ (Low.refl _) g2 (cV_len x) g3 rfl (by rw [e0]; rfl)
end Go.Proofs.YtpjafglhdlfnbaaGreatDoor
namespace Go.Proofs.YtpjafglhdlfnbaaGreatDoor
open Go.Lib
theorem u8_48 {d : Nat} (h : d < 10) : (UInt8.ofNat (48 + d)).toNat = 48 + d := by
  rw [UInt8.toNat_ofNat']; omega
theorem parse_dec (u : Nat) (hu : u < 18446744073709551616) (r : List UInt8) : parseUint10 0 (decDigits u ++ r) = parseUint10 u r := by
  induction u using Nat.strongRecOn generalizing r with
  | _ u ih =>
    rw [decDigits]
    split
    · rename_i h
      simp only [List.cons_append, List.nil_append, parseUint10, u8_48 h]
      rw [if_pos (by omega), if_neg (by omega), if_neg (by omega)]
      congr 1
      omega
    · rename_i h
      have hd : u % 10 < 10 := Nat.mod_lt _ (by omega)
      rw [List.append_assoc, ih (u / 10) (by omega) (by omega)]
      simp only [List.cons_append, List.nil_append, parseUint10, u8_48 hd]
      rw [if_pos (by omega), if_neg (by omega), if_neg (by omega)]
      congr 1
      omega
theorem decDigits_ne (u : Nat) : decDigits u ≠ [] := by
  rw [decDigits]; split <;> simp
theorem decDigits_mem (u : Nat) : ∀ c ∈ decDigits u, 48 ≤ c.toNat ∧ c.toNat ≤ 57 := by
  induction u using Nat.strongRecOn with
  | _ u ih =>
    intro c hc
    rw [decDigits] at hc
    split at hc
    · rename_i h
      rw [List.mem_singleton] at hc
      subst hc
      rw [u8_48 h]; omega
    · rename_i h
      rcases List.mem_append.1 hc with e | e
      · exact ih (u / 10) (by omega) c e
      · rw [List.mem_singleton] at e
        subst e
        rw [u8_48 (Nat.mod_lt _ (by omega))]; omega
theorem parse_mag (u : Nat) (hu : u < 18446744073709551616) : parseMag (decDigits u) = .ok u := by
  unfold parseMag
  rw [if_neg (decDigits_ne u)]
  have := parse_dec u hu []
  rw [List.append_nil] at this
  rw [this]; rfl
theorem parse_itoa (n : Int) (h1 : -9223372036854775808 ≤ n) (h2 : n ≤ 9223372036854775807) : parseIntB 64 (itoa n) = .ok n := by
  rw [parseIntB_64]
  unfold itoa
  split
  · rename_i h
    rw [atoiAll_minus, parse_mag _ (by omega)]
    simp only [signed]
    rw [if_neg (by omega)]
    congr 1
    omega
  · rename_i h
    cases hd : decDigits n.toNat with
    | nil => exact absurd hd (decDigits_ne _)
    | cons c r =>
      have hc := decDigits_mem n.toNat c (by rw [hd]; simp)
      rw [atoiAll_plain c r (by omega) (by omega), ← hd, parse_mag _ (by omega)]
      simp only [signless]
      rw [if_neg (by omega)]
      congr 1
      omega
end Go.Proofs.YtpjafglhdlfnbaaGreatDoor
namespace Go.Proofs.YtpjafglhdlfnbaaGreatDoor
open Go.Ab Go.Lib
theorem rows_bytes : ∀ (l : List UInt8) (r : List AV), rowsA 1 l.length ((bytesOf l).flatten ++ r) = bytesOf l
  | [], r => rfl
  | c :: l, r => by
    have ih := rows_bytes l r
    simp only [bytesOf, List.map_cons, List.flatten_cons, List.length_cons, rowsA, List.cons_append, List.nil_append, List.take_succ_cons, List.take_zero, List.map_nil, AV.strip1, List.drop_succ_cons, List.drop_zero] at ih ⊢
    rw [ih]
theorem upd2_del {H : Heap} {b : Nat} {x y : AObj} (h : H b = none) : ((H.upd b x).upd b y).del b = H := by
  funext c
  simp only [Heap.upd, Heap.del]
  by_cases e : c = b
  · subst e; simp [h]
  · simp [e]
theorem wru64 {n : Nat} (h : n < 18446744073709551616) : IntKind.wrap .u64 (n : Int) = n := by
  have e : IntKind.wrap .u64 (n : Int) = (n : Int) % 18446744073709551616 := rfl
  rw [e]; omega
theorem appUint (u : Nat) (hu : u < 18446744073709551616) (acc : List UInt8) (H : Heap) (o : Own) (ho : Owned H o acc.length 1) (hb : acc.length ≤ Lim) :
    Gives Tryz.prog 151 [.sl o 1 (bytesOf acc), .int .u64 u, .int .i64 10] H o 1 (bytesOf (acc ++ decDigits u)) := by
  refine ACalls.goO ir151 ck151 (Nat.le_refl _) fun KP Q hQ hP => ?_
  have hal := bytesOf_len acc
  have hl := decDigits_length u
  have hn := nDigits_le20 u hu
  simp only [Lim] at hb
  have ho' : Owned H o (bytesOf acc).length 1 := by rw [hal]; exact ho
  by_cases h : u < 100
  · have g1 : ((u : Int) < 100) = True := eq_true (by omega)
    simp (disch := first | omega | assumption) only [ir151, g1, wrap64, go_sem, ↓reduceIte]
    refine goK_pure (smallC u h) ?_
    simp (disch := first | omega | assumption) only [go_sem, ↓reduceIte]
    refine goP_ownS ho' (by simp [hal, bytesOf_len, hl]; omega) (by simp [hal, maxLen, bytesOf_len, hl]; omega) fun o' H' hs => ?_
    simp (disch := first | omega | assumption) only [go_sem, ↓reduceIte]
    refine hQ _ _ H' H' [_] nofun rfl (Low.refl _) ⟨o', ?_, ?_⟩
    · rw [← bytesOf_app, bytesOf_strip]; rfl
    · rw [bytesOf_len, List.length_append]; simpa [hal, bytesOf_len] using hs
  · have g1 : ¬ ((u : Int) < 100) := by omega
    simp (disch := first | omega | assumption) only [ir151, g1, go_sem, ↓reduceIte]
    refine goA_intro fun bb hbb => ?_
    simp (disch := first | omega | assumption) only [go_sem, ↓reduceIte]
    refine goK_pure (numDigitsC u (by omega) hu) ?_
    have g2 : ((nDigits u : Int) ≤ 24) = True := eq_true (by omega)
    simp (disch := first | omega | assumption) only [g2, go_sem, ↓reduceIte]
    refine goK_ret (fmtC u (by rw [upd_same]; rfl) hu) fun v H1 ⟨hv, hH⟩ => ?_
    subst hv
    simp (disch := first | omega | assumption) only [go_sem, ↓reduceIte]
    refine o_slaf 24 1 bb 0 (nDigits u) _ _ .i64 (by omega) (by omega) rfl rfl ?_
    subst hH
    refine goZ_ms (upd_same ..) (by decide) (by simp [flat_bytes, hl]) ?_
    rw [upd2_del hbb, List.drop_zero, Int.toNat_natCast, ← hl, rows_bytes]
    simp (disch := first | omega | assumption) only [go_sem, ↓reduceIte]
    refine goP_ownS ho' (by simp [hal, bytesOf_len, hl]; omega) (by simp [hal, maxLen, bytesOf_len, hl]; omega) fun o' H' hs => ?_
    simp (disch := first | omega | assumption) only [go_sem, ↓reduceIte]
    refine hQ _ _ H' H' [_] nofun rfl (Low.refl _) ⟨o', ?_, ?_⟩
    · rw [← bytesOf_app, bytesOf_strip]; rfl
    · rw [bytesOf_len, List.length_append]; simpa [hal, bytesOf_len] using hs
theorem itoa_nn {n : Int} (h : 0 ≤ n) : itoa n = decDigits n.toNat := by
  simp only [itoa]; rw [if_neg (by omega)]
theorem itoa_neg {n : Int} (h : n < 0) : itoa n = 45 :: decDigits (-n).toNat := by
  simp only [itoa]; rw [if_pos h]; congr 2; omega
theorem appInt0 (n : Int) (h0 : -9223372036854775808 ≤ n) (h1 : n ≤ 9223372036854775807) (acc : List UInt8) (H : Heap) (o : Own) (ho : Owned H o acc.length 1) (hb : acc.length + 1 ≤ Lim) :
    Gives Tryz.prog 122 [.sl o 1 (bytesOf acc), .int .i64 n, .int .i64 10] H o 1 (bytesOf (acc ++ itoa n)) := by
  refine ACalls.goO ir122 ck122 (Nat.le_refl _) fun KP Q hQ hP => ?_
  have hal := bytesOf_len acc
  by_cases h : n < 0
  · obtain ⟨m, hm⟩ : ∃ m : Nat, n = -(m : Int) := ⟨(-n).toNat, by omega⟩
    subst hm
    have e1 : IntKind.wrap .u64 (0 - IntKind.wrap .u64 (-(m : Int))) = m := by
      have e : ∀ x : Int, IntKind.wrap .u64 x = x % 18446744073709551616 := fun _ => rfl
      rw [e, e]; omega
    have hi : itoa (-(m : Int)) = 45 :: decDigits m := by rw [itoa_neg h]; congr 2; omega
    simp only [Lim] at hb
    simp (disch := first | omega | assumption) only [ir122, h, go_sem, ↓reduceIte]
    refine goP_ownS (by rw [hal]; exact ho) (by simp [hal]; omega) (by simp [hal, maxLen]; omega) fun o1 H1 hs1 => ?_
    simp (disch := first | omega | assumption) only [e1, go_sem, ↓reduceIte]
    have e2 : bytesOf acc ++ [[AV.int .u8 45]] = bytesOf (acc ++ [45]) := bytesOf_one acc 45
    rw [e2]
    refine goK_gives (appUint m (by omega) (acc ++ [45]) H1 o1 (by have := hs1.own; simpa [hal] using this) (by simp only [Lim, List.length_append, List.length_cons, List.length_nil]; omega)) fun o' H' hs => ?_
    simp (disch := first | omega | assumption) only [go_sem, ↓reduceIte]
    have e3 : acc ++ [45] ++ decDigits m = acc ++ 45 :: decDigits m := by simp
    refine hQ _ _ H' H' [_] nofun rfl (Low.refl _) ⟨o', ?_, ?_⟩
    · rw [hi, ← e3]; rfl
    · rw [hi, ← e3]; exact hs1.trans hs
  · have hi := itoa_nn (n := n) (by omega)
    obtain ⟨m, rfl⟩ : ∃ m : Nat, n = (m : Int) := ⟨n.toNat, by omega⟩
    simp only [Int.toNat_natCast] at hi
    simp (disch := first | omega | assumption) only [ir122, h, wru64 (show m < 18446744073709551616 by omega), go_sem, ↓reduceIte]
    refine goK_gives (appUint m (by omega) acc H o ho (by omega)) fun o' H' hs => ?_
    simp (disch := first | omega | assumption) only [go_sem, ↓reduceIte]
    exact hQ _ _ H' H' [_] nofun rfl (Low.refl _) ⟨o', by rw [hi]; rfl, by rw [hi]; exact hs⟩
end Go.Proofs.YtpjafglhdlfnbaaGreatDoor
namespace Go.Proofs.YtpjafglhdlfnbaaGreatDoor
open Go.Ab Go.Lib
theorem u8_all {P : UInt8 → Prop} (h : ∀ x : Fin 256, P (UInt8.ofNat x.val)) (c : UInt8) : P c := by
  have := h ⟨c.toNat, c.toNat_lt⟩
  simpa using this
theorem getD_app {a b : List UInt8} {i : Nat} (h : i < a.length) : (a ++ b).getD i 0 = a.getD i 0 := by
  simp [List.getD, List.getElem?_append_left h]
theorem getD_at (a : List UInt8) (c : UInt8) (b : List UInt8) : (a ++ c :: b).getD a.length 0 = c := by simp
theorem check_some {n b1 b2 b3 sz lo hi k : Nat} (h : checkN n b1 b2 b3 sz lo hi = some k) :
    2 ≤ k ∧ k ≤ 4 ∧ k ≤ n ∧ k = sz ∧ lo ≤ b1 ∧ (3 ≤ k → 128 ≤ b2) ∧ (4 ≤ k → 128 ≤ b3) ∧ ∀ n' c2 c3, k ≤ n' → (3 ≤ k → c2 = b2) → (4 ≤ k → c3 = b3) → checkN n' b1 c2 c3 sz lo hi = some k := by
  unfold checkN at h
  split at h
  · rename_i hs
    split at h
    · cases h
    · rename_i hc
      cases h
      refine ⟨by omega, by omega, by omega, hs.symm, by omega, by omega, by omega, fun n' c2 c3 h1 _ _ => ?_⟩
      unfold checkN; rw [if_pos hs, if_neg (by omega)]
  · rename_i hs2
    split at h
    · rename_i hs
      split at h
      · cases h
      · rename_i hc
        cases h
        refine ⟨by omega, by omega, by omega, hs.symm, by omega, by omega, by omega, fun n' c2 c3 h1 h2 _ => ?_⟩
        have := h2 (by omega)
        unfold checkN; rw [if_neg hs2, if_pos hs, if_neg (by omega)]
    · rename_i hs3
      split at h
      · rename_i hs
        split at h
        · cases h
        · rename_i hc
          cases h
          refine ⟨by omega, by omega, by omega, hs.symm, by omega, by omega, by omega, fun n' c2 c3 h1 h2 h3 => ?_⟩
          have := h2 (by omega)
          have := h3 (by omega)
          unfold checkN; rw [if_neg hs2, if_neg hs3, if_pos hs, if_neg (by omega)]
      · cases h
theorem lo_T : ∀ x : Fin 256, 2 ≤ firstT x.val % 8 → firstT x.val % 8 ≤ 4 → 128 ≤ accLo (firstT x.val / 16) := by decide +kernel
theorem lo_ge {b : Nat} (h : b < 256) (h1 : 2 ≤ firstT b % 8) (h2 : firstT b % 8 ≤ 4) : 128 ≤ accLo (firstT b / 16) := lo_T ⟨b, h⟩ h1 h2
theorem validD_app : ∀ (n : Nat) (a b : List UInt8), a.length ≤ n → validD a = true → validD (a ++ b) = validD b
  | n, [], b, _, _ => by simp
  | 0, x :: t, b, h, _ => by simp at h
  | n + 1, x :: t, b, h, hv => by
    by_cases hx : x.toNat < 128
    · rw [validD_cons x t hx] at hv
      rw [List.cons_append, validD_cons x _ hx]
      exact validD_app n t b (by simpa using h) hv
    · have h0 : 128 ≤ ((x :: t).getD 0 0).toNat := by simp; omega
      rw [validD_lead (x :: t) (by simp) h0] at hv
      split at hv
      · cases hv
      · rename_i k hk
        obtain ⟨k2, k4, kl, ks, klo, _, _, kall⟩ := check_some hk
        have hkl : k ≤ (x :: t).length := kl
        have e1 : ((x :: t ++ b).getD 1 0) = (x :: t).getD 1 0 := getD_app (by omega)
        have e0 : ((x :: t ++ b).getD 0 0) = (x :: t).getD 0 0 := getD_app (by omega)
        rw [validD_lead (x :: t ++ b) (by simp) (by rw [e0]; exact h0), e0, e1]
        rw [kall (x :: t ++ b).length _ _ (by simp only [List.length_append]; omega) (fun h3 => by rw [getD_app (by omega)]) (fun h3 => by rw [getD_app (by omega)])]
        simp only
        rw [List.drop_append_of_le_length hkl]
        exact validD_app n _ b (by rw [List.length_drop]; omega) hv
theorem validA {a b : List UInt8} (h : validD a = true) : validD (a ++ b) = validD b := validD_app a.length a b (Nat.le_refl _) h
theorem validA2 {a b : List UInt8} (h : validD a = true) (h' : validD b = true) : validD (a ++ b) = true := (validA h).trans h'
theorem validD_split (c : UInt8) (hc : c.toNat < 128) : ∀ (n : Nat) (a b : List UInt8), a.length ≤ n → validD (a ++ c :: b) = true → validD a = true ∧ validD b = true
  | n, [], b, _, hv => by
    rw [List.nil_append, validD_cons c b hc] at hv
    exact ⟨validD_nil, hv⟩
  | 0, x :: t, b, h, _ => by simp at h
  | n + 1, x :: t, b, h, hv => by
    by_cases hx : x.toNat < 128
    · rw [List.cons_append, validD_cons x _ hx] at hv
      rw [validD_cons x t hx]
      exact validD_split c hc n t b (by simpa using h) hv
    · have h0 : 128 ≤ ((x :: t ++ c :: b).getD 0 0).toNat := by simp; omega
      have e0 : ((x :: t ++ c :: b).getD 0 0) = (x :: t).getD 0 0 := getD_app (by simp)
      have ec : ((x :: t ++ c :: b).getD (x :: t).length 0) = c := getD_at ..
      rw [validD_lead (x :: t ++ c :: b) (by simp) h0] at hv
      split at hv
      · cases hv
      · rename_i k hk
        obtain ⟨k2, k4, kl, ks, klo, k3, k4', kall⟩ := check_some hk
        have hlo := lo_ge ((x :: t ++ c :: b).getD 0 0).toNat_lt (by omega) (by omega)
        have hkl : k ≤ (x :: t).length := by
          rcases Nat.lt_or_ge (x :: t).length k with h1 | h1
          · exfalso
            have hl : (x :: t).length = 1 ∨ (x :: t).length = 2 ∨ (x :: t).length = 3 := by simp only [List.length_cons] at h1 ⊢; omega
            rcases hl with e | e | e
            · rw [e] at ec h1; rw [ec] at klo; omega
            · rw [e] at ec h1; rw [ec] at k3; have := k3 (by omega); omega
            · rw [e] at ec h1; rw [ec] at k4'; have := k4' (by omega); omega
          · exact h1
        have e1 : ((x :: t ++ c :: b).getD 1 0) = (x :: t).getD 1 0 := getD_app (by omega)
        rw [List.drop_append_of_le_length hkl] at hv
        obtain ⟨g1, g2⟩ := validD_split c hc n _ b (by rw [List.length_drop]; omega) hv
        refine ⟨?_, g2⟩
        rw [validD_lead (x :: t) (by simp) (by rw [← e0]; exact h0), ← e0, ← e1]
        rw [kall (x :: t).length _ _ hkl (fun h3 => by rw [getD_app (by omega)]) (fun h3 => by rw [getD_app (by omega)])]
        exact g1
theorem validS {c : UInt8} (hc : c.toNat < 128) {a b : List UInt8} (hv : validD (a ++ c :: b) = true) : validD a = true ∧ validD b = true := validD_split c hc a.length a b (Nat.le_refl _) hv
theorem ofN {n : Nat} (h : n < 256) : (UInt8.ofNat n).toNat = n := by rw [UInt8.toNat_ofNat']; omega
theorem enc_valid {n : Nat} (h1 : n ≤ 1114111) (h2 : ¬ (55296 ≤ n ∧ n ≤ 57343)) : validD (encM n) = true := by
  unfold encM
  split
  · rename_i h
    rw [validD_cons _ _ (by rw [ofN (by omega)]; omega)]; rfl
  · split
    · rename_i h0 h
      rw [validD_lead _ (by simp) (by simp only [List.getD_cons_zero]; rw [ofN (by omega)]; omega)]
      simp only [List.getD_cons_zero, List.getD_cons_succ, List.getD_nil, List.length_cons, List.length_nil]
      rw [ofN (show 192 + n / 64 < 256 by omega), ofN (show 128 + n % 64 < 256 by omega)]
      have e : firstT (192 + n / 64) = 2 := by unfold firstT; rw [if_neg (by omega), if_neg (by omega), if_pos (by omega)]
      rw [e]
      have e2 : checkN (0 + 1 + 1) (128 + n % 64) (0 : UInt8).toNat (0 : UInt8).toNat (2 % 8) (accLo (2 / 16)) (accHi (2 / 16)) = some 2 := by
        unfold checkN accLo accHi; simp; omega
      rw [e2]; rfl
    · split
      · rename_i h0 h1' h
        rw [validD_lead _ (by simp) (by simp only [List.getD_cons_zero]; rw [ofN (by omega)]; omega)]
        simp only [List.getD_cons_zero, List.getD_cons_succ, List.getD_nil, List.length_cons, List.length_nil]
        rw [ofN (show 224 + n / 4096 < 256 by omega), ofN (show 128 + n / 64 % 64 < 256 by omega), ofN (show 128 + n % 64 < 256 by omega)]
        have e2 : checkN (0 + 1 + 1 + 1) (128 + n / 64 % 64) (128 + n % 64) (0 : UInt8).toNat (firstT (224 + n / 4096) % 8) (accLo (firstT (224 + n / 4096) / 16)) (accHi (firstT (224 + n / 4096) / 16)) = some 3 := by
          have c : n / 4096 = 0 ∨ (1 ≤ n / 4096 ∧ n / 4096 < 13) ∨ n / 4096 = 13 ∨ (14 ≤ n / 4096 ∧ n / 4096 < 16) := by omega
          rcases c with c | c | c | c
          · rw [c]; unfold checkN; simp [firstT, accLo, accHi]; omega
          · have e : firstT (224 + n / 4096) = 3 := by unfold firstT; rw [if_neg (by omega), if_neg (by omega), if_neg (by omega), if_neg (by omega), if_pos (by omega)]
            rw [e]; unfold checkN; simp [accLo, accHi]; omega
          · rw [c]; unfold checkN; simp [firstT, accLo, accHi]; omega
          · have e : firstT (224 + n / 4096) = 3 := by unfold firstT; rw [if_neg (by omega), if_neg (by omega), if_neg (by omega), if_neg (by omega), if_neg (by omega), if_neg (by omega), if_pos (by omega)]
            rw [e]; unfold checkN; simp [accLo, accHi]; omega
        rw [e2]; rfl
      · rename_i h0 h1' h
        rw [validD_lead _ (by simp) (by simp only [List.getD_cons_zero]; rw [ofN (by omega)]; omega)]
        simp only [List.getD_cons_zero, List.getD_cons_succ, List.getD_nil, List.length_cons, List.length_nil]
        rw [ofN (show 240 + n / 262144 < 256 by omega), ofN (show 128 + n / 4096 % 64 < 256 by omega), ofN (show 128 + n / 64 % 64 < 256 by omega), ofN (show 128 + n % 64 < 256 by omega)]
        have e2 : checkN (0 + 1 + 1 + 1 + 1) (128 + n / 4096 % 64) (128 + n / 64 % 64) (128 + n % 64) (firstT (240 + n / 262144) % 8) (accLo (firstT (240 + n / 262144) / 16)) (accHi (firstT (240 + n / 262144) / 16)) = some 4 := by
          have c : n / 262144 = 0 ∨ (1 ≤ n / 262144 ∧ n / 262144 < 4) ∨ n / 262144 = 4 := by omega
          rcases c with c | c | c
          · rw [c]; unfold checkN; simp [firstT, accLo, accHi]; omega
          · have e : firstT (240 + n / 262144) = 4 := by unfold firstT; rw [if_neg (by omega), if_neg (by omega), if_neg (by omega), if_neg (by omega), if_neg (by omega), if_neg (by omega), if_neg (by omega), if_neg (by omega), if_pos (by omega)]
            rw [e]; unfold checkN; simp [accLo, accHi]; omega
          · rw [c]; unfold checkN; simp [firstT, accLo, accHi]; omega
        rw [e2]; rfl
theorem join_valid : ∀ (u : List Nat) (s : List UInt8), joinM u = some s → validD s = true
  | [], s, h => by cases h; rfl
  | u :: [], s, h => by
    simp only [joinM] at h
    split at h
    · cases h
    · rename_i h1
      split at h
      · cases h
      · simp only [Option.map_some, Option.some.injEq] at h
        subst h
        rw [List.append_nil]
        exact enc_valid (by omega) (by omega)
  | u :: v :: r, s, h => by
    rw [joinM] at h
    split at h
    · cases h
    · rename_i h1
      split at h
      · rename_i h2
        split at h
        · cases h
        · rename_i h3
          cases hr : joinM r with
          | none => simp [hr] at h
          | some x =>
            simp only [hr, Option.map_some, Option.some.injEq] at h
            subst h
            exact validA2 (enc_valid (by omega) (by omega)) (join_valid r x hr)
      · rename_i h2
        cases hr : joinM (v :: r) with
        | none => simp [hr] at h
        | some x =>
          simp only [hr, Option.map_some, Option.some.injEq] at h
          subst h
          exact validA2 (enc_valid (by omega) (by omega)) (join_valid (v :: r) x hr)
end Go.Proofs.YtpjafglhdlfnbaaGreatDoor
namespace Go.Proofs.YtpjafglhdlfnbaaGreatDoor
open Go.Ab
def qB (c : UInt8) : List UInt8 := if c = 34 ∨ c = 92 then [92, c] else if c.toNat < 32 then [92, 117, 48, 48, hexL.getD (c.toNat / 16) 0, hexL.getD (c.toNat % 16) 0] else [c]
def quoteM (s : List UInt8) : List UInt8 := 34 :: (s.flatMap qB ++ [34])
mutual
def putV : Val → List UInt8
  | .mk k n s l m => if k = 0 then [110, 117, 108, 108] else if k = 1 then boolT (decide (n = 1)) else if k = 2 then Lib.itoa n else if k = 3 then s else if k = 4 then quoteM s
    else if k = 6 then 91 :: (putVs true l ++ [93]) else 123 :: (putMs true m ++ [125])
def putVs : Bool → List Val → List UInt8
  | _, [] => []
  | f, v :: r => (if f then [] else [44]) ++ (putV v ++ putVs false r)
def putM : Mem → List UInt8
  | .mk s v => quoteM s ++ (58 :: putV v)
def putMs : Bool → List Mem → List UInt8
  | _, [] => []
  | f, x :: r => (if f then [] else [44]) ++ (putM x ++ putMs false r)
end
mutual
def singV : Val → Bool
  | .mk k _ _ l m => !(decide (k = 5) || decide (k = 8)) && (singVs l && singMs [] m)
def singVs : List Val → Bool
  | [] => true
  | v :: r => singV v && singVs r
def singM : Mem → Bool
  | .mk _ v => singV v
def singMs : List (List UInt8) → List Mem → Bool
  | _, [] => true
  | ns, x :: r => !(ns.contains (nmM x)) && (singM x && singMs (ns ++ [nmM x]) r)
def nmM : Mem → List UInt8
  | .mk s _ => s
end
def rightV (v : Val) : Bool := goodV v && singV v
def printM (v : Val) : List UInt8 × Bool := if rightV v then (putV v, true) else ([], false)
end Go.Proofs.YtpjafglhdlfnbaaGreatDoor
namespace Go.Proofs.YtpjafglhdlfnbaaGreatDoor
open Go.Ab
theorem u8_ne {c : UInt8} {n : Nat} (hn : n < 256) (h : c ≠ UInt8.ofNat n) : ¬ ((c.toNat : Int) = n) := fun e => by
  have h2 := u8_is c n hn
  rw [e] at h2
  simp at h2
  exact h h2
theorem numeralR (s : List UInt8) (hs : s.length ≤ Lim) : Pure Tryz.prog 125 [.str s] (.tup [.int .i64 (numN s).1, .int .i64 (numN s).2]) := by
  refine Pure.go ir125 ck125 (Nat.le_refl _) fun KP Q hQ => ?_
  have hs' := hs
  simp only [Lim] at hs
  simp (disch := first | omega | assumption) only [ir125, go_sem, ↓reduceIte]
  refine goU_cut (fun i : Nat => [(4, .int .i64 i)]) (fun i H => (i = if s.head? = some 45 then 1 else 0) ∧ H = Heap.emp) (fun J hJ => ?_) ?_
  · cases s with
    | nil =>
      simp (disch := first | omega | assumption) only [go_sem, ↓reduceIte]
      exact goJ (hJ 0 _ ⟨rfl, rfl⟩) (by simp (disch := first | omega | assumption) only [go_sem, ↓reduceIte])
    | cons c t =>
      have hp : (0 : Int) < ((t.length + 1 : Nat) : Int) := by omega
      by_cases h : c = 45
      · have h' : (c.toNat : Int) = 45 := by rw [h]; rfl
        simp (disch := first | omega | assumption) only [hp, h', go_sem, ↓reduceIte]
        exact goJ (hJ 1 _ ⟨by rw [h]; rfl, rfl⟩) (by simp (disch := first | omega | assumption) only [wrap64, go_sem, ↓reduceIte])
      · have h' : ¬ (c.toNat : Int) = 45 := u8_ne (n := 45) (by omega) h
        simp (disch := first | omega | assumption) only [hp, h', go_sem, ↓reduceIte]
        exact goJ (hJ 0 _ ⟨by simp [h], rfl⟩) (by simp (disch := first | omega | assumption) only [go_sem, ↓reduceIte])
  rintro i H ⟨hi, rfl⟩
  have hil : i ≤ s.length := by
    rw [hi]; split
    · rename_i h; cases s <;> simp_all
    · omega
  have hw : wholeN s = if run1 (s.drop i) = 0 then 0 else i + intN (s.drop i) := by
    unfold wholeN
    rw [hi]
    split
    · cases s <;> simp_all
    · simp only [List.drop_zero, Nat.zero_add]
      split
      · rename_i h; simp [intN, h]
      · rfl
  have hrl := run1_le (s.drop i)
  rw [List.length_drop] at hrl
  simp (disch := first | omega | assumption) only [go_sem, ↓reduceIte]
  refine goK_pure (runR s i (by omega) (by omega) hs') ?_
  rw [Int.toNat_natCast]
  by_cases h0 : run1 (s.drop i) = 0
  · have hw0 : wholeN s = 0 := by rw [hw, if_pos h0]
    simp (disch := first | omega | assumption) only [h0, go_sem, ↓reduceIte]
    exact hQ _ _ _ _ nofun rfl (by simp [tupOf, envOf, AV.strip, AV.strip1, numN, hw0])
  have h0' : ¬ ((run1 (s.drop i) : Int) = 0) := by omega
  rw [if_neg h0] at hw
  simp (disch := first | omega | assumption) only [h0', go_sem, ↓reduceIte]
  have hlt : (i : Int) < s.length := by omega
  refine goU_cut (fun k : Nat => [(5, .int .i64 k)]) (fun k H => k = intN (s.drop i) ∧ H = Heap.emp) (fun J hJ => ?_) ?_
  · rcases drop_cases s i with ⟨e1, e2⟩ | ⟨e1, e2⟩
    · rw [e1] at h0; exact absurd rfl h0
    have hg : (s.drop i).getD 0 0 = s.getD i 0 := by rw [e2]; rfl
    by_cases h : s.getD i 0 = 48
    · have h' : ((s.getD i 0).toNat : Int) = 48 := by rw [h]; rfl
      simp (disch := first | omega | assumption) only [hlt, h', go_sem, ↓reduceIte]
      exact goJ (hJ 1 _ ⟨by unfold intN; rw [if_neg h0, hg, if_pos h], rfl⟩) (by simp (disch := first | omega | assumption) only [go_sem, ↓reduceIte])
    · have h' : ¬ ((s.getD i 0).toNat : Int) = 48 := u8_ne (n := 48) (by omega) h
      simp (disch := first | omega | assumption) only [hlt, h', go_sem, ↓reduceIte]
      exact goJ (hJ (run1 (s.drop i)) _ ⟨by unfold intN; rw [if_neg h0, hg, if_neg h], rfl⟩) (by simp (disch := first | omega | assumption) only [go_sem, ↓reduceIte])
  rintro k H ⟨hk, rfl⟩
  subst hk
  have hn0 : wholeN s ≠ 0 := by have := intN_pos h0; omega
  have hwl := wholeN_le s
  have hik : (i : Int) + (intN (s.drop i) : Int) = wholeN s := by omega
  have hnum : numN s = (wholeN s + fracN (s.drop (wholeN s)) + powN (s.drop (wholeN s + fracN (s.drop (wholeN s)))), if fracN (s.drop (wholeN s)) = 0 ∧ powN (s.drop (wholeN s + fracN (s.drop (wholeN s)))) = 0 then 3 else 4) := by
    unfold numN; rw [if_neg hn0]
  generalize wholeN s = n at hn0 hwl hik hnum
  simp (disch := first | omega | assumption) only [wrap64, hik, go_sem, ↓reduceIte]
  refine goU_cut (fun x : Nat × Int => [(4, .int .i64 x.1), (6, .int .i64 x.2)]) (fun x H => x = (n + fracN (s.drop n), if fracN (s.drop n) = 0 then 3 else 4) ∧ H = Heap.emp) (fun J hJ => ?_) ?_
  · simp (disch := first | omega | assumption) only [wrap64, hik, go_sem, ↓reduceIte]
    rcases drop_cases s n with ⟨e1, e2⟩ | ⟨e1, e2⟩
    · have hlt : ¬ (n : Int) < s.length := by omega
      have hf : fracN (s.drop n) = 0 := by simp [fracN, e1]
      simp (disch := first | omega | assumption) only [hlt, go_sem, ↓reduceIte]
      exact goJ (hJ (n, 3) _ ⟨by simp [hf], rfl⟩) (by simp (disch := first | omega | assumption) only [go_sem, ↓reduceIte])
    · have hlt : (n : Int) < s.length := by omega
      by_cases h : s.getD n 0 = 46
      · have hto : ((n : Int) + 1).toNat = n + 1 := by omega
        have hv : ((s.getD n 0).toNat : Int) = 46 := by rw [h]; rfl
        simp (disch := first | omega | assumption) only [hlt, hv, wrap64, go_sem, ↓reduceIte]
        refine goK_pure (runR s (n + 1) (by omega) (by omega) hs') ?_
        rw [hto]
        have hrl2 := run1_le (s.drop (n + 1))
        rw [List.length_drop] at hrl2
        by_cases hr : 0 < run1 (s.drop (n + 1))
        · have hf : fracN (s.drop n) = 1 + run1 (s.drop (n + 1)) := by rw [e2, h]; simp only [fracN, List.head?_cons, List.tail_cons, true_and]; rw [if_pos hr]
          have hr' : (0 : Int) < run1 (s.drop (n + 1)) := by omega
          simp (disch := first | omega | assumption) only [hr', wrap64, go_sem, ↓reduceIte]
          refine goK_pure (runR s (n + 1) (by omega) (by omega) hs') ?_
          rw [hto]
          simp (disch := first | omega | assumption) only [wrap64, go_sem, ↓reduceIte]
          exact goJ (hJ (n + 1 + run1 (s.drop (n + 1)), 4) _ ⟨by rw [hf]; simp; omega, rfl⟩) (by simp (disch := first | omega | assumption) only [Int.natCast_add, Int.natCast_one, go_sem, ↓reduceIte])
        · have hf : fracN (s.drop n) = 0 := by rw [e2, h]; simp only [fracN, List.head?_cons, List.tail_cons, true_and]; rw [if_neg hr]
          have hr' : ¬ (0 : Int) < run1 (s.drop (n + 1)) := by omega
          simp (disch := first | omega | assumption) only [hr', go_sem, ↓reduceIte]
          exact goJ (hJ (n, 3) _ ⟨by simp [hf], rfl⟩) (by simp (disch := first | omega | assumption) only [go_sem, ↓reduceIte])
      · have h' : ¬ ((s.getD n 0).toNat : Int) = 46 := u8_ne (n := 46) (by omega) h
        have hf : fracN (s.drop n) = 0 := by rw [e2]; simp only [fracN, List.head?_cons, Option.some.injEq]; rw [if_neg (fun e => h e.1)]
        simp (disch := first | omega | assumption) only [hlt, h', go_sem, ↓reduceIte]
        exact goJ (hJ (n, 3) _ ⟨by simp [hf], rfl⟩) (by simp (disch := first | omega | assumption) only [go_sem, ↓reduceIte])
  rintro ⟨m, k⟩ H ⟨hx, rfl⟩
  simp only [Prod.mk.injEq] at hx
  obtain ⟨hm, hk⟩ := hx
  have hml : m ≤ s.length := by
    have := fracN_le (s.drop n)
    rw [List.length_drop] at this
    omega
  rw [← hm] at hnum
  simp (disch := first | omega | assumption) only [go_sem, ↓reduceIte]
  refine goU_cut (fun x : Nat × Int => [(4, .int .i64 x.1), (6, .int .i64 x.2)]) (fun x H => x = (m + powN (s.drop m), if powN (s.drop m) = 0 then k else 4) ∧ H = Heap.emp) (fun J hJ => ?_) ?_
  · rcases drop_cases s m with ⟨e1, e2⟩ | ⟨e1, e2⟩
    · have hlt : ¬ (m : Int) < s.length := by omega
      have hp : powN (s.drop m) = 0 := by rw [e1]; rfl
      simp (disch := first | omega | assumption) only [hlt, go_sem, ↓reduceIte]
      exact goJ (hJ (m, k) _ ⟨by simp [hp], rfl⟩) (by simp (disch := first | omega | assumption) only [go_sem, ↓reduceIte])
    · have hlt : (m : Int) < s.length := by omega
      obtain ⟨c, hc⟩ : ∃ c, s.getD m 0 = c := ⟨_, rfl⟩
      rw [hc] at e2
      by_cases h : isE c = true
      · have hE : c = 101 ∨ c = 69 := by simpa [isE] using h
        have hp : powN (s.drop m) = if run1 (s.drop (m + 1 + sgN (s.drop (m + 1)))) = 0 then 0 else 1 + sgN (s.drop (m + 1)) + run1 (s.drop (m + 1 + sgN (s.drop (m + 1)))) := by
          rw [e2]; simp only [powN, h, if_true, List.drop_drop]
        have hto : ((m : Int) + 1).toNat = m + 1 := by omega
        have hm1 : (0 : Int) ≤ (m : Int) + 1 := by omega
        have hsg := sgN_le (s.drop (m + 1))
        rw [List.length_drop] at hsg
        rcases hE with he | he
        case' inl =>
          have hv : (c.toNat : Int) = 101 := by rw [he]; rfl
          simp (disch := first | omega | assumption) only [hlt, hc, hv, wrap64, go_sem, ↓reduceIte]
        case' inr =>
          have hv : (c.toNat : Int) = 69 := by rw [he]; rfl
          have hv2 : ¬ (69 : Int) = 101 := by omega
          simp (disch := first | omega | assumption) only [hlt, hc, hv, hv2, wrap64, go_sem, ↓reduceIte]
        all_goals
          refine goU_cut (fun q : Nat => [(7, .int .i64 q)]) (fun q H => q = m + 1 + sgN (s.drop (m + 1)) ∧ H = Heap.emp) (fun J2 hJ2 => ?_) ?_
          · rcases drop_cases s (m + 1) with ⟨f1, f2⟩ | ⟨f1, f2⟩
            · have hq : ¬ ((m : Int) + 1 < s.length) := by omega
              simp (disch := first | omega | assumption) only [wrap64, hq, go_sem, ↓reduceIte]
              exact goJ (hJ2 (m + 1) _ ⟨by rw [f1]; rfl, rfl⟩) (by simp (disch := first | omega | assumption) only [Int.natCast_add, Int.natCast_one, go_sem, ↓reduceIte])
            · have hq : (m : Int) + 1 < s.length := by omega
              obtain ⟨d, hd⟩ : ∃ d, s.getD (m + 1) 0 = d := ⟨_, rfl⟩
              rw [hd] at f2
              by_cases d43 : d = 43
              · have hv3 : (d.toNat : Int) = 43 := by rw [d43]; rfl
                simp (disch := first | omega | assumption) only [wrap64, hq, hto, hm1, hd, hv3, go_sem, ↓reduceIte]
                exact goJ (hJ2 (m + 1 + 1) _ ⟨by rw [f2, d43]; rfl, rfl⟩) (by simp (disch := first | omega | assumption) only [Int.natCast_add, Int.natCast_one, go_sem, ↓reduceIte])
              · have hv3 : ¬ (d.toNat : Int) = 43 := u8_ne (n := 43) (by omega) d43
                by_cases d45 : d = 45
                · have hv4 : (d.toNat : Int) = 45 := by rw [d45]; rfl
                  have hv5 : ¬ (45 : Int) = 43 := by omega
                  simp (disch := first | omega | assumption) only [wrap64, hq, hto, hm1, hd, hv4, hv5, go_sem, ↓reduceIte]
                  exact goJ (hJ2 (m + 1 + 1) _ ⟨by rw [f2, d45]; rfl, rfl⟩) (by simp (disch := first | omega | assumption) only [Int.natCast_add, Int.natCast_one, go_sem, ↓reduceIte])
                · have hv4 : ¬ (d.toNat : Int) = 45 := u8_ne (n := 45) (by omega) d45
                  simp (disch := first | omega | assumption) only [wrap64, hq, hto, hm1, hd, hv3, hv4, go_sem, ↓reduceIte]
                  exact goJ (hJ2 (m + 1) _ ⟨by rw [f2]; simp [sgN, d43, d45], rfl⟩) (by simp (disch := first | omega | assumption) only [Int.natCast_add, Int.natCast_one, go_sem, ↓reduceIte])
          rintro q H ⟨hq, rfl⟩
          rw [← hq] at hp
          have hql : q ≤ s.length := by omega
          simp (disch := first | omega | assumption) only [go_sem, ↓reduceIte]
          refine goK_pure (runR s q (by omega) (by omega) hs') ?_
          rw [Int.toNat_natCast]
          have hrl3 := run1_le (s.drop q)
          rw [List.length_drop] at hrl3
          by_cases hr : run1 (s.drop q) = 0
          · have hr' : ¬ (0 : Int) < run1 (s.drop q) := by omega
            rw [if_pos hr] at hp
            simp (disch := first | omega | assumption) only [hr', go_sem, ↓reduceIte]
            exact goJ (hJ (m, k) _ ⟨by simp [hp], rfl⟩) (by simp (disch := first | omega | assumption) only [go_sem, ↓reduceIte])
          · have hr' : (0 : Int) < run1 (s.drop q) := by omega
            rw [if_neg hr] at hp
            simp (disch := first | omega | assumption) only [hr', go_sem, ↓reduceIte]
            refine goK_pure (runR s q (by omega) (by omega) hs') ?_
            rw [Int.toNat_natCast]
            simp (disch := first | omega | assumption) only [wrap64, go_sem, ↓reduceIte]
            exact goJ (hJ (q + run1 (s.drop q), 4) _ ⟨by rw [hp]; simp; omega, rfl⟩) (by simp (disch := first | omega | assumption) only [Int.natCast_add, go_sem, ↓reduceIte])
      · have h1 : c ≠ 101 := fun e => h (by simp [isE, e])
        have h2 : c ≠ 69 := fun e => h (by simp [isE, e])
        have hp : powN (s.drop m) = 0 := by rw [e2]; simp [powN, h]
        have h1' : ¬ (c.toNat : Int) = 101 := u8_ne (n := 101) (by omega) h1
        have h2' : ¬ (c.toNat : Int) = 69 := u8_ne (n := 69) (by omega) h2
        simp (disch := first | omega | assumption) only [hlt, hc, h1', h2', go_sem, ↓reduceIte]
        exact goJ (hJ (m, k) _ ⟨by simp [hp], rfl⟩) (by simp (disch := first | omega | assumption) only [go_sem, ↓reduceIte])
  rintro ⟨m2, k2⟩ H ⟨hx, rfl⟩
  simp only [Prod.mk.injEq] at hx
  obtain ⟨hm2, hk2⟩ := hx
  have hfin : numN s = (m2, k2) := by
    rw [hnum, hm2, hk2, hk]
    by_cases a : fracN (s.drop n) = 0 <;> by_cases b : powN (s.drop m) = 0 <;> simp [a, b]
  simp (disch := first | omega | assumption) only [go_sem, ↓reduceIte]
  exact hQ _ _ _ _ nofun rfl (by simp [tupOf, envOf, AV.strip, AV.strip1, hfin])
end Go.Proofs.YtpjafglhdlfnbaaGreatDoor
namespace Go.Proofs.YtpjafglhdlfnbaaGreatDoor
open Go.Ab
theorem NumberR (s : List UInt8) (hs : s.length ≤ Lim) : Pure Tryz.prog 83 [.str s] (.int .i64 (numK s)) := by
  refine Pure.go ir83 ck83 (Nat.le_refl _) fun KP Q hQ => ?_
  simp (disch := first | omega | assumption) only [ir83, go_sem, ↓reduceIte]
  refine goK_pure (numeralR s hs) ?_
  by_cases h : (numN s).1 = s.length
  · have h' : ((numN s).1 : Int) = s.length := by omega
    simp (disch := first | omega | assumption) only [h', go_sem, ↓reduceIte]
    exact hQ _ _ _ _ nofun rfl (by simp [tupOf, envOf, AV.strip, AV.strip1, numK, h])
  · have h' : ¬ ((numN s).1 : Int) = s.length := by omega
    simp (disch := first | omega | assumption) only [h', go_sem, ↓reduceIte]
    exact hQ _ _ _ _ nofun rfl (by simp [tupOf, envOf, AV.strip, AV.strip1, numK, h])
def dg (c : UInt8) : Int := IntKind.u8.wrap ((c.toNat : Int) - 48)
theorem dg_le (c : UInt8) : 0 ≤ dg c ∧ dg c ≤ 255 := by
  unfold dg IntKind.wrap
  simp [IntKind.signed, IntKind.bits]
  omega
theorem dg_digit {c : UInt8} (h : isD c = true) : dg c = (c.toNat : Int) - 48 := by
  simp only [isD, Bool.and_eq_true, decide_eq_true_eq] at h
  unfold dg IntKind.wrap
  simp [IntKind.signed, IntKind.bits]
  omega
def i64N : List UInt8 → Int → Option Int
  | [], a => some a
  | c :: r, a => if a < Int.tdiv (-9223372036854775808 + dg c) 10 then none else i64N r (10 * a - dg c)
theorem step_ok {a d : Int} (h0 : 0 ≤ d) (h1 : d ≤ 255) (ha : -9223372036854775808 ≤ a) (ha2 : a ≤ 0) (h : ¬ a < Int.tdiv (-9223372036854775808 + d) 10) : -9223372036854775808 ≤ 10 * a - d ∧ 10 * a - d ≤ 0 := by
  have e : Int.tdiv (-9223372036854775808 + d) 10 = -((9223372036854775808 - d) / 10) := by
    rw [show (-9223372036854775808 + d) = -(9223372036854775808 - d) by omega, Int.neg_tdiv, Int.tdiv_eq_ediv_of_nonneg (by omega)]
  rw [e] at h
  omega
def i64R (s : List UInt8) : Int × Bool :=
  if s.head? = some 45 then (match i64N s.tail 0 with | some a => (a, true) | none => (0, false))
  else (match i64N s 0 with | some a => if a = -9223372036854775808 then (0, false) else (-a, true) | none => (0, false))
theorem int64R (s : List UInt8) (hs : s.length ≤ Lim) : Pure Tryz.prog 84 [.str s] (.tup [.int .i64 (i64R s).1, .bool (i64R s).2]) := by
  refine Pure.go ir84 ck84 (Nat.le_refl _) fun KP Q hQ => ?_
  simp only [Lim] at hs
  simp (disch := first | omega | assumption) only [ir84, go_sem, ↓reduceIte]
  refine goU_cut (fun x : Nat × Bool => [(4, .int .i64 x.1), (5, .bool x.2)]) (fun x H => x = (if s.head? = some 45 then (1, true) else (0, false)) ∧ H = Heap.emp) (fun J hJ => ?_) ?_
  · cases s with
    | nil =>
      simp (disch := first | omega | assumption) only [go_sem, ↓reduceIte]
      exact goJ (hJ (0, false) _ ⟨rfl, rfl⟩) (by simp (disch := first | omega | assumption) only [go_sem, ↓reduceIte])
    | cons c t =>
      have hp : (0 : Int) < ((t.length + 1 : Nat) : Int) := by omega
      by_cases h : c = 45
      · have h' : (c.toNat : Int) = 45 := by rw [h]; rfl
        simp (disch := first | omega | assumption) only [hp, h', go_sem, ↓reduceIte]
        exact goJ (hJ (1, true) _ ⟨by rw [h]; rfl, rfl⟩) (by simp (disch := first | omega | assumption) only [go_sem, ↓reduceIte])
      · have h' : ¬ (c.toNat : Int) = 45 := u8_ne (n := 45) (by omega) h
        simp (disch := first | omega | assumption) only [hp, h', go_sem, ↓reduceIte]
        exact goJ (hJ (0, false) _ ⟨by simp [h], rfl⟩) (by simp (disch := first | omega | assumption) only [go_sem, ↓reduceIte])
  rintro ⟨n0, neg⟩ H ⟨hx, rfl⟩
  have hn0 : n0 ≤ s.length := by
    split at hx
    · rename_i h
      cases s with
      | nil => simp at h
      | cons c t => cases hx; simp
    · cases hx; omega
  have hR : i64R s = if neg then (match i64N (s.drop n0) 0 with | some a => (a, true) | none => (0, false)) else (match i64N (s.drop n0) 0 with | some a => if a = -9223372036854775808 then (0, false) else (-a, true) | none => (0, false)) := by
    unfold i64R
    split at hx
    · rename_i h
      cases hx
      rw [if_pos h]
      simp
    · rename_i h
      cases hx
      rw [if_neg h]
      simp
  simp (disch := first | omega | assumption) only [go_sem, ↓reduceIte]
  refine goL_st (fun x : Nat × Int => [(4, .int .i64 x.1), (6, .int .i64 x.2)]) (fun x H => i64N (s.drop x.1) x.2 = i64N (s.drop n0) 0 ∧ x.1 ≤ s.length ∧ (-9223372036854775808 ≤ x.2 ∧ x.2 ≤ 0)) (fun x => s.length - x.1) (n0, 0) (by simp (disch := first | omega | assumption) only [go_sem, ↓reduceIte]) ⟨rfl, hn0, by omega, by omega⟩ ?_
  rintro ⟨n, a⟩ H J ⟨hn, hle, ha1, ha2⟩ hJ
  simp only at hn hle ha1 ha2
  rcases drop_cases s n with ⟨e1, e2⟩ | ⟨e1, e2⟩
  · have hlt : ¬ (n : Int) < s.length := by omega
    rw [e1] at hn
    simp only [i64N] at hn
    rw [← hn] at hR
    cases neg with
    | true =>
      simp (disch := first | omega | assumption) only [hlt, go_sem, ↓reduceIte]
      exact hQ _ _ _ _ nofun rfl (by simp [tupOf, envOf, AV.strip, AV.strip1, hR])
    | false =>
      by_cases hm : a = -9223372036854775808
      · simp (disch := first | omega | assumption) only [hlt, hm, go_sem, ↓reduceIte]
        exact hQ _ _ _ _ nofun rfl (by simp [tupOf, envOf, AV.strip, AV.strip1, hR, hm])
      · simp (disch := first | omega | assumption) only [hlt, hm, wrap64, go_sem, ↓reduceIte]
        exact hQ _ _ _ _ nofun rfl (by simp [tupOf, envOf, AV.strip, AV.strip1, hR, hm])
  · have hlt : (n : Int) < s.length := by omega
    obtain ⟨c, hc⟩ : ∃ c, s.getD n 0 = c := ⟨_, rfl⟩
    rw [hc] at e2
    rw [e2] at hn
    simp only [i64N] at hn
    have hd := dg_le c
    have hdg : IntKind.u8.wrap ((c.toNat : Int) - 48) = dg c := rfl
    have he : Int.tdiv (-9223372036854775808 + dg c) 10 = -((9223372036854775808 - dg c) / 10) := by
      rw [show (-9223372036854775808 + dg c) = -(9223372036854775808 - dg c) by omega, Int.neg_tdiv, Int.tdiv_eq_ediv_of_nonneg (by omega)]
    by_cases hb : a < Int.tdiv (-9223372036854775808 + dg c) 10
    · rw [if_pos hb] at hn
      rw [← hn] at hR
      simp (disch := first | omega | assumption) only [hlt, hc, hdg, wrap64, hb, go_sem, ↓reduceIte]
      cases neg with
      | true => exact hQ _ _ _ _ nofun rfl (by simp [tupOf, envOf, AV.strip, AV.strip1, hR])
      | false => exact hQ _ _ _ _ nofun rfl (by simp [tupOf, envOf, AV.strip, AV.strip1, hR])
    · have hst := step_ok hd.1 hd.2 ha1 ha2 hb
      rw [if_neg hb] at hn
      simp (disch := first | omega | assumption) only [hlt, hc, hdg, wrap64, hb, go_sem, ↓reduceIte]
      exact goJ (hJ (n + 1, 10 * a - dg c) _ (by simp only; omega) ⟨hn, by simp only; omega, hst⟩) (by simp (disch := first | omega | assumption) only [Int.natCast_add, Int.natCast_one, go_sem, ↓reduceIte])
def decV (acc : Nat) (l : List UInt8) : Nat := l.foldl (fun a c => a * 10 + (c.toNat - 48)) acc
theorem decV_nil (acc : Nat) : decV acc [] = acc := by unfold decV; rw [List.foldl_nil]
theorem decV_cons (acc : Nat) (c : UInt8) (r : List UInt8) : decV acc (c :: r) = decV (acc * 10 + (c.toNat - 48)) r := by unfold decV; rw [List.foldl_cons]
theorem i64N_cons (c : UInt8) (r : List UInt8) (a : Int) : i64N (c :: r) a = if a < Int.tdiv (-9223372036854775808 + dg c) 10 then none else i64N r (10 * a - dg c) := by rw [i64N]
theorem decV_ge : ∀ (r : List UInt8) (acc : Nat), acc ≤ decV acc r
  | [], acc => by rw [decV_nil]; exact Nat.le_refl _
  | c :: r, acc => by have := decV_ge r (acc * 10 + (c.toNat - 48)); rw [decV_cons]; omega
theorem i64N_digits : ∀ (r : List UInt8) (acc : Nat), (∀ c ∈ r, isD c = true) → acc ≤ 9223372036854775808 → i64N r (-(acc : Int)) = if decV acc r ≤ 9223372036854775808 then some (-(decV acc r : Int)) else none
  | [], acc, _, h => by rw [decV_nil, if_pos h]; rfl
  | c :: r, acc, hd, h => by
    have hc := hd c (by simp)
    have hv := dg_digit hc
    simp only [isD, Bool.and_eq_true, decide_eq_true_eq] at hc
    have he : Int.tdiv (-9223372036854775808 + dg c) 10 = -((9223372036854775808 - dg c) / 10) := by
      rw [show (-9223372036854775808 + dg c) = -(9223372036854775808 - dg c) by omega, Int.neg_tdiv, Int.tdiv_eq_ediv_of_nonneg (by omega)]
    have hg := decV_ge r (acc * 10 + (c.toNat - 48))
    rw [i64N_cons, decV_cons]
    by_cases hb : -(acc : Int) < Int.tdiv (-9223372036854775808 + dg c) 10
    · rw [if_pos hb, if_neg (by omega)]
    · rw [if_neg hb]
      have e : 10 * -(acc : Int) - dg c = -((acc * 10 + (c.toNat - 48) : Nat) : Int) := by omega
      rw [e]
      exact i64N_digits r _ (fun x hx => hd x (by simp [hx])) (by omega)
theorem parse_digits : ∀ (r : List UInt8) (acc : Nat), (∀ c ∈ r, isD c = true) → acc < 18446744073709551616 → Lib.parseUint10 acc r = if decV acc r < 18446744073709551616 then .ok (decV acc r) else .range
  | [], acc, _, h => by rw [decV_nil, if_pos h]; rfl
  | c :: r, acc, hd, h => by
    have hc := hd c (by simp)
    simp only [isD, Bool.and_eq_true, decide_eq_true_eq] at hc
    have hg := decV_ge r (acc * 10 + (c.toNat - 48))
    rw [decV_cons]
    simp only [Lib.parseUint10]
    rw [if_pos hc]
    by_cases h1 : 1844674407370955162 ≤ acc
    · rw [if_pos h1, if_neg (by omega)]
    · rw [if_neg h1]
      by_cases h2 : 18446744073709551616 ≤ acc * 10 + (c.toNat - 48)
      · rw [if_pos h2, if_neg (by omega)]
      · rw [if_neg h2]
        exact parse_digits r _ (fun x hx => hd x (by simp [hx])) (by omega)
theorem run1_full : ∀ l : List UInt8, run1 l = l.length → ∀ c ∈ l, isD c = true
  | [], _, c, hc => by cases hc
  | x :: r, h, c, hc => by
    simp only [run1, List.length_cons] at h
    split at h
    · rename_i hx
      rcases List.mem_cons.1 hc with e | e
      · subst e; exact hx
      · exact run1_full r (by omega) c e
    · omega
theorem intN_full {l : List UInt8} (h : intN l = l.length) (h0 : run1 l ≠ 0) : ∀ c ∈ l, isD c = true := by
  unfold intN at h
  rw [if_neg h0] at h
  split at h
  · apply run1_full
    have := run1_le l
    omega
  · exact run1_full l h
theorem wholeN_neg (t : List UInt8) : wholeN (45 :: t) = if run1 t = 0 then 0 else 1 + intN t := by
  unfold wholeN; exact if_pos rfl
theorem wholeN_pos {s : List UInt8} (h : ¬ s.head? = some 45) : wholeN s = intN s := by
  unfold wholeN; exact if_neg h
theorem num3 {s : List UInt8} (h : numK s = 3) : (∃ t, s = 45 :: t ∧ t ≠ [] ∧ ∀ c ∈ t, isD c = true) ∨ (∃ c t, s = c :: t ∧ ∀ x ∈ s, isD x = true) := by
  unfold numK at h
  split at h
  · rename_i hl
    unfold numN at h hl
    split at h
    · simp at h
    · rename_i hw
      rw [if_neg hw] at hl
      simp only at h hl
      split at h
      · rename_i hfp
        rw [hfp.2, hfp.1] at hl
        simp only [Nat.add_zero] at hl
        by_cases h45 : s.head? = some 45
        · cases s with
          | nil => simp at h45
          | cons c t =>
            have hc : c = 45 := by simpa using h45
            subst hc
            rw [wholeN_neg] at hl hw
            by_cases h0 : run1 t = 0
            · rw [if_pos h0] at hw; omega
            · rw [if_neg h0] at hl
              refine .inl ⟨t, rfl, ?_, intN_full (by simp only [List.length_cons] at hl; omega) h0⟩
              intro e; subst e; exact h0 rfl
        · rw [wholeN_pos h45] at hl hw
          have h0 : run1 s ≠ 0 := fun e => hw (by simp [intN, e])
          cases s with
          | nil => exact absurd rfl h0
          | cons c t => exact .inr ⟨c, t, rfl, intN_full hl h0⟩
      · omega
  · omega
theorem i64R_neg (t : List UInt8) : i64R (45 :: t) = match i64N t 0 with | some a => (a, true) | none => (0, false) := by
  unfold i64R; exact if_pos rfl
theorem i64R_pos {c : UInt8} (t : List UInt8) (h : c ≠ 45) : i64R (c :: t) = match i64N (c :: t) 0 with | some a => if a = -9223372036854775808 then (0, false) else (-a, true) | none => (0, false) := by
  unfold i64R; exact if_neg (fun e => h (by simpa using e))
theorem i64_ok {s : List UInt8} (h : numK s = 3) : (i64R s).2 = okI (Lib.parseIntB 64 s) := by
  rw [Lib.parseIntB_64]
  rcases num3 h with ⟨t, rfl, hne, hd⟩ | ⟨c, t, rfl, hd⟩
  · have h1 := i64N_digits t 0 hd (by omega)
    have h2 := parse_digits t 0 hd (by omega)
    simp only [Int.natCast_zero, Int.neg_zero] at h1
    rw [Lib.atoiAll_minus, i64R_neg, h1]
    unfold Lib.parseMag
    rw [if_neg hne, h2]
    generalize decV 0 t = V
    by_cases a : V ≤ 9223372036854775808
    · rw [if_pos a, if_pos (by omega)]
      simp only [Lib.signed]
      rw [if_neg (by omega)]
      rfl
    · rw [if_neg a]
      by_cases b : V < 18446744073709551616
      · rw [if_pos b]
        simp only [Lib.signed]
        rw [if_pos (by omega)]
        rfl
      · rw [if_neg b]
        rfl
  · have h1 := i64N_digits (c :: t) 0 hd (by omega)
    have h2 := parse_digits (c :: t) 0 hd (by omega)
    have hc := hd c (by simp)
    simp only [isD, Bool.and_eq_true, decide_eq_true_eq] at hc
    have h45 : c ≠ 45 := fun e => by subst e; simp at hc
    simp only [Int.natCast_zero, Int.neg_zero] at h1
    rw [Lib.atoiAll_plain c t (by omega) (by omega), i64R_pos t h45, h1]
    unfold Lib.parseMag
    rw [if_neg (List.cons_ne_nil c t), h2]
    generalize decV 0 (c :: t) = V
    by_cases a : V ≤ 9223372036854775808
    · rw [if_pos a, if_pos (by omega)]
      simp only [Lib.signless]
      by_cases b : V = 9223372036854775808
      · rw [if_pos (by omega), if_pos (by omega)]; rfl
      · rw [if_neg (by omega), if_neg (by omega)]; rfl
    · rw [if_neg a]
      by_cases b : V < 18446744073709551616
      · rw [if_pos b]
        simp only [Lib.signless]
        rw [if_pos (by omega)]
        rfl
      · rw [if_neg b]
        rfl
theorem num_clause (s : List UInt8) : (decide (s ≠ []) && (decide (numK s ≠ 0) && (decide (numK s = 4) || !(i64R s).2))) = numB s := by
  unfold numB wholeB
  by_cases h4 : numK s = 4
  · have hs : s ≠ [] := fun e => by subst e; revert h4; decide
    simp [h4, hs]
  · by_cases h3 : numK s = 3
    · have hs : s ≠ [] := fun e => by subst e; revert h3; decide
      simp [h3, hs, i64_ok h3]
    · have h0 : numK s = 0 := by
        unfold numK at *
        unfold numN at *
        by_cases a : wholeN s = 0
        · simp [a]
        · simp only [a, if_false] at *
          split
          · rename_i e
            rw [if_pos e] at h3 h4
            split at h3 <;> simp_all
          · rfl
      simp [h3, h4, h0]
end Go.Proofs.YtpjafglhdlfnbaaGreatDoor
namespace Go.Proofs.YtpjafglhdlfnbaaGreatDoor
open Go.Ab Go.Lib
structure SdOk (q : Sd) (acc : List UInt8) : Prop where
  ok : q.ok = true
  small : ∀ u ∈ q.u, u < 128
  eq : acc = q.b ++ q.u.map UInt8.ofNat
theorem join_small : ∀ u : List Nat, (∀ x ∈ u, x < 128) → joinM u = some (u.map UInt8.ofNat)
  | [], _ => rfl
  | u :: r, h => by
    have h1 := h u (.head _)
    have h2 := join_small r fun x hx => h x (.tail _ hx)
    have e : encM u = [UInt8.ofNat u] := by unfold encM; rw [if_pos (by omega)]
    cases r with
    | nil => simp only [joinM]; rw [if_neg (by omega), if_neg (by omega), e]; rfl
    | cons v r => rw [joinM, if_neg (by omega), if_neg (by omega), h2, e]; rfl
theorem SdOk.flush {q : Sd} {acc : List UInt8} (h : SdOk q acc) : flushM q = ⟨acc, [], true⟩ := by
  unfold flushM; rw [join_small _ h.small, h.ok, h.eq]; rfl
theorem SdOk.put {q : Sd} {acc : List UInt8} (h : SdOk q acc) (c : UInt8) : SdOk (q.put c) (acc ++ [c]) := by
  unfold Sd.put; rw [h.flush]; exact ⟨rfl, by simp, by simp⟩
theorem SdOk.unit {q : Sd} {acc : List UInt8} (h : SdOk q acc) {u : Nat} (hu : u < 128) : SdOk ⟨q.b, q.u ++ [u], q.ok⟩ (acc ++ [UInt8.ofNat u]) :=
  ⟨h.ok, fun x hx => by rcases List.mem_append.1 hx with e | e; exact h.small x e; simp at e; omega, by rw [h.eq]; simp⟩
theorem unit_low : ∀ x : Fin 32, ∀ t, unitM (48 :: 48 :: hexL.getD (x.val / 16) 0 :: hexL.getD (x.val % 16) 0 :: t) = some x.val := by
  intro x t
  have h0 : hexD 48 = some 0 := by decide
  have h1 : ∀ y : Fin 32, hexD (hexL.getD (y.val / 16) 0) = some (y.val / 16) := by decide
  have h2 : ∀ y : Fin 32, hexD (hexL.getD (y.val % 16) 0) = some (y.val % 16) := by decide
  unfold unitM
  simp only [unitG, h0, h1 x, h2 x]
  congr 1; omega
theorem esc_q {q : Sd} {acc : List UInt8} (h : SdOk q acc) (c : UInt8) (hc : c = 34 ∨ c = 92) (t : List UInt8) : escM q (c :: t) = some (q.put c, t) := by
  rcases hc with rfl | rfl
  · simp only [escM]; rw [if_neg (by decide), if_neg (by decide)]; rfl
  · simp only [escM]; rw [if_neg (by decide), if_neg (by decide)]; rfl
theorem esc_u (q : Sd) (c : UInt8) (hc : c.toNat < 32) (t : List UInt8) : escM q (117 :: 48 :: 48 :: hexL.getD (c.toNat / 16) 0 :: hexL.getD (c.toNat % 16) 0 :: t) = some (⟨q.b, q.u ++ [c.toNat], q.ok⟩, t) := by
  simp only [escM]
  rw [if_pos trivial]
  have := unit_low ⟨c.toNat, hc⟩ t
  simp only at this
  rw [this]; rfl
theorem quoG_q (may : UInt8 → Bool) (hm : ∀ c : UInt8, 32 ≤ c.toNat → may c = true) : ∀ (s : List UInt8) (n : Nat) (q : Sd) (acc t : List UInt8), SdOk q acc → (s.flatMap qB).length < n → ∃ q', quoG may n (s.flatMap qB ++ 34 :: t) q = some (q', t) ∧ q'.ok = true ∧ q'.b = acc ++ s
  | [], n + 1, q, acc, t, h, _ => ⟨flushM q, by simp [quoG], by rw [h.flush], by rw [h.flush]; simp⟩
  | [], 0, q, acc, t, h, hn => by simp at hn
  | c :: s, 0, q, acc, t, h, hn => by simp at hn
  | c :: s, n + 1, q, acc, t, h, hn => by
    rw [List.flatMap_cons] at hn ⊢
    rw [List.append_assoc]
    rw [List.length_append] at hn
    by_cases h1 : c = 34 ∨ c = 92
    · have e : qB c = [92, c] := by unfold qB; rw [if_pos h1]
      rw [e] at hn ⊢
      simp only [List.length_cons, List.length_nil] at hn
      simp only [List.cons_append, List.nil_append, quoG]
      rw [if_neg (by decide), if_pos trivial, esc_q h c h1]
      obtain ⟨q', h2, h3, h4⟩ := quoG_q may hm s n (q.put c) (acc ++ [c]) t (h.put c) (by omega)
      exact ⟨q', h2, h3, by rw [h4]; simp⟩
    · by_cases h2 : c.toNat < 32
      · have e : qB c = [92, 117, 48, 48, hexL.getD (c.toNat / 16) 0, hexL.getD (c.toNat % 16) 0] := by unfold qB; rw [if_neg h1, if_pos h2]
        rw [e] at hn ⊢
        simp only [List.length_cons, List.length_nil] at hn
        simp only [List.cons_append, List.nil_append, quoG]
        rw [if_neg (by decide), if_pos trivial, esc_u q c h2]
        obtain ⟨q', h2', h3, h4⟩ := quoG_q may hm s n _ (acc ++ [UInt8.ofNat c.toNat]) t (h.unit (by omega)) (by omega)
        exact ⟨q', h2', h3, by rw [h4]; simp⟩
      · have e : qB c = [c] := by unfold qB; rw [if_neg h1, if_neg h2]
        rw [e] at hn ⊢
        simp only [List.length_cons, List.length_nil] at hn
        simp only [List.cons_append, List.nil_append, quoG]
        rw [if_neg (fun e => h1 (.inl e)), if_neg (fun e => h1 (.inr e)), if_pos (hm c (by omega))]
        obtain ⟨q', h2', h3, h4⟩ := quoG_q may hm s n (q.put c) (acc ++ [c]) t (h.put c) (by omega)
        exact ⟨q', h2', h3, by rw [h4]; simp⟩
theorem quoM_q (s t : List UInt8) : quoM hiB (s.flatMap qB ++ 34 :: t) = some (s, t) := by
  unfold quoM
  obtain ⟨q', h1, h2, h3⟩ := quoG_q hiB (fun c h => by simp [hiB, h]) s ((s.flatMap qB ++ 34 :: t).length + 1) ⟨[], [], true⟩ [] t ⟨rfl, by simp, rfl⟩ (by simp only [List.length_append, List.length_cons]; omega)
  rw [h1]
  simp only [h2, if_true, h3, List.nil_append]
theorem bk34 : bk 34 = false := by decide
theorem skB_no {c : UInt8} {t : List UInt8} (h : bk c = false) : skB (c :: t) = c :: t := by rw [skB, h]; rfl
theorem textM_q (s t : List UInt8) : textM (quoteM s ++ t) = .ok (s, t) := by
  unfold textM quoteM
  rw [List.cons_append, skB_no bk34, List.append_assoc, if_pos (by simp [List.isPrefixOf])]
  simp only [List.tail_cons, List.cons_append, List.nil_append]
  rw [quoM_q]
theorem nch_D (c : UInt8) : isD c = true → nch c = true := u8_all (P := fun c => isD c = true → nch c = true) (by decide +kernel) c
theorem nch_E (c : UInt8) : isE c = true → nch c = true := u8_all (P := fun c => isE c = true → nch c = true) (by decide +kernel) c
theorem nst_D (c : UInt8) : isD c = true → nst c = true := u8_all (P := fun c => isD c = true → nst c = true) (by decide +kernel) c
theorem nst_other (c : UInt8) : nst c = true → bk c = false ∧ c ≠ 123 ∧ c ≠ 91 ∧ c ≠ 34 ∧ c ≠ 93 ∧ c ≠ 125 ∧ c.toNat < 128 := u8_all (P := fun c => nst c = true → bk c = false ∧ c ≠ 123 ∧ c ≠ 91 ∧ c ≠ 34 ∧ c ≠ 93 ∧ c ≠ 125 ∧ c.toNat < 128) (by decide +kernel) c
theorem nch_low (c : UInt8) : nch c = true → c.toNat < 128 := u8_all (P := fun c => nch c = true → c.toNat < 128) (by decide +kernel) c
theorem run1_take : ∀ (l : List UInt8) (c : UInt8), c ∈ l.take (run1 l) → isD c = true
  | [], c, h => by simp at h
  | x :: l, c, h => by
    rw [run1] at h
    split at h
    · rename_i hx
      rw [List.take_succ_cons] at h
      rcases List.mem_cons.1 h with e | e
      · rw [e]; exact hx
      · exact run1_take l c e
    · simp at h
theorem take_mono {l : List UInt8} {a b : Nat} (h : a ≤ b) {c : UInt8} (hc : c ∈ l.take a) : c ∈ l.take b :=
  (List.take_prefix_take_left h).subset hc
theorem intN_run (s : List UInt8) : intN s ≤ run1 s := by unfold intN; split <;> (try split) <;> omega
theorem intN_take {l : List UInt8} {c : UInt8} (h : c ∈ l.take (intN l)) : isD c = true := run1_take l c (take_mono (intN_run l) h)
theorem wholeN_take {s : List UInt8} {c : UInt8} (h : c ∈ s.take (wholeN s)) : nch c = true := by
  by_cases h45 : s.head? = some 45
  · cases s with
    | nil => simp at h
    | cons x t =>
      have hx : x = 45 := by simpa using h45
      subst hx
      rw [wholeN_neg] at h
      by_cases h0 : run1 t = 0
      · rw [if_pos h0] at h; simp at h
      · rw [if_neg h0, Nat.add_comm, List.take_succ_cons] at h
        rcases List.mem_cons.1 h with e | e
        · rw [e]; decide
        · exact nch_D c (intN_take e)
  · rw [wholeN_pos h45] at h
    exact nch_D c (intN_take h)
theorem fracN_take {s : List UInt8} {c : UInt8} (h : c ∈ s.take (fracN s)) : nch c = true := by
  unfold fracN at h
  split at h
  · rename_i h46
    cases s with
    | nil => simp at h
    | cons x t =>
      have hx : x = 46 := by simpa using h46.1
      subst hx
      simp only [List.tail_cons] at h
      rw [Nat.add_comm, List.take_succ_cons] at h
      rcases List.mem_cons.1 h with e | e
      · rw [e]; decide
      · exact nch_D c (run1_take _ c e)
  · simp at h
theorem whole_head {s : List UInt8} (h : wholeN s ≠ 0) : ∃ c t, s = c :: t ∧ nst c = true := by
  cases s with
  | nil => exact absurd (by decide) h
  | cons c t =>
    refine ⟨c, t, rfl, ?_⟩
    by_cases hc : c = 45
    · rw [hc]; decide
    · rw [wholeN_pos (by simpa using hc)] at h
      apply nst_D
      cases hd : isD c with
      | true => rfl
      | false => exact absurd (by simp [intN, run1, hd]) h
theorem sgN_take {r : List UInt8} {c : UInt8} (h : c ∈ r.take (sgN r)) : nch c = true := by
  unfold sgN at h
  split at h
  · rename_i hs
    cases r with
    | nil => simp at h
    | cons x t =>
      simp only [List.head?_cons, Option.some.injEq] at hs
      simp at h
      subst h
      rcases hs with rfl | rfl <;> decide
  · simp at h
theorem powN_take : ∀ (s : List UInt8) (c : UInt8), c ∈ s.take (powN s) → nch c = true
  | [], c, h => by simp at h
  | x :: r, c, h => by
    rw [powN] at h
    split at h
    · rename_i hx
      split at h
      · simp at h
      · rw [Nat.add_assoc, Nat.add_comm, List.take_succ_cons] at h
        rcases List.mem_cons.1 h with e | e
        · rw [e]; exact nch_E x hx
        · rw [List.take_add] at e
          rcases List.mem_append.1 e with e | e
          · exact sgN_take e
          · exact nch_D c (run1_take _ c e)
    · simp at h
theorem num_text {s : List UInt8} (h : numK s ≠ 0) : (∀ c ∈ s, nch c = true) ∧ ∃ c t, s = c :: t ∧ nst c = true := by
  unfold numK at h
  split at h
  · rename_i hl
    unfold numN at h hl
    split at h
    · exact absurd rfl h
    · rename_i hw
      rw [if_neg hw] at hl
      simp only at hl
      refine ⟨fun c hc => ?_, whole_head hw⟩
      have e : s = s.take (wholeN s + fracN (s.drop (wholeN s)) + powN (s.drop (wholeN s + fracN (s.drop (wholeN s))))) := by rw [hl, List.take_length]
      rw [e, List.take_add, List.take_add] at hc
      rcases List.mem_append.1 hc with hc | hc
      · rcases List.mem_append.1 hc with hc | hc
        · exact wholeN_take hc
        · exact fracN_take hc
      · exact powN_take _ _ hc
  · exact absurd rfl h
def NoN (r : List UInt8) : Prop := ∀ c, r.head? = some c → nch c = false
theorem takeN : ∀ (s r : List UInt8), (∀ c ∈ s, nch c = true) → NoN r → (s ++ r).takeWhile nch = s ∧ (s ++ r).dropWhile nch = r
  | [], [], _, _ => ⟨rfl, rfl⟩
  | [], c :: r, _, h => by
    have := h c rfl
    simp [this]
  | c :: s, r, h, hr => by
    have h1 := takeN s r (fun x hx => h x (.tail _ hx)) hr
    have h2 := h c (.head _)
    simp [h2, h1]
theorem numM_q {s r : List UInt8} (h : numK s ≠ 0) (hr : NoN r) : numM (s ++ r) = .ok (numV s, r) := by
  have h1 := takeN s r (num_text h).1 hr
  unfold numM
  rw [h1.1, h1.2, if_neg h]
theorem dec_isD {u : Nat} {c : UInt8} (h : c ∈ decDigits u) : isD c = true := by
  have := decDigits_mem u c h
  simp [isD, this]
theorem run1_all : ∀ l : List UInt8, (∀ c ∈ l, isD c = true) → run1 l = l.length
  | [], _ => rfl
  | c :: l, h => by
    rw [run1, if_pos (h c (.head _)), run1_all l fun x hx => h x (.tail _ hx)]; rfl
theorem dec_head (u : Nat) : ∃ c t, decDigits u = c :: t ∧ (c = 48 → t = []) := by
  induction u using Nat.strongRecOn with
  | _ u ih =>
    rw [decDigits]
    split
    · exact ⟨_, [], rfl, fun _ => rfl⟩
    · rename_i h
      obtain ⟨c, t, h1, h2⟩ := ih (u / 10) (by omega)
      refine ⟨c, t ++ [UInt8.ofNat (48 + u % 10)], by rw [h1]; rfl, fun e => ?_⟩
      have ht := h2 e
      subst e; subst ht
      rw [decDigits] at h1
      split at h1
      · rename_i h3
        have h4 := congrArg UInt8.toNat (List.cons.inj h1).1
        rw [u8_48 h3] at h4
        have : (48 : UInt8).toNat = 48 := rfl
        omega
      · have := congrArg List.length h1
        have h5 := decDigits_ne (u / 10 / 10)
        cases hd : decDigits (u / 10 / 10) with
        | nil => exact absurd hd h5
        | cons a b => rw [hd] at this; simp at this
theorem dec_intN (u : Nat) : intN (decDigits u) = (decDigits u).length ∧ run1 (decDigits u) ≠ 0 := by
  have h1 := run1_all (decDigits u) fun c hc => dec_isD hc
  obtain ⟨c, t, h2, h3⟩ := dec_head u
  have h4 : run1 (decDigits u) ≠ 0 := by rw [h1, h2]; simp
  refine ⟨?_, h4⟩
  unfold intN
  rw [if_neg h4]
  split
  · rename_i h5
    rw [h2] at h5 ⊢
    rw [h3 (by simpa using h5)]; rfl
  · exact h1
theorem itoa_numK (n : Int) : numK (itoa n) = 3 := by
  have key : ∀ s : List UInt8, wholeN s = s.length → s ≠ [] → numK s = 3 := fun s h h0 => by
    have hl : s.length ≠ 0 := fun e => h0 (List.length_eq_zero_iff.1 e)
    have e1 : fracN ([] : List UInt8) = 0 := by decide
    have hn : numN s = (s.length, 3) := by
      unfold numN
      rw [if_neg (by omega)]
      simp [h, e1, powN]
    unfold numK; rw [hn]; simp
  unfold itoa
  split
  · refine key _ ?_ (by simp)
    rw [wholeN_neg, if_neg (dec_intN _).2, (dec_intN _).1]; simp; omega
  · refine key _ ?_ (decDigits_ne _)
    obtain ⟨c, t, h2, h3⟩ := dec_head n.toNat
    have h5 : ¬ (decDigits n.toNat).head? = some 45 := by
      rw [h2]; simp
      intro e; subst e
      have := decDigits_mem n.toNat 45 (by rw [h2]; simp)
      have e : (45 : UInt8).toNat = 45 := rfl
      omega
    rw [wholeN_pos h5, (dec_intN _).1]
theorem bareM_iff' {n : Int} {s : List UInt8} {l : List Val} {m : List Mem} : bareM n s l m = true ↔ n = 0 ∧ s = [] ∧ l = [] ∧ m = [] := by
  simp [bareM]
inductive JS : Val → Prop
  | null : JS (.mk 0 0 [] [] [])
  | bool (n : Int) (h : n = 0 ∨ n = 1) : JS (.mk 1 n [] [] [])
  | int (n : Int) : JS (.mk 2 n [] [] [])
  | num (s : List UInt8) (h : numB s = true) : JS (.mk 3 0 s [] [])
  | text (s : List UInt8) (h : validD s = true) : JS (.mk 4 0 s [] [])
  | list (l : List Val) (h : allVs validD l = true) (h' : singVs l = true) : JS (.mk 6 0 [] l [])
  | obj (m : List Mem) (h : allMs validD m = true) (h' : singMs [] m = true) : JS (.mk 7 0 [] [] m)
theorem jshape : ∀ v, rightV v = true → JS v
  | .mk k n s l m, h => by
    simp only [rightV, goodV, allV, singV, Bool.and_eq_true, Bool.not_eq_true', Bool.or_eq_false_iff, decide_eq_false_iff_not] at h
    obtain ⟨h, ⟨h5, h8⟩, hl, hm⟩ := h
    split at h
    · rename_i k6
      subst k6
      simp only [Bool.and_eq_true, bareM_iff'] at h
      obtain ⟨h1, rfl, rfl, _, rfl⟩ := h
      exact .list l h1 hl
    · split at h
      · rename_i k7
        subst k7
        simp only [Bool.and_eq_true, bareM_iff'] at h
        obtain ⟨h1, rfl, rfl, rfl, _⟩ := h
        exact .obj m h1 hm
      · simp only [singleM, Bool.and_eq_true, bareM_iff'] at h
        obtain ⟨⟨_, _, rfl, rfl⟩, h⟩ := h
        split at h
        · rename_i k0
          subst k0
          simp only [Bool.and_eq_true, decide_eq_true_eq] at h
          obtain ⟨rfl, rfl⟩ := h
          exact .null
        split at h
        · rename_i k0
          subst k0
          simp only [Bool.and_eq_true, Bool.or_eq_true, decide_eq_true_eq] at h
          obtain ⟨h, rfl⟩ := h
          exact .bool n h
        split at h
        · rename_i k0
          subst k0
          simp only [decide_eq_true_eq] at h
          subst h
          exact .int n
        split at h
        · rename_i k0
          subst k0
          simp only [Bool.and_eq_true, decide_eq_true_eq] at h
          obtain ⟨rfl, h⟩ := h
          exact .num s h
        split at h
        · rename_i k0
          subst k0
          simp only [Bool.and_eq_true, decide_eq_true_eq] at h
          obtain ⟨rfl, h⟩ := h
          exact .text s h
        · cases h
theorem numB_ne {s : List UInt8} (h : numB s = true) : numK s ≠ 0 ∧ wholeB s = false := by
  simp only [numB, Bool.or_eq_true, decide_eq_true_eq, Bool.and_eq_true, Bool.not_eq_true'] at h
  rcases h with h | ⟨h, h2⟩
  · exact ⟨by omega, by simp [wholeB, h]⟩
  · exact ⟨by omega, h2⟩
theorem itoa_whole {n : Int} (h : inR n) : wholeB (itoa n) = true ∧ valI (itoa n) = n := by
  have h1 := parse_itoa n h.1 h.2
  exact ⟨by simp [wholeB, h1, okI, itoa_numK], by simp [valI, h1]⟩
theorem valM_hd {k : Nat} {c : UInt8} {t : List UInt8} (h0 : bk c = false) (h1 : c ≠ 123) (h2 : c ≠ 91) : ∃ p, valM k (c :: t) = headM (c :: t) p := by
  cases k with
  | zero => exact ⟨deepM, by simp only [valM, skB_no h0]; rw [if_neg (by simp [h1, h2])]⟩
  | succ n => exact ⟨valM n, by simp only [valM, skB_no h0]⟩
theorem put_head {v : Val} (h : rightV v = true) : ∃ c t, putV v = c :: t ∧ bk c = false ∧ c ≠ 93 ∧ c ≠ 125 ∧ c ≠ 44 := by
  cases jshape v h with
  | null => exact ⟨110, [117, 108, 108], by simp [putV], by decide, by decide, by decide, by decide⟩
  | bool n h1 =>
    rcases h1 with rfl | rfl
    · exact ⟨102, [97, 108, 115, 101], by simp [putV, boolT], by decide, by decide, by decide, by decide⟩
    · exact ⟨116, [114, 117, 101], by simp [putV, boolT], by decide, by decide, by decide, by decide⟩
  | int n =>
    obtain ⟨c, t, h1, h2⟩ := (num_text (s := itoa n) (by rw [itoa_numK]; decide)).2
    have h3 := nst_other c h2
    refine ⟨c, t, by simpa [putV] using h1, h3.1, h3.2.2.2.2.1, h3.2.2.2.2.2.1, fun e => ?_⟩
    subst e; revert h2; decide
  | num s hb =>
    obtain ⟨c, t, h1, h2⟩ := (num_text (numB_ne hb).1).2
    have h3 := nst_other c h2
    refine ⟨c, t, by simpa [putV] using h1, h3.1, h3.2.2.2.2.1, h3.2.2.2.2.2.1, fun e => ?_⟩
    subst e; revert h2; decide
  | text s hb => exact ⟨34, s.flatMap qB ++ [34], by simp [putV, quoteM], by decide, by decide, by decide, by decide⟩
  | list l h1 h2 => exact ⟨91, putVs true l ++ [93], by simp [putV], by decide, by decide, by decide, by decide⟩
  | obj m h1 h2 => exact ⟨123, putMs true m ++ [125], by simp [putV], by decide, by decide, by decide, by decide⟩
theorem mayM_no {x c : UInt8} {t : List UInt8} (h : bk c = false) (hx : x ≠ c) : mayM [x] (c :: t) = none := by
  unfold mayM; rw [skB_no h, if_neg (by simp [List.isPrefixOf, hx])]
theorem mayM_yes {c : UInt8} {t : List UInt8} (h : bk c = false) : mayM [c] (c :: t) = some t := by
  unfold mayM; rw [skB_no h, if_pos (by simp [List.isPrefixOf])]; rfl
theorem mustM_yes {c : UInt8} {t : List UInt8} (h : bk c = false) : mustM [c] (c :: t) = .ok ((), t) := by
  unfold mustM; rw [mayM_yes h]
theorem depthVs_iff (n : Int) : ∀ (l : List Val) (a : Int), (depthVs l a ≤ n ↔ a ≤ n ∧ ∀ v ∈ l, depthV v ≤ n)
  | [], a => by simp [depthVs]
  | v :: l, a => by
    rw [depthVs, depthVs_iff n l]
    have : mm2 true a (depthV v) ≤ n ↔ a ≤ n ∧ depthV v ≤ n := by simp only [mm2, if_true]; split <;> omega
    rw [this]; simp [and_assoc]
theorem depthMs_iff (n : Int) : ∀ (l : List Mem) (a : Int), (depthMs l a ≤ n ↔ a ≤ n ∧ ∀ v ∈ l, depthM v ≤ n)
  | [], a => by simp [depthMs]
  | v :: l, a => by
    rw [depthMs, depthMs_iff n l]
    have : mm2 true a (depthM v) ≤ n ↔ a ≤ n ∧ depthM v ≤ n := by simp only [mm2, if_true]; split <;> omega
    rw [this]; simp [and_assoc]
theorem NoN_cons {c : UInt8} {t : List UInt8} (h : nch c = false) : NoN (c :: t) := fun x hx => by
  cases hx; exact h
theorem hasN_iff (s : List UInt8) : ∀ l : List Mem, hasN s l = (l.map nmM).contains s
  | [] => rfl
  | .mk t v :: l => by
    rw [hasN, hasN_iff s l]
    by_cases h : t = s
    · simp [h, nmM]
    · simp [h, nmM, Ne.symm h]
def BackV (n : Nat) (v : Val) : Prop := ∀ r, NoN r → valM n (putV v ++ r) = if depthV v ≤ n then .ok (v, r) else .error 4
theorem items_back (n : Nat) : ∀ (l acc : List Val) (fuel : Nat) (r : List UInt8), (∀ v ∈ l, BackV n v) → (putVs false l).length < fuel →
    itemsM (valM n) fuel acc (putVs false l ++ 93 :: r) = if (∀ v ∈ l, depthV v ≤ n) then .ok (acc ++ l, r) else .error 4
  | _, _, 0, _, _, h => by omega
  | [], acc, fuel + 1, r, _, _ => by
    simp only [putVs, List.nil_append, itemsM, mayM_yes (show bk 93 = false by decide)]
    simp
  | v :: l, acc, fuel + 1, r, hv, hf => by
    have hf' : (putVs false l).length < fuel := by
      simp only [putVs, Bool.false_eq_true, if_false, List.length_append, List.length_cons, List.length_nil] at hf; omega
    have e : putVs false (v :: l) ++ 93 :: r = 44 :: (putV v ++ (putVs false l ++ 93 :: r)) := by simp [putVs]
    have hN : NoN (putVs false l ++ 93 :: r) := by
      cases l with
      | nil => exact NoN_cons (by decide)
      | cons w l => exact NoN_cons (by decide)
    rw [e, itemsM, mayM_no (show bk 44 = false by decide) (by decide)]
    simp only [mustM_yes (show bk 44 = false by decide), RR.bind, hv v (.head _) _ hN]
    by_cases hd : depthV v ≤ n
    · rw [if_pos hd]
      simp only
      rw [items_back n l (acc ++ [v]) fuel r (fun x hx => hv x (.tail _ hx)) hf']
      simp [hd]
    · rw [if_neg hd]
      rw [if_neg (fun h => hd (h v (.head _)))]
theorem list_back (n : Nat) (l : List Val) (r : List UInt8) (hv : ∀ v ∈ l, BackV n v) (hh : ∀ v ∈ l, rightV v = true) :
    listM (valM n) (putVs true l ++ 93 :: r) = if (∀ v ∈ l, depthV v ≤ n) then .ok (.mk 6 0 [] l [], r) else .error 4 := by
  cases l with
  | nil => simp only [putVs, List.nil_append, listM, mayM_yes (show bk 93 = false by decide)]; simp
  | cons v l =>
    have e : putVs true (v :: l) ++ 93 :: r = putV v ++ (putVs false l ++ 93 :: r) := by simp [putVs]
    have hN : NoN (putVs false l ++ 93 :: r) := by
      cases l with
      | nil => exact NoN_cons (by decide)
      | cons w l => exact NoN_cons (by decide)
    obtain ⟨c, t, h1, h2, h3, h4⟩ := put_head (hh v (.head _))
    have hm : mayM [93] (putV v ++ (putVs false l ++ 93 :: r)) = none := by rw [h1]; exact mayM_no h2 (Ne.symm h3)
    rw [e, listM, hm]
    simp only [RR.bind, hv v (.head _) _ hN]
    by_cases hd : depthV v ≤ n
    · rw [if_pos hd]
      simp only
      rw [items_back n l [v] _ r (fun x hx => hv x (.tail _ hx)) (by simp only [List.length_append, List.length_cons]; omega)]
      by_cases ha : ∀ v ∈ l, depthV v ≤ n
      · rw [if_pos ha, if_pos (fun x hx => by rcases List.mem_cons.1 hx with e | e; exact e ▸ hd; exact ha x e)]
        rfl
      · rw [if_neg ha, if_neg (fun h => ha fun x hx => h x (.tail _ hx))]
    · rw [if_neg hd]
      rw [if_neg (fun h => hd (h v (.head _)))]
theorem member_back {n : Nat} {s : List UInt8} {v : Val} {acc : List Mem} {r : List UInt8} (hv : BackV n v) (hr : NoN r) (hs : (acc.map nmM).contains s = false) :
    memberM (valM n) acc (putM (.mk s v) ++ r) = if depthV v ≤ n then .ok (acc ++ [.mk s v], r) else .error 4 := by
  have e : putM (.mk s v) ++ r = quoteM s ++ (58 :: (putV v ++ r)) := by simp [putM]
  rw [e, memberM, textM_q]
  simp only [RR.bind]
  rw [hasN_iff, hs]
  simp only [Bool.false_eq_true, if_false, mustM_yes (show bk 58 = false by decide), hv r hr]
  by_cases hd : depthV v ≤ n
  · rw [if_pos hd, if_pos hd]
  · rw [if_neg hd, if_neg hd]
theorem members_back (n : Nat) : ∀ (l acc : List Mem) (fuel : Nat) (r : List UInt8), (∀ s v, Mem.mk s v ∈ l → BackV n v) → singMs (acc.map nmM) l = true → (putMs false l).length < fuel →
    membersM (valM n) fuel acc (putMs false l ++ 125 :: r) = if (∀ x ∈ l, depthM x ≤ n) then .ok (acc ++ l, r) else .error 4
  | _, _, 0, _, _, _, h => by omega
  | [], acc, fuel + 1, r, _, _, _ => by
    simp only [putMs, List.nil_append, membersM, mayM_yes (show bk 125 = false by decide)]
    simp
  | .mk s v :: l, acc, fuel + 1, r, hv, hs, hf => by
    have hf' : (putMs false l).length < fuel := by
      simp only [putMs, Bool.false_eq_true, if_false, List.length_append, List.length_cons, List.length_nil] at hf; omega
    have e : putMs false (.mk s v :: l) ++ 125 :: r = 44 :: (putM (.mk s v) ++ (putMs false l ++ 125 :: r)) := by simp [putMs]
    have hN : NoN (putMs false l ++ 125 :: r) := by
      cases l with
      | nil => exact NoN_cons (by decide)
      | cons w l => exact NoN_cons (by decide)
    simp only [singMs, nmM, Bool.and_eq_true, Bool.not_eq_true'] at hs
    obtain ⟨hs1, _, hs2⟩ := hs
    rw [e, membersM, mayM_no (show bk 44 = false by decide) (by decide)]
    simp only [mustM_yes (show bk 44 = false by decide), RR.bind, member_back (hv s v (.head _)) hN hs1]
    by_cases hd : depthV v ≤ n
    · rw [if_pos hd]
      simp only
      rw [members_back n l (acc ++ [Mem.mk s v]) fuel r (fun s v hx => hv s v (.tail _ hx)) (by simpa [nmM] using hs2) hf']
      simp [hd, depthM]
    · rw [if_neg hd]
      rw [if_neg (fun h => hd (by have := h _ (.head _); simpa [depthM] using this))]
theorem map_back (n : Nat) (l : List Mem) (r : List UInt8) (hv : ∀ s v, Mem.mk s v ∈ l → BackV n v) (hs : singMs [] l = true) :
    mapM (valM n) (putMs true l ++ 125 :: r) = if (∀ x ∈ l, depthM x ≤ n) then .ok (.mk 7 0 [] [] l, r) else .error 4 := by
  cases l with
  | nil => simp only [putMs, List.nil_append, mapM, mayM_yes (show bk 125 = false by decide)]; simp
  | cons x l =>
    obtain ⟨s, v⟩ := x
    have e : putMs true (.mk s v :: l) ++ 125 :: r = putM (.mk s v) ++ (putMs false l ++ 125 :: r) := by simp [putMs]
    have hN : NoN (putMs false l ++ 125 :: r) := by
      cases l with
      | nil => exact NoN_cons (by decide)
      | cons w l => exact NoN_cons (by decide)
    simp only [singMs, nmM, Bool.and_eq_true, Bool.not_eq_true', List.nil_append] at hs
    obtain ⟨hs1, _, hs2⟩ := hs
    have hm : mayM [125] (putM (.mk s v) ++ (putMs false l ++ 125 :: r)) = none := mayM_no (c := 34) (by decide) (by decide)
    rw [e, mapM, hm]
    simp only [RR.bind, member_back (acc := []) (hv s v (.head _)) hN rfl]
    by_cases hd : depthV v ≤ n
    · rw [if_pos hd]
      simp only
      rw [members_back n l ([] ++ [Mem.mk s v]) _ r (fun s v hx => hv s v (.tail _ hx)) (by simpa [nmM] using hs2) (by simp only [List.length_append, List.length_cons]; omega)]
      by_cases ha : ∀ v ∈ l, depthM v ≤ n
      · rw [if_pos ha, if_pos (fun x hx => by rcases List.mem_cons.1 hx with e | e; rw [e]; exact hd; exact ha x e)]
        rfl
      · rw [if_neg ha, if_neg (fun h => ha fun x hx => h x (.tail _ hx))]
    · rw [if_neg hd]
      rw [if_neg (fun h => hd (by have := h _ (.head _); simpa [depthM] using this))]
theorem right_items : ∀ {l : List Val}, allVs validD l = true → singVs l = true → ∀ v ∈ l, rightV v = true
  | v :: l, h, h', x, hx => by
    simp only [allVs, singVs, Bool.and_eq_true] at h h'
    rcases List.mem_cons.1 hx with e | e
    · subst e; simp [rightV, goodV, h.1, h'.1]
    · exact right_items h.2 h'.2 x e
theorem right_mems : ∀ {l : List Mem} {ns : List (List UInt8)}, allMs validD l = true → singMs ns l = true → ∀ s v, Mem.mk s v ∈ l → validD s = true ∧ rightV v = true
  | .mk t w :: l, ns, h, h', s, v, hx => by
    simp only [allMs, allM, singMs, singM, nmM, Bool.and_eq_true] at h h'
    rcases List.mem_cons.1 hx with e | e
    · cases e; exact ⟨h.1.1, by simp [rightV, goodV, h.1.2, h'.2.1]⟩
    · exact right_mems h.2 h'.2.2 s v e
theorem word_null (r : List UInt8) (p) : headM (110 :: 117 :: 108 :: 108 :: r) p = .ok (nullV, r) := by
  simp only [headM]
  rw [if_neg (by decide), if_neg (by decide), if_neg (by decide), if_neg (by decide)]
  simp only [wordM, mayM, skB_no (show bk 110 = false by decide)]
  rw [if_pos (by simp [List.isPrefixOf])]; rfl
theorem word_bool (b : Bool) (r : List UInt8) (p) : headM (boolT b ++ r) p = .ok (.mk 1 (if b then 1 else 0) [] [] [], r) := by
  cases b
  · simp only [boolT, Bool.false_eq_true, if_false, List.cons_append, List.nil_append, headM]
    rw [if_neg (by decide), if_neg (by decide), if_neg (by decide), if_neg (by decide)]
    simp only [wordM, mustM, mayM, skB_no (show bk 102 = false by decide)]
    rw [if_neg (by simp [List.isPrefixOf]), if_neg (by simp [List.isPrefixOf]), if_pos (by simp [List.isPrefixOf])]; rfl
  · simp only [boolT, if_true, List.cons_append, List.nil_append, headM]
    rw [if_neg (by decide), if_neg (by decide), if_neg (by decide), if_neg (by decide)]
    simp only [wordM, mustM, mayM, skB_no (show bk 116 = false by decide)]
    rw [if_neg (by simp [List.isPrefixOf]), if_pos (by simp [List.isPrefixOf])]; rfl
theorem headM_num {c : UInt8} {t : List UInt8} (h : nst c = true) (p) : headM (c :: t) p = numM (c :: t) := by
  have h3 := nst_other c h
  simp only [headM]
  rw [if_neg h3.2.1, if_neg h3.2.2.1, if_neg h3.2.2.2.1, if_pos h]
theorem back : ∀ v, rightV v = true → wfV v → ∀ n, BackV n v := by
  refine Val.ind fun k n s l m ihl ihm h hwf q r hr => ?_
  obtain ⟨hn, hwl, hwm⟩ := hwf
  have flat : ∀ {v : Val}, depthV v = 0 → depthV v ≤ (q : Int) := fun e => by rw [e]; omega
  generalize hv : Val.mk k n s l m = v at h
  cases jshape v h with
  | null =>
    rw [if_pos (flat (by simp [depthV]))]
    have e : putV (.mk 0 0 [] [] []) ++ r = 110 :: 117 :: 108 :: 108 :: r := by simp [putV]
    rw [e]
    obtain ⟨p, hp⟩ := valM_hd (k := q) (c := 110) (t := 117 :: 108 :: 108 :: r) (by decide) (by decide) (by decide)
    rw [hp, word_null]; rfl
  | bool b hb =>
    rw [if_pos (flat (by simp [depthV]))]
    have e : putV (.mk 1 b [] [] []) ++ r = boolT (decide (b = 1)) ++ r := by simp [putV]
    rw [e]
    have h1 := word_bool (decide (b = 1)) r
    have e1 : (if decide (b = 1) = true then (1 : Int) else 0) = b := by rcases hb with rfl | rfl <;> decide
    rw [e1] at h1
    rcases hb with rfl | rfl
    · obtain ⟨p, hp⟩ := valM_hd (k := q) (c := 102) (t := 97 :: 108 :: 115 :: 101 :: r) (by decide) (by decide) (by decide)
      exact hp.trans (h1 p)
    · obtain ⟨p, hp⟩ := valM_hd (k := q) (c := 116) (t := 114 :: 117 :: 101 :: r) (by decide) (by decide) (by decide)
      exact hp.trans (h1 p)
  | int b =>
    rw [if_pos (flat (by simp [depthV]))]
    have e : putV (.mk 2 b [] [] []) ++ r = itoa b ++ r := by simp [putV]
    rw [e]
    have hb : inR b := by cases hv; exact hn
    have h0 : numK (itoa b) ≠ 0 := by rw [itoa_numK]; decide
    have h1 := numM_q h0 hr
    obtain ⟨c, t, h2, h3⟩ := (num_text h0).2
    have h4 := nst_other c h3
    rw [h2] at h1 ⊢
    obtain ⟨p, hp⟩ := valM_hd (k := q) (c := c) (t := t ++ r) h4.1 h4.2.1 h4.2.2.1
    rw [List.cons_append] at h1 ⊢
    rw [hp, headM_num h3, h1, ← h2]
    simp [numV, itoa_whole hb]
  | num s hs =>
    rw [if_pos (flat (by simp [depthV]))]
    have e : putV (.mk 3 0 s [] []) ++ r = s ++ r := by simp [putV]
    rw [e]
    have h0 := numB_ne hs
    have h1 := numM_q h0.1 hr
    obtain ⟨c, t, h2, h3⟩ := (num_text h0.1).2
    have h4 := nst_other c h3
    have e2 : numV s = .mk 3 0 s [] [] := by simp [numV, h0.2]
    rw [e2] at h1
    subst h2
    obtain ⟨p, hp⟩ := valM_hd (k := q) (c := c) (t := t ++ r) h4.1 h4.2.1 h4.2.2.1
    rw [List.cons_append] at h1 ⊢
    rw [hp, headM_num h3, h1]
  | text s hs =>
    rw [if_pos (flat (by simp [depthV]))]
    have e : putV (.mk 4 0 s [] []) ++ r = quoteM s ++ r := by simp [putV]
    rw [e]
    have h1 := textM_q s r
    have e2 : quoteM s ++ r = 34 :: (s.flatMap qB ++ [34] ++ r) := by simp [quoteM]
    rw [e2] at h1 ⊢
    obtain ⟨p, hp⟩ := valM_hd (k := q) (c := 34) (t := s.flatMap qB ++ [34] ++ r) (by decide) (by decide) (by decide)
    rw [hp]
    simp only [headM]
    rw [if_neg (by decide), if_neg (by decide), if_pos trivial, h1]; rfl
  | list l' h1 h2 =>
    cases hv
    have e : putV (.mk 6 0 [] l []) ++ r = 91 :: (putVs true l ++ 93 :: r) := by simp [putV]
    have ed : depthV (.mk 6 0 [] l []) = depthVs l 0 + 1 := by simp [depthV]
    rw [e, ed]
    have h3 := right_items h1 h2
    have h4 := (depthVs_iff 0 l 0)
    cases q with
    | zero =>
      have h5 : (0 : Int) ≤ depthVs l 0 := (depthVs_le l 0).1
      rw [if_neg (by simp; omega)]
      simp only [valM, skB_no (show bk 91 = false by decide)]
      rw [if_pos (by simp)]
    | succ q =>
      simp only [valM, skB_no (show bk 91 = false by decide), headM]
      rw [if_neg (by decide), if_pos trivial, list_back q l r (fun v hx => ihl v hx (h3 v hx) (wfVs_mem hwl v hx) q) h3]
      have h5 := depthVs_iff (q : Int) l 0
      by_cases ha : ∀ v ∈ l, depthV v ≤ (q : Int)
      · rw [if_pos ha, if_pos (by have := h5.2 ⟨by omega, ha⟩; simp; omega)]
      · rw [if_neg ha, if_neg (fun h6 => ha (h5.1 (by simp at h6; omega)).2)]
  | obj l' h1 h2 =>
    cases hv
    have e : putV (.mk 7 0 [] [] m) ++ r = 123 :: (putMs true m ++ 125 :: r) := by simp [putV]
    have ed : depthV (.mk 7 0 [] [] m) = depthMs m 0 + 1 := by simp [depthV]
    rw [e, ed]
    have h3 := right_mems h1 h2
    cases q with
    | zero =>
      have h5 : (0 : Int) ≤ depthMs m 0 := (depthMs_le m 0).1
      rw [if_neg (by simp; omega)]
      simp only [valM, skB_no (show bk 123 = false by decide)]
      rw [if_pos (by simp)]
    | succ q =>
      simp only [valM, skB_no (show bk 123 = false by decide), headM]
      rw [if_pos trivial, map_back q m r (fun s v hx => ihm s v hx (h3 s v hx).2 (wfMs_mem hwm s v hx) q) h2]
      have h5 := depthMs_iff (q : Int) m 0
      by_cases ha : ∀ v ∈ m, depthM v ≤ (q : Int)
      · rw [if_pos ha, if_pos (by have := h5.2 ⟨by omega, ha⟩; simp; omega)]
      · rw [if_neg ha, if_neg (fun h6 => ha (h5.1 (by simp at h6; omega)).2)]
theorem low_valid {s : List UInt8} (h : ∀ c ∈ s, c.toNat < 128) : validD s = true := by
  have := validD_ascii s.length s (fun b hb => h b (List.mem_of_mem_take hb))
  rw [this, List.drop_length]; rfl
theorem qB_high {c : UInt8} (h : 128 ≤ c.toNat) : qB c = [c] := by
  unfold qB
  rw [if_neg (fun e => by rcases e with rfl | rfl <;> revert h <;> decide), if_neg (by omega)]
theorem qB_flat : ∀ {s : List UInt8}, (∀ c ∈ s, 128 ≤ c.toNat) → s.flatMap qB = s
  | [], _ => rfl
  | c :: s, h => by rw [List.flatMap_cons, qB_high (h c (.head _)), qB_flat fun x hx => h x (.tail _ hx)]; rfl
theorem qB_lowT : ∀ x : Fin 256, x.val < 128 → ∀ c ∈ qB (UInt8.ofNat x.val), c.toNat < 128 := by decide +kernel
theorem qB_low {x : UInt8} (h : x.toNat < 128) : ∀ c ∈ qB x, c.toNat < 128 := by
  have := qB_lowT ⟨x.toNat, x.toNat_lt⟩ h
  simpa using this
theorem flat_valid : ∀ (n : Nat) (s : List UInt8), s.length ≤ n → validD s = true → validD (s.flatMap qB) = true
  | _, [], _, _ => rfl
  | 0, x :: t, h, _ => by simp at h
  | n + 1, x :: t, h, hv => by
    by_cases hx : x.toNat < 128
    · rw [validD_cons x t hx] at hv
      rw [List.flatMap_cons]
      exact validA2 (low_valid (qB_low hx)) (flat_valid n t (by simpa using h) hv)
    · have h0 : 128 ≤ ((x :: t).getD 0 0).toNat := by simp; omega
      have hv0 := hv
      rw [validD_lead (x :: t) (by simp) h0] at hv
      split at hv
      · cases hv
      · rename_i k hk
        obtain ⟨k2, k4, kl, ks, klo, k3, k4', kall⟩ := check_some hk
        have hkl : k ≤ (x :: t).length := kl
        have hlo := lo_ge ((x :: t).getD 0 0).toNat_lt (by omega) (by omega)
        have e : x :: t = (x :: t).take k ++ (x :: t).drop k := (List.take_append_drop ..).symm
        have hl : ((x :: t).take k).length = k := by rw [List.length_take]; omega
        have hg : ∀ i, i < k → ((x :: t).take k).getD i 0 = (x :: t).getD i 0 := fun i hi => by
          simp only [List.getD]; rw [List.getElem?_take_of_lt hi]
        have hhigh : ∀ c ∈ (x :: t).take k, 128 ≤ c.toNat := fun c hc => by
          obtain ⟨i, hi, rfl⟩ := List.getElem_of_mem hc
          rw [hl] at hi
          have e2 : ((x :: t).take k)[i] = (x :: t).getD i 0 := by rw [← hg i hi]; simp [List.getD, hl, hi]
          rw [e2]
          have : i = 0 ∨ i = 1 ∨ i = 2 ∨ i = 3 := by omega
          rcases this with rfl | rfl | rfl | rfl
          · exact h0
          · omega
          · exact k3 (by omega)
          · exact k4' (by omega)
        have hval : validD ((x :: t).take k) = true := by
          have hne : (x :: t).take k ≠ [] := fun e => by rw [e] at hl; simp at hl; omega
          rw [validD_lead _ hne (by rw [hg 0 (by omega)]; exact h0), hg 0 (by omega), hg 1 (by omega)]
          rw [kall ((x :: t).take k).length _ _ (by omega) (fun h3 => by rw [hg 2 (by omega)]) (fun h3 => by rw [hg 3 (by omega)])]
          simp only
          rw [List.drop_eq_nil_of_le (by omega)]; rfl
        rw [e, List.flatMap_append, qB_flat hhigh]
        exact validA2 hval (flat_valid n _ (by rw [List.length_drop]; omega) hv)
theorem quote_valid {s : List UInt8} (h : validD s = true) : validD (quoteM s) = true := by
  unfold quoteM
  rw [validD_cons _ _ (by decide)]
  exact validA2 (flat_valid s.length s (Nat.le_refl _) h) rfl
theorem putVs_valid : ∀ (l : List Val) (f : Bool), (∀ v ∈ l, validD (putV v) = true) → validD (putVs f l) = true
  | [], _, _ => rfl
  | v :: l, f, h => by
    simp only [putVs]
    refine validA2 ?_ (validA2 (h v (.head _)) (putVs_valid l false fun x hx => h x (.tail _ hx)))
    cases f <;> rfl
theorem putMs_valid : ∀ (l : List Mem) (f : Bool), (∀ s v, Mem.mk s v ∈ l → validD s = true ∧ validD (putV v) = true) → validD (putMs f l) = true
  | [], _, _ => rfl
  | .mk s v :: l, f, h => by
    simp only [putMs, putM]
    refine validA2 ?_ (validA2 (validA2 (quote_valid (h s v (.head _)).1) ?_) (putMs_valid l false fun s v hx => h s v (.tail _ hx)))
    · cases f <;> rfl
    · rw [validD_cons _ _ (by decide)]; exact (h s v (.head _)).2
theorem put_valid : ∀ v, rightV v = true → validD (putV v) = true := by
  refine Val.ind fun k n s l m ihl ihm h => ?_
  generalize hv : Val.mk k n s l m = v at h
  cases jshape v h with
  | null => simp only [putV]; exact low_valid (by simp [putV])
  | bool b hb => rcases hb with rfl | rfl <;> exact low_valid (by decide)
  | int b =>
    have : putV (.mk 2 b [] [] []) = itoa b := by simp [putV]
    rw [this]
    exact low_valid fun c hc => nch_low c ((num_text (by rw [itoa_numK]; decide)).1 c hc)
  | num s hs =>
    have : putV (.mk 3 0 s [] []) = s := by simp [putV]
    rw [this]
    exact low_valid fun c hc => nch_low c ((num_text (numB_ne hs).1).1 c hc)
  | text s hs =>
    have : putV (.mk 4 0 s [] []) = quoteM s := by simp [putV]
    rw [this]; exact quote_valid hs
  | list l' h1 h2 =>
    cases hv
    have : putV (.mk 6 0 [] l []) = 91 :: (putVs true l ++ [93]) := by simp [putV]
    rw [this, validD_cons _ _ (by decide)]
    exact validA2 (putVs_valid l true fun v hx => ihl v hx (right_items h1 h2 v hx)) rfl
  | obj l' h1 h2 =>
    cases hv
    have : putV (.mk 7 0 [] [] m) = 123 :: (putMs true m ++ [125]) := by simp [putV]
    rw [this, validD_cons _ _ (by decide)]
    exact validA2 (putMs_valid m true fun s v hx => ⟨(right_mems h1 h2 s v hx).1, ihm s v hx (right_mems h1 h2 s v hx).2⟩) rfl
theorem read_put {v : Val} (h : rightV v = true) (hw : wfV v) (hl : (putV v).length ≤ 8192) : readM (putV v) = if depthV v ≤ 16 then (v, 0) else (nullV, 4) := by
  have h1 := back v h hw 16 [] (fun c hc => by cases hc)
  rw [List.append_nil] at h1
  unfold readM
  rw [if_neg (by omega), put_valid v h, h1]
  simp only [Bool.not_true, Bool.false_eq_true, if_false]
  by_cases hd : depthV v ≤ (16 : Nat)
  · rw [if_pos hd, if_pos (by exact_mod_cast hd)]; rfl
  · rw [if_neg hd, if_neg (by exact_mod_cast hd)]
end Go.Proofs.YtpjafglhdlfnbaaGreatDoor
namespace Go.Proofs.YtpjafglhdlfnbaaGreatDoor
open Go.Ab Go.Lib
theorem qB_len (c : UInt8) : (qB c).length ≤ 6 := by unfold qB; split <;> (try split) <;> simp
theorem flat_len : ∀ s : List UInt8, (s.flatMap qB).length ≤ 6 * s.length
  | [] => by simp
  | c :: s => by rw [List.flatMap_cons, List.length_append]; have := qB_len c; have := flat_len s; simp only [List.length_cons]; omega
theorem quote_len (s : List UInt8) : (quoteM s).length ≤ 6 * s.length + 2 := by
  unfold quoteM; have := flat_len s; simp only [List.length_cons, List.length_append, List.length_nil]; omega
theorem itoa_len {n : Int} (h : inR n) : (itoa n).length ≤ 21 := by
  have e : ∀ u : Nat, u < 18446744073709551616 → (decDigits u).length ≤ 20 := fun u hu => by
    rw [decDigits_length]; exact nDigits_le20 u hu
  unfold itoa; split
  · have := e n.natAbs (by have := h.1; omega)
    simp; omega
  · have := e n.toNat (by have := h.2; omega)
    omega
mutual
theorem put_le : ∀ v, wfV v → (putV v).length + 4 ≤ 25 * bV v
  | .mk k n s l m, h => by
    obtain ⟨hn, hl, hm⟩ := h
    have h1 := putVs_le l true hl
    have h2 := putMs_le m true hm
    have h3 := quote_len s
    have h4 := itoa_len hn
    simp only [putV, bV]
    split
    · simp; omega
    split
    · unfold boolT; split <;> simp <;> omega
    split
    · omega
    split
    · omega
    split
    · omega
    split
    · simp; omega
    · simp; omega
theorem putVs_le : ∀ l f, wfVs l → (putVs f l).length ≤ 25 * bVs l
  | [], _, _ => by simp [putVs]
  | v :: l, f, h => by
    have h1 := put_le v h.1
    have h2 := putVs_le l false h.2
    simp only [putVs, bVs, List.length_append]
    cases f <;> simp <;> omega
theorem putM_le : ∀ x, wfM x → (putM x).length + 1 ≤ 25 * bM x
  | .mk s v, h => by
    have h1 := put_le v h
    have h3 := quote_len s
    simp only [putM, bM, List.length_append, List.length_cons]
    omega
theorem putMs_le : ∀ l f, wfMs l → (putMs f l).length ≤ 25 * bMs l
  | [], _, _ => by simp [putMs]
  | v :: l, f, h => by
    have h1 := putM_le v h.1
    have h2 := putMs_le l false h.2
    simp only [putMs, bMs, List.length_append]
    cases f <;> simp <;> omega
end
theorem fd4 (n : Nat) : (n : Int).fdiv (2 ^ min 4 IntKind.u8.bits) = ((n / 16 : Nat) : Int) := by
  show (n : Int).fdiv 16 = _
  rw [Int.fdiv_eq_ediv_of_nonneg _ (by omega)]; omega
theorem and15T : ∀ x : Fin 256, IntKind.wrap .u8 ((BitVec.ofInt IntKind.u8.bits ((x.val : Nat) : Int) &&& BitVec.ofInt IntKind.u8.bits 15).toNat : Int) = ((x.val % 16 : Nat) : Int) := by decide +kernel
theorem and15b (c : UInt8) : IntKind.wrap .u8 ((BitVec.ofInt IntKind.u8.bits (c.toNat : Int) &&& BitVec.ofInt IntKind.u8.bits 15).toNat : Int) = ((c.toNat % 16 : Nat) : Int) := and15T ⟨c.toNat, c.toNat_lt⟩
theorem ownS_len {H H' : Heap} {o o' : Own} {n m sz : Nat} (h : OwnS H o H' o' n sz) (e : n = m) : OwnS H o H' o' m sz := e ▸ h
theorem quoteC (s acc : List UInt8) (H : Heap) (o : Own) (ho : Owned H o acc.length 1) (hb : acc.length + 6 * s.length + 2 ≤ Lim) :
    Gives Tryz.prog 79 [.sl o 1 (bytesOf acc), .str s] H o 1 (bytesOf (acc ++ quoteM s)) := by
  refine ACalls.goO ir79 ck79 (Nat.le_refl _) fun KP Q hQ hP => ?_
  have hal := bytesOf_len acc
  simp only [Lim] at hb
  simp (disch := first | omega | assumption) only [ir79, steps, st2, pev, rev, oev, optr, ibin, sbin, ishf, bound, mmAll, mm2, mk, mkArgs, AV.cells, AV.boxable, AV.one, AV.strip1, fillA, fillS, Nat.reduceEqDiff, reduceCtorEq, ↓reduceIte, Nat.reduceAdd, Int.reduceNeg, Nat.reduceLeDiff, Int.reduceToNat, Int.reduceEq, Int.reduceLT, Int.reduceLE, Int.reduceAdd]
  have e1 : bytesOf acc ++ [[AV.int .u8 34]] = bytesOf (acc ++ [34]) := bytesOf_one acc 34
  refine goP_ownS (by rw [hal]; exact ho) (by simp [hal]; omega) (by simp [hal, maxLen]; omega) fun o1 H1 hs1 => ?_
  have hs1' : OwnS H o H1 o1 (acc ++ [34]).length 1 := by simpa [hal] using hs1
  simp (disch := first | omega | assumption) only [e1, steps, st2, pev, rev, oev, optr, ibin, sbin, ishf, bound, mmAll, mm2, mk, mkArgs, AV.cells, AV.boxable, AV.one, AV.strip1, fillA, fillS, Nat.reduceEqDiff, reduceCtorEq, ↓reduceIte, Nat.reduceAdd, Int.reduceNeg, Nat.reduceLeDiff, Int.reduceToNat, Int.reduceEq, Int.reduceLT, Int.reduceLE, Int.reduceAdd]
  refine goL_range s 12 (fun x : Own × List UInt8 => [(0, .sl x.1 1 (bytesOf x.2))]) (fun done rest x H' => x.2 ++ rest.flatMap qB = acc ++ 34 :: s.flatMap qB ∧ x.2.length + 6 * rest.length ≤ acc.length + 1 + 6 * s.length ∧ OwnS H o H' x.1 x.2.length 1) (o1, acc ++ [34]) (by simp (disch := first | omega | assumption) only [steps, st2, pev, rev, oev, optr, ibin, sbin, ishf, bound, mmAll, mm2, mk, mkArgs, AV.cells, AV.boxable, AV.one, AV.strip1, fillA, fillS, Nat.reduceEqDiff, reduceCtorEq, ↓reduceIte, Nat.reduceAdd, Int.reduceNeg, Nat.reduceLeDiff, Int.reduceToNat, Int.reduceEq, Int.reduceLT, Int.reduceLE, Int.reduceAdd]) ⟨by simp, by simp, hs1'⟩ ?_ ?_
  · rintro ⟨o2, a⟩ H2 J ⟨hn, hle, hs⟩ hlt
    simp only [List.flatMap_nil, List.append_nil, List.length_nil] at hn hle
    have h4 := bytesOf_len a
    have e3 : bytesOf a ++ [[AV.int .u8 34]] = bytesOf (a ++ [34]) := bytesOf_one a 34
    simp (disch := first | omega | assumption) only [hlt, steps, st2, pev, rev, oev, optr, ibin, sbin, ishf, bound, mmAll, mm2, mk, mkArgs, AV.cells, AV.boxable, AV.one, AV.strip1, fillA, fillS, Nat.reduceEqDiff, reduceCtorEq, ↓reduceIte, Nat.reduceAdd, Int.reduceNeg, Nat.reduceLeDiff, Int.reduceToNat, Int.reduceEq, Int.reduceLT, Int.reduceLE, Int.reduceAdd]
    refine goP_ownS (by rw [h4]; exact hs.own) (by simp [h4]; omega) (by simp [h4, maxLen]; omega) fun o3 H3 hs3 => ?_
    simp (disch := first | omega | assumption) only [e3, steps, st2, pev, rev, oev, optr, ibin, sbin, ishf, bound, mmAll, mm2, mk, mkArgs, AV.cells, AV.boxable, AV.one, AV.strip1, fillA, fillS, Nat.reduceEqDiff, reduceCtorEq, ↓reduceIte, Nat.reduceAdd, Int.reduceNeg, Nat.reduceLeDiff, Int.reduceToNat, Int.reduceEq, Int.reduceLT, Int.reduceLE, Int.reduceAdd]
    refine hQ _ _ H3 H3 [_] nofun rfl (Low.refl _) ⟨o3, ?_, ?_⟩
    · have : acc ++ quoteM s = a ++ [34] := by rw [hn]; simp [quoteM]
      rw [this]; rfl
    · have : acc ++ quoteM s = a ++ [34] := by rw [hn]; simp [quoteM]
      rw [this, bytesOf_len]; exact hs.trans (by simpa [h4] using hs3)
  · rintro done c rest ⟨o2, a⟩ H2 J hd hlt hlt2 ⟨hn, hle, hs⟩ hJ
    have hg := str_get hd
    have h4 := bytesOf_len a
    simp only [List.flatMap_cons, List.length_cons] at hn hle
    have hg2 : ((done.length : Int) < s.length) = True := eq_true hlt
    by_cases c1 : c = 34 ∨ c = 92
    · have eq : qB c = [92, c] := by unfold qB; rw [if_pos c1]
      have e3 : bytesOf a ++ [[AV.int .u8 92], [AV.int .u8 c.toNat]] = bytesOf (a ++ [92, c]) := bytesOf_two a 92 c
      have step : ∀ o3 H3, OwnS H2 o2 H3 o3 (a ++ [92, c]).length 1 → J ((setAll _ [(12, .int .i64 ((done.length : Int) + 1)), (0, .sl o3 1 (bytesOf (a ++ [92, c])))]).keep [0, 1, 11, 12]) H3 := fun o3 H3 hs3 =>
        hJ (o3, a ++ [92, c]) H3 ⟨by rw [← hn, eq]; simp, by simp; omega, hs.trans hs3⟩
      by_cases c3 : c = 34
      · have g1 : ((c.toNat : Int) = 34) = True := eq_true (by rw [c3]; rfl)
        simp (disch := first | omega | assumption) only [hg2, hg, g1, steps, st2, pev, rev, oev, optr, ibin, sbin, ishf, bound, mmAll, mm2, mk, mkArgs, AV.cells, AV.boxable, AV.one, AV.strip1, fillA, fillS, Nat.reduceEqDiff, reduceCtorEq, ↓reduceIte, Nat.reduceAdd, Int.reduceNeg, Nat.reduceLeDiff, Int.reduceToNat, Int.reduceEq, Int.reduceLT, Int.reduceLE, Int.reduceAdd]
        refine goP_ownS (by rw [h4]; exact hs.own) (by simp [h4]; omega) (by simp [h4, maxLen]; omega) fun o3 H3 hs3 => ?_
        simp (disch := first | omega | assumption) only [e3, wrap64, steps, st2, pev, rev, oev, optr, ibin, sbin, ishf, bound, mmAll, mm2, mk, mkArgs, AV.cells, AV.boxable, AV.one, AV.strip1, fillA, fillS, Nat.reduceEqDiff, reduceCtorEq, ↓reduceIte, Nat.reduceAdd, Int.reduceNeg, Nat.reduceLeDiff, Int.reduceToNat, Int.reduceEq, Int.reduceLT, Int.reduceLE, Int.reduceAdd]
        exact goJ (step o3 H3 (by simpa [h4] using hs3)) (by simp (disch := first | omega | assumption) only [steps, st2, pev, rev, oev, optr, ibin, sbin, ishf, bound, mmAll, mm2, mk, mkArgs, AV.cells, AV.boxable, AV.one, AV.strip1, fillA, fillS, Nat.reduceEqDiff, reduceCtorEq, ↓reduceIte, Nat.reduceAdd, Int.reduceNeg, Nat.reduceLeDiff, Int.reduceToNat, Int.reduceEq, Int.reduceLT, Int.reduceLE, Int.reduceAdd])
      · have g0 : ¬ ((c.toNat : Int) = 34) := fun e => c3 (UInt8.toNat_inj.1 (by have : (34 : UInt8).toNat = 34 := rfl; omega))
        have g1 : ((c.toNat : Int) = 92) = True := eq_true (by rw [c1.resolve_left c3]; rfl)
        simp (disch := first | omega | assumption) only [hg2, hg, g0, g1, steps, st2, pev, rev, oev, optr, ibin, sbin, ishf, bound, mmAll, mm2, mk, mkArgs, AV.cells, AV.boxable, AV.one, AV.strip1, fillA, fillS, Nat.reduceEqDiff, reduceCtorEq, ↓reduceIte, Nat.reduceAdd, Int.reduceNeg, Nat.reduceLeDiff, Int.reduceToNat, Int.reduceEq, Int.reduceLT, Int.reduceLE, Int.reduceAdd]
        refine goP_ownS (by rw [h4]; exact hs.own) (by simp [h4]; omega) (by simp [h4, maxLen]; omega) fun o3 H3 hs3 => ?_
        simp (disch := first | omega | assumption) only [e3, wrap64, steps, st2, pev, rev, oev, optr, ibin, sbin, ishf, bound, mmAll, mm2, mk, mkArgs, AV.cells, AV.boxable, AV.one, AV.strip1, fillA, fillS, Nat.reduceEqDiff, reduceCtorEq, ↓reduceIte, Nat.reduceAdd, Int.reduceNeg, Nat.reduceLeDiff, Int.reduceToNat, Int.reduceEq, Int.reduceLT, Int.reduceLE, Int.reduceAdd]
        exact goJ (step o3 H3 (by simpa [h4] using hs3)) (by simp (disch := first | omega | assumption) only [steps, st2, pev, rev, oev, optr, ibin, sbin, ishf, bound, mmAll, mm2, mk, mkArgs, AV.cells, AV.boxable, AV.one, AV.strip1, fillA, fillS, Nat.reduceEqDiff, reduceCtorEq, ↓reduceIte, Nat.reduceAdd, Int.reduceNeg, Nat.reduceLeDiff, Int.reduceToNat, Int.reduceEq, Int.reduceLT, Int.reduceLE, Int.reduceAdd])
    · have g1 : ¬ ((c.toNat : Int) = 34) := fun e => c1 (.inl (UInt8.toNat_inj.1 (by have : (34 : UInt8).toNat = 34 := rfl; omega)))
      have g2 : ¬ ((c.toNat : Int) = 92) := fun e => c1 (.inr (UInt8.toNat_inj.1 (by have : (92 : UInt8).toNat = 92 := rfl; omega)))
      by_cases c2 : c.toNat < 32
      · have g3 : ((c.toNat : Int) < 32) = True := eq_true (by omega)
        have eq : qB c = [92, 117, 48, 48, hexL.getD (c.toNat / 16) 0, hexL.getD (c.toNat % 16) 0] := by unfold qB; rw [if_neg c1, if_pos c2]
        have g4 := fd4 c.toNat
        have g5 := and15b c
        have g6 : (((c.toNat / 16 : Nat) : Int) < 16) = True := eq_true (by omega)
        have g7 : (((c.toNat % 16 : Nat) : Int) < 16) = True := eq_true (by omega)
        have e3 : bytesOf a ++ bytesOf [92, 117, 48, 48] = bytesOf (a ++ [92, 117, 48, 48]) := bytesOf_app a _
        have e4 : bytesOf (a ++ [92, 117, 48, 48]) ++ [[AV.int .u8 ((hexL.getD (c.toNat / 16) 0).toNat)], [AV.int .u8 ((hexL.getD (c.toNat % 16) 0).toNat)]] = bytesOf (a ++ [92, 117, 48, 48] ++ [hexL.getD (c.toNat / 16) 0, hexL.getD (c.toNat % 16) 0]) := bytesOf_two _ _ _
        have h5 := bytesOf_len (a ++ [92, 117, 48, 48])
        simp (disch := first | omega | assumption) only [hg2, hg, g1, g2, g3, steps, st2, pev, rev, oev, optr, ibin, sbin, ishf, bound, mmAll, mm2, mk, mkArgs, AV.cells, AV.boxable, AV.one, AV.strip1, fillA, fillS, Nat.reduceEqDiff, reduceCtorEq, ↓reduceIte, Nat.reduceAdd, Int.reduceNeg, Nat.reduceLeDiff, Int.reduceToNat, Int.reduceEq, Int.reduceLT, Int.reduceLE, Int.reduceAdd]
        refine goP_ownS (by rw [h4]; exact hs.own) (by simp [h4, bytesOf_len]; omega) (by simp [h4, maxLen, bytesOf_len]; omega) fun o3 H3 hs3 => ?_
        rw [bytesOf_strip, e3]
        have hs3' : OwnS H2 o2 H3 o3 (a ++ [92, 117, 48, 48]).length 1 := by simpa [h4, bytesOf_len] using hs3
        simp (disch := first | omega | assumption) only [g4, g5, g6, g7, steps, st2, pev, rev, oev, optr, ibin, sbin, ishf, bound, mmAll, mm2, mk, mkArgs, AV.cells, AV.boxable, AV.one, AV.strip1, fillA, fillS, Nat.reduceEqDiff, reduceCtorEq, ↓reduceIte, Nat.reduceAdd, Int.reduceNeg, Nat.reduceLeDiff, Int.reduceToNat, Int.reduceEq, Int.reduceLT, Int.reduceLE, Int.reduceAdd]
        refine goP_ownS (by rw [h5]; exact hs3'.own) (by simp [h5]; omega) (by simp [h5, maxLen]; omega) fun o4 H4 hs4 => ?_
        have e5 : (bytesOf (a ++ [92, 117, 48, 48]) ++ [[AV.int .u8 ((hexL.getD (c.toNat / 16) 0).toNat)], [AV.int .u8 ((hexL.getD (c.toNat % 16) 0).toNat)]]) = bytesOf (a ++ qB c) := by rw [e4, eq]; simp
        have hs4' : OwnS H2 o2 H4 o4 (a ++ qB c).length 1 := hs3'.trans (by rw [eq]; simpa [h5] using hs4)
        have e6 : ∀ y : List (List AV), y = bytesOf (a ++ qB c) → J ((setAll _ [(12, .int .i64 ((done.length : Int) + 1)), (0, .sl o4 1 y)]).keep [0, 1, 11, 12]) H4 := fun y e => by
          rw [e]; exact hJ (o4, a ++ qB c) H4 ⟨by rw [← hn]; simp, by rw [eq]; simp; omega, hs.trans hs4'⟩
        simp (disch := first | omega | assumption) only [wrap64, steps, st2, pev, rev, oev, optr, ibin, sbin, ishf, bound, mmAll, mm2, mk, mkArgs, AV.cells, AV.boxable, AV.one, AV.strip1, fillA, fillS, Nat.reduceEqDiff, reduceCtorEq, ↓reduceIte, Nat.reduceAdd, Int.reduceNeg, Nat.reduceLeDiff, Int.reduceToNat, Int.reduceEq, Int.reduceLT, Int.reduceLE, Int.reduceAdd]
        exact goJ (e6 _ e5) (by simp (disch := first | omega | assumption) only [hexL, steps, st2, pev, rev, oev, optr, ibin, sbin, ishf, bound, mmAll, mm2, mk, mkArgs, AV.cells, AV.boxable, AV.one, AV.strip1, fillA, fillS, Nat.reduceEqDiff, reduceCtorEq, ↓reduceIte, Nat.reduceAdd, Int.reduceNeg, Nat.reduceLeDiff, Int.reduceToNat, Int.reduceEq, Int.reduceLT, Int.reduceLE, Int.reduceAdd])
      · have g3 : ¬ ((c.toNat : Int) < 32) := by omega
        have eq : qB c = [c] := by unfold qB; rw [if_neg c1, if_neg c2]
        have e3 : bytesOf a ++ [[AV.int .u8 c.toNat]] = bytesOf (a ++ [c]) := bytesOf_one a c
        simp (disch := first | omega | assumption) only [hg2, hg, g1, g2, g3, steps, st2, pev, rev, oev, optr, ibin, sbin, ishf, bound, mmAll, mm2, mk, mkArgs, AV.cells, AV.boxable, AV.one, AV.strip1, fillA, fillS, Nat.reduceEqDiff, reduceCtorEq, ↓reduceIte, Nat.reduceAdd, Int.reduceNeg, Nat.reduceLeDiff, Int.reduceToNat, Int.reduceEq, Int.reduceLT, Int.reduceLE, Int.reduceAdd]
        refine goP_ownS (by rw [h4]; exact hs.own) (by simp [h4]; omega) (by simp [h4, maxLen]; omega) fun o3 H3 hs3 => ?_
        simp (disch := first | omega | assumption) only [e3, wrap64, steps, st2, pev, rev, oev, optr, ibin, sbin, ishf, bound, mmAll, mm2, mk, mkArgs, AV.cells, AV.boxable, AV.one, AV.strip1, fillA, fillS, Nat.reduceEqDiff, reduceCtorEq, ↓reduceIte, Nat.reduceAdd, Int.reduceNeg, Nat.reduceLeDiff, Int.reduceToNat, Int.reduceEq, Int.reduceLT, Int.reduceLE, Int.reduceAdd]
        exact goJ (hJ (o3, a ++ [c]) H3 ⟨by rw [← hn, eq]; simp, by simp; omega, hs.trans (by simpa [h4] using hs3)⟩) (by simp (disch := first | omega | assumption) only [steps, st2, pev, rev, oev, optr, ibin, sbin, ishf, bound, mmAll, mm2, mk, mkArgs, AV.cells, AV.boxable, AV.one, AV.strip1, fillA, fillS, Nat.reduceEqDiff, reduceCtorEq, ↓reduceIte, Nat.reduceAdd, Int.reduceNeg, Nat.reduceLeDiff, Int.reduceToNat, Int.reduceEq, Int.reduceLT, Int.reduceLE, Int.reduceAdd])
theorem appBool0 (b : Bool) (acc : List UInt8) (H : Heap) (o : Own) (ho : Owned H o acc.length 1) (hb : acc.length + 5 ≤ Lim) :
    Gives Tryz.prog 121 [.sl o 1 (bytesOf acc), .bool b] H o 1 (bytesOf (acc ++ boolT b)) := by
  refine ACalls.goO ir121 ck121 (Nat.le_refl _) fun KP Q hQ hP => ?_
  have hal := bytesOf_len acc
  simp only [Lim] at hb
  cases b
  · simp (disch := first | omega | assumption) only [ir121, steps, st2, pev, rev, oev, optr, ibin, sbin, ishf, bound, mmAll, mm2, mk, mkArgs, AV.cells, AV.boxable, AV.one, AV.strip1, fillA, fillS, Nat.reduceEqDiff, reduceCtorEq, ↓reduceIte, Nat.reduceAdd, Int.reduceNeg, Nat.reduceLeDiff, Int.reduceToNat, Int.reduceEq, Int.reduceLT, Int.reduceLE, Int.reduceAdd]
    refine goP_ownS (by rw [hal]; exact ho) (by simp [hal, bytesOf_len]; omega) (by simp [hal, maxLen, bytesOf_len]; omega) fun o1 H1 hs1 => ?_
    rw [bytesOf_strip, bytesOf_app]
    simp (disch := first | omega | assumption) only [steps, st2, pev, rev, oev, optr, ibin, sbin, ishf, bound, mmAll, mm2, mk, mkArgs, AV.cells, AV.boxable, AV.one, AV.strip1, fillA, fillS, Nat.reduceEqDiff, reduceCtorEq, ↓reduceIte, Nat.reduceAdd, Int.reduceNeg, Nat.reduceLeDiff, Int.reduceToNat, Int.reduceEq, Int.reduceLT, Int.reduceLE, Int.reduceAdd]
    exact hQ _ _ H1 H1 [_] nofun rfl (Low.refl _) ⟨o1, rfl, by simpa [hal, bytesOf_len, boolT] using hs1⟩
  · simp (disch := first | omega | assumption) only [ir121, steps, st2, pev, rev, oev, optr, ibin, sbin, ishf, bound, mmAll, mm2, mk, mkArgs, AV.cells, AV.boxable, AV.one, AV.strip1, fillA, fillS, Nat.reduceEqDiff, reduceCtorEq, ↓reduceIte, Nat.reduceAdd, Int.reduceNeg, Nat.reduceLeDiff, Int.reduceToNat, Int.reduceEq, Int.reduceLT, Int.reduceLE, Int.reduceAdd]
    refine goP_ownS (by rw [hal]; exact ho) (by simp [hal, bytesOf_len]; omega) (by simp [hal, maxLen, bytesOf_len]; omega) fun o1 H1 hs1 => ?_
    rw [bytesOf_strip, bytesOf_app]
    simp (disch := first | omega | assumption) only [steps, st2, pev, rev, oev, optr, ibin, sbin, ishf, bound, mmAll, mm2, mk, mkArgs, AV.cells, AV.boxable, AV.one, AV.strip1, fillA, fillS, Nat.reduceEqDiff, reduceCtorEq, ↓reduceIte, Nat.reduceAdd, Int.reduceNeg, Nat.reduceLeDiff, Int.reduceToNat, Int.reduceEq, Int.reduceLT, Int.reduceLE, Int.reduceAdd]
    exact hQ _ _ H1 H1 [_] nofun rfl (Low.refl _) ⟨o1, rfl, by simpa [hal, bytesOf_len, boolT] using hs1⟩
theorem appBool (b : Bool) (acc : List UInt8) (H : Heap) (o : Own) (ho : Owned H o acc.length 1) (hb : acc.length + 5 ≤ Lim) :
    Gives Tryz.prog 77 [.sl o 1 (bytesOf acc), .bool b] H o 1 (bytesOf (acc ++ boolT b)) := by
  refine ACalls.goO ir77 ck77 (Nat.le_refl _) fun KP Q hQ hP => ?_
  simp (disch := first | omega | assumption) only [ir77, steps, st2, pev, rev, oev, optr, ibin, sbin, ishf, bound, mmAll, mm2, mk, mkArgs, AV.cells, AV.boxable, AV.one, AV.strip1, fillA, fillS, Nat.reduceEqDiff, reduceCtorEq, ↓reduceIte, Nat.reduceAdd, Int.reduceNeg, Nat.reduceLeDiff, Int.reduceToNat, Int.reduceEq, Int.reduceLT, Int.reduceLE, Int.reduceAdd]
  refine goK_gives (appBool0 b acc H o ho hb) fun o1 H1 hs1 => ?_
  simp (disch := first | omega | assumption) only [steps, st2, pev, rev, oev, optr, ibin, sbin, ishf, bound, mmAll, mm2, mk, mkArgs, AV.cells, AV.boxable, AV.one, AV.strip1, fillA, fillS, Nat.reduceEqDiff, reduceCtorEq, ↓reduceIte, Nat.reduceAdd, Int.reduceNeg, Nat.reduceLeDiff, Int.reduceToNat, Int.reduceEq, Int.reduceLT, Int.reduceLE, Int.reduceAdd]
  exact hQ _ _ H1 H1 [_] nofun rfl (Low.refl _) ⟨o1, rfl, hs1⟩
theorem appInt (n : Int) (h0 : -9223372036854775808 ≤ n) (h1 : n ≤ 9223372036854775807) (acc : List UInt8) (H : Heap) (o : Own) (ho : Owned H o acc.length 1) (hb : acc.length + 1 ≤ Lim) :
    Gives Tryz.prog 78 [.sl o 1 (bytesOf acc), .int .i64 n, .int .i64 10] H o 1 (bytesOf (acc ++ itoa n)) := by
  refine ACalls.goO ir78 ck78 (Nat.le_refl _) fun KP Q hQ hP => ?_
  simp (disch := first | omega | assumption) only [ir78, steps, st2, pev, rev, oev, optr, ibin, sbin, ishf, bound, mmAll, mm2, mk, mkArgs, AV.cells, AV.boxable, AV.one, AV.strip1, fillA, fillS, Nat.reduceEqDiff, reduceCtorEq, ↓reduceIte, Nat.reduceAdd, Int.reduceNeg, Nat.reduceLeDiff, Int.reduceToNat, Int.reduceEq, Int.reduceLT, Int.reduceLE, Int.reduceAdd]
  refine goK_gives (appInt0 n h0 h1 acc H o ho hb) fun o1 H1 hs1 => ?_
  simp (disch := first | omega | assumption) only [steps, st2, pev, rev, oev, optr, ibin, sbin, ishf, bound, mmAll, mm2, mk, mkArgs, AV.cells, AV.boxable, AV.one, AV.strip1, fillA, fillS, Nat.reduceEqDiff, reduceCtorEq, ↓reduceIte, Nat.reduceAdd, Int.reduceNeg, Nat.reduceLeDiff, Int.reduceToNat, Int.reduceEq, Int.reduceLT, Int.reduceLE, Int.reduceAdd]
  exact hQ _ _ H1 H1 [_] nofun rfl (Low.refl _) ⟨o1, rfl, hs1⟩
theorem putC : ∀ v, wfV v → ∀ acc H o, acc.length + 25 * bV v ≤ Lim → Owned H o acc.length 1 → Gives Tryz.prog 41 [.sl o 1 (bytesOf acc), .agg (cV v)] H o 1 (bytesOf (acc ++ putV v)) := by
  refine Val.ind fun k n s l m ihl ihm hwf acc H o hb ho => ?_
  obtain ⟨hn, hwl, hwm⟩ := hwf
  have hb' : acc.length + 25 * (1 + s.length + bVs l + bMs m) ≤ Lim := hb
  have h1 := cVs_len l
  have h2 := cMs_len m
  have h3 := bytesOf_len acc
  have hll := bVs_len l
  have hml := bMs_len m
  simp only [Lim] at hb'
  have ho' : Owned H o (bytesOf acc).length 1 := by rw [h3]; exact ho
  refine ACalls.goO ir41 ck41 (Nat.le_refl _) fun KP Q hQ hP => ?_
  have lit : ∀ t : List UInt8, putV (.mk k n s l m) = t → ∀ o' H', OwnS H o H' o' (acc ++ t).length 1 → OwnR H o 1 (bytesOf (acc ++ putV (.mk k n s l m))) (.sl o' 1 (bytesOf (acc ++ t))) H' := fun t e o' H' hs => by
    rw [e]; exact ⟨o', rfl, by rw [bytesOf_len]; exact hs⟩
  by_cases k0 : k = 0
  · subst k0
    simp (disch := first | omega | assumption) only [ir41, cV_mk, steps, st2, pev, rev, oev, optr, ibin, sbin, ishf, bound, mmAll, mm2, mk, mkArgs, AV.cells, AV.boxable, AV.one, AV.strip1, fillA, fillS, Nat.reduceEqDiff, reduceCtorEq, ↓reduceIte, Nat.reduceAdd, Int.reduceNeg, Nat.reduceLeDiff, Int.reduceToNat, Int.reduceEq, Int.reduceLT, Int.reduceLE, Int.reduceAdd]
    refine goP_ownS ho' (by simp [h3, bytesOf_len]; omega) (by simp [h3, maxLen, bytesOf_len]; omega) fun o1 H1 hs1 => ?_
    rw [bytesOf_strip, bytesOf_app]
    simp (disch := first | omega | assumption) only [steps, st2, pev, rev, oev, optr, ibin, sbin, ishf, bound, mmAll, mm2, mk, mkArgs, AV.cells, AV.boxable, AV.one, AV.strip1, fillA, fillS, Nat.reduceEqDiff, reduceCtorEq, ↓reduceIte, Nat.reduceAdd, Int.reduceNeg, Nat.reduceLeDiff, Int.reduceToNat, Int.reduceEq, Int.reduceLT, Int.reduceLE, Int.reduceAdd]
    exact hQ _ _ H1 H1 [_] nofun rfl (Low.refl _) (lit [110, 117, 108, 108] (by simp [putV]) o1 H1 (by simpa [h3, bytesOf_len] using hs1))
  by_cases k1 : k = 1
  · subst k1
    simp (disch := first | omega | assumption) only [ir41, cV_mk, steps, st2, pev, rev, oev, optr, ibin, sbin, ishf, bound, mmAll, mm2, mk, mkArgs, AV.cells, AV.boxable, AV.one, AV.strip1, fillA, fillS, Nat.reduceEqDiff, reduceCtorEq, ↓reduceIte, Nat.reduceAdd, Int.reduceNeg, Nat.reduceLeDiff, Int.reduceToNat, Int.reduceEq, Int.reduceLT, Int.reduceLE, Int.reduceAdd]
    refine goK_gives (appBool _ acc H o ho (by simp only [Lim]; omega)) fun o1 H1 hs1 => ?_
    simp (disch := first | omega | assumption) only [steps, st2, pev, rev, oev, optr, ibin, sbin, ishf, bound, mmAll, mm2, mk, mkArgs, AV.cells, AV.boxable, AV.one, AV.strip1, fillA, fillS, Nat.reduceEqDiff, reduceCtorEq, ↓reduceIte, Nat.reduceAdd, Int.reduceNeg, Nat.reduceLeDiff, Int.reduceToNat, Int.reduceEq, Int.reduceLT, Int.reduceLE, Int.reduceAdd]
    exact hQ _ _ H1 H1 [_] nofun rfl (Low.refl _) (lit (boolT (decide (n = 1))) (by simp [putV]) o1 H1 (by rw [← bytesOf_len]; exact hs1))
  by_cases k2 : k = 2
  · subst k2
    simp (disch := first | omega | assumption) only [ir41, cV_mk, steps, st2, pev, rev, oev, optr, ibin, sbin, ishf, bound, mmAll, mm2, mk, mkArgs, AV.cells, AV.boxable, AV.one, AV.strip1, fillA, fillS, Nat.reduceEqDiff, reduceCtorEq, ↓reduceIte, Nat.reduceAdd, Int.reduceNeg, Nat.reduceLeDiff, Int.reduceToNat, Int.reduceEq, Int.reduceLT, Int.reduceLE, Int.reduceAdd]
    refine goK_gives (appInt n hn.1 hn.2 acc H o ho (by simp only [Lim]; omega)) fun o1 H1 hs1 => ?_
    simp (disch := first | omega | assumption) only [steps, st2, pev, rev, oev, optr, ibin, sbin, ishf, bound, mmAll, mm2, mk, mkArgs, AV.cells, AV.boxable, AV.one, AV.strip1, fillA, fillS, Nat.reduceEqDiff, reduceCtorEq, ↓reduceIte, Nat.reduceAdd, Int.reduceNeg, Nat.reduceLeDiff, Int.reduceToNat, Int.reduceEq, Int.reduceLT, Int.reduceLE, Int.reduceAdd]
    exact hQ _ _ H1 H1 [_] nofun rfl (Low.refl _) (lit (itoa n) (by simp [putV]) o1 H1 (by rw [← bytesOf_len]; exact hs1))
  by_cases k3 : k = 3
  · subst k3
    simp (disch := first | omega | assumption) only [ir41, cV_mk, steps, st2, pev, rev, oev, optr, ibin, sbin, ishf, bound, mmAll, mm2, mk, mkArgs, AV.cells, AV.boxable, AV.one, AV.strip1, fillA, fillS, Nat.reduceEqDiff, reduceCtorEq, ↓reduceIte, Nat.reduceAdd, Int.reduceNeg, Nat.reduceLeDiff, Int.reduceToNat, Int.reduceEq, Int.reduceLT, Int.reduceLE, Int.reduceAdd]
    refine goP_ownS ho' (by simp [h3, bytesOf_len]; omega) (by simp [h3, maxLen, bytesOf_len]; omega) fun o1 H1 hs1 => ?_
    rw [bytesOf_strip, bytesOf_app]
    simp (disch := first | omega | assumption) only [steps, st2, pev, rev, oev, optr, ibin, sbin, ishf, bound, mmAll, mm2, mk, mkArgs, AV.cells, AV.boxable, AV.one, AV.strip1, fillA, fillS, Nat.reduceEqDiff, reduceCtorEq, ↓reduceIte, Nat.reduceAdd, Int.reduceNeg, Nat.reduceLeDiff, Int.reduceToNat, Int.reduceEq, Int.reduceLT, Int.reduceLE, Int.reduceAdd]
    exact hQ _ _ H1 H1 [_] nofun rfl (Low.refl _) (lit s (by simp [putV]) o1 H1 (by simpa [h3, bytesOf_len] using hs1))
  by_cases k4 : k = 4
  · subst k4
    simp (disch := first | omega | assumption) only [ir41, cV_mk, steps, st2, pev, rev, oev, optr, ibin, sbin, ishf, bound, mmAll, mm2, mk, mkArgs, AV.cells, AV.boxable, AV.one, AV.strip1, fillA, fillS, Nat.reduceEqDiff, reduceCtorEq, ↓reduceIte, Nat.reduceAdd, Int.reduceNeg, Nat.reduceLeDiff, Int.reduceToNat, Int.reduceEq, Int.reduceLT, Int.reduceLE, Int.reduceAdd]
    refine goK_gives (quoteC s acc H o ho (by simp only [Lim]; omega)) fun o1 H1 hs1 => ?_
    simp (disch := first | omega | assumption) only [steps, st2, pev, rev, oev, optr, ibin, sbin, ishf, bound, mmAll, mm2, mk, mkArgs, AV.cells, AV.boxable, AV.one, AV.strip1, fillA, fillS, Nat.reduceEqDiff, reduceCtorEq, ↓reduceIte, Nat.reduceAdd, Int.reduceNeg, Nat.reduceLeDiff, Int.reduceToNat, Int.reduceEq, Int.reduceLT, Int.reduceLE, Int.reduceAdd]
    exact hQ _ _ H1 H1 [_] nofun rfl (Low.refl _) (lit (quoteM s) (by simp [putV]) o1 H1 (by rw [← bytesOf_len]; exact hs1))
  by_cases k6 : k = 6
  · subst k6
    have e : putV (.mk 6 n s l m) = 91 :: (putVs true l ++ [93]) := by simp [putV]
    have ea : bytesOf acc ++ [[AV.int .u8 91]] = bytesOf (acc ++ [91]) := bytesOf_one acc 91
    simp (disch := first | omega | assumption) only [ir41, cV_mk, steps, st2, pev, rev, oev, optr, ibin, sbin, ishf, bound, mmAll, mm2, mk, mkArgs, AV.cells, AV.boxable, AV.one, AV.strip1, fillA, fillS, Nat.reduceEqDiff, reduceCtorEq, ↓reduceIte, Nat.reduceAdd, Int.reduceNeg, Nat.reduceLeDiff, Int.reduceToNat, Int.reduceEq, Int.reduceLT, Int.reduceLE, Int.reduceAdd]
    refine goP_ownS ho' (by simp [h3]; omega) (by simp [h3, maxLen]; omega) fun o1 H1 hs1 => ?_
    have hs1' : OwnS H o H1 o1 (acc ++ [91]).length 1 := by simpa [h3] using hs1
    simp (disch := first | omega | assumption) only [ea, h1, steps, st2, pev, rev, oev, optr, ibin, sbin, ishf, bound, mmAll, mm2, mk, mkArgs, AV.cells, AV.boxable, AV.one, AV.strip1, fillA, fillS, Nat.reduceEqDiff, reduceCtorEq, ↓reduceIte, Nat.reduceAdd, Int.reduceNeg, Nat.reduceLeDiff, Int.reduceToNat, Int.reduceEq, Int.reduceLT, Int.reduceLE, Int.reduceAdd]
    refine goL_range l 48 (fun x : Own × List UInt8 => [(0, .sl x.1 1 (bytesOf x.2))]) (fun done rest x H' => x.2 ++ putVs (decide (done = [])) rest = acc ++ 91 :: putVs true l ∧ x.2.length + 25 * bVs rest ≤ acc.length + 1 + 25 * bVs l ∧ OwnS H o H' x.1 x.2.length 1) (o1, acc ++ [91]) (by simp (disch := first | omega | assumption) only [steps, st2, pev, rev, oev, optr, ibin, sbin, ishf, bound, mmAll, mm2, mk, mkArgs, AV.cells, AV.boxable, AV.one, AV.strip1, fillA, fillS, Nat.reduceEqDiff, reduceCtorEq, ↓reduceIte, Nat.reduceAdd, Int.reduceNeg, Nat.reduceLeDiff, Int.reduceToNat, Int.reduceEq, Int.reduceLT, Int.reduceLE, Int.reduceAdd]) ⟨by simp, by simp, hs1'⟩ ?_ ?_
    · rintro ⟨o2, a⟩ H2 J ⟨hn, hle, hs⟩ hlt
      simp only [putVs, List.append_nil, bVs] at hn hle
      have h4 := bytesOf_len a
      have e3 : bytesOf a ++ [[AV.int .u8 93]] = bytesOf (a ++ [93]) := bytesOf_one a 93
      simp (disch := first | omega | assumption) only [h1, hlt, steps, st2, pev, rev, oev, optr, ibin, sbin, ishf, bound, mmAll, mm2, mk, mkArgs, AV.cells, AV.boxable, AV.one, AV.strip1, fillA, fillS, Nat.reduceEqDiff, reduceCtorEq, ↓reduceIte, Nat.reduceAdd, Int.reduceNeg, Nat.reduceLeDiff, Int.reduceToNat, Int.reduceEq, Int.reduceLT, Int.reduceLE, Int.reduceAdd]
      refine goP_ownS (by rw [h4]; exact hs.own) (by simp [h4]; omega) (by simp [h4, maxLen]; omega) fun o3 H3 hs3 => ?_
      simp (disch := first | omega | assumption) only [e3, steps, st2, pev, rev, oev, optr, ibin, sbin, ishf, bound, mmAll, mm2, mk, mkArgs, AV.cells, AV.boxable, AV.one, AV.strip1, fillA, fillS, Nat.reduceEqDiff, reduceCtorEq, ↓reduceIte, Nat.reduceAdd, Int.reduceNeg, Nat.reduceLeDiff, Int.reduceToNat, Int.reduceEq, Int.reduceLT, Int.reduceLE, Int.reduceAdd]
      have e2 : acc ++ putV (.mk 6 n s l m) = a ++ [93] := by rw [e, hn]; simp
      refine hQ _ _ H3 H3 [_] nofun rfl (Low.refl _) ?_
      rw [e2]
      exact ⟨o3, rfl, by rw [bytesOf_len]; exact hs.trans (by simpa [h4] using hs3)⟩
    · rintro done x rest ⟨o2, a⟩ H2 J hd hlt _ ⟨hn, hle, hs⟩ hJ
      have hg := cVs_get hd
      have hmem : x ∈ l := by rw [hd]; simp
      have hx := put_le x (wfVs_mem hwl x hmem)
      have h4 := bytesOf_len a
      simp only [putVs, bVs] at hn hle
      simp (disch := first | omega | assumption) only [cV_len, cV_take, cV_splice, cM_len, cM_take, cM_splice, cM_mk, h1, hlt, hg, steps, st2, pev, rev, oev, optr, ibin, sbin, ishf, bound, mmAll, mm2, mk, mkArgs, AV.cells, AV.boxable, AV.one, AV.strip1, fillA, fillS, Nat.reduceEqDiff, reduceCtorEq, ↓reduceIte, Nat.reduceAdd, Int.reduceNeg, Nat.reduceLeDiff, Int.reduceToNat, Int.reduceEq, Int.reduceLT, Int.reduceLE, Int.reduceAdd]
      refine goA_intro fun b hb => ?_
      cases done with
      | nil =>
        simp only [decide_true, if_true, List.nil_append] at hn
        simp (disch := first | omega | assumption) only [cV_len, cV_take, cV_splice, cM_len, cM_take, cM_splice, cM_mk, steps, st2, pev, rev, oev, optr, ibin, sbin, ishf, bound, mmAll, mm2, mk, mkArgs, AV.cells, AV.boxable, AV.one, AV.strip1, fillA, fillS, Nat.reduceEqDiff, reduceCtorEq, ↓reduceIte, Nat.reduceAdd, Int.reduceNeg, Nat.reduceLeDiff, Int.reduceToNat, Int.reduceEq, Int.reduceLT, Int.reduceLE, Int.reduceAdd]
        refine goK_gives (ihl x hmem (wfVs_mem hwl x hmem) a _ o2 (by simp only [Lim]; omega) (hs.own.upd hb)) fun o3 H3 hs3 => ?_
        rw [bytesOf_len] at hs3
        simp (disch := first | omega | assumption) only [wrap64, steps, st2, pev, rev, oev, optr, ibin, sbin, ishf, bound, mmAll, mm2, mk, mkArgs, AV.cells, AV.boxable, AV.one, AV.strip1, fillA, fillS, Nat.reduceEqDiff, reduceCtorEq, ↓reduceIte, Nat.reduceAdd, Int.reduceNeg, Nat.reduceLeDiff, Int.reduceToNat, Int.reduceEq, Int.reduceLT, Int.reduceLE, Int.reduceAdd]
        exact goJ (hJ (o3, a ++ putV x) H3 ⟨by rw [← hn]; simp, by simp only [List.length_append]; omega, (hs.upd hb).trans hs3⟩) (by simp (disch := first | omega | assumption) only [steps, st2, pev, rev, oev, optr, ibin, sbin, ishf, bound, mmAll, mm2, mk, mkArgs, AV.cells, AV.boxable, AV.one, AV.strip1, fillA, fillS, Nat.reduceEqDiff, reduceCtorEq, ↓reduceIte, Nat.reduceAdd, Int.reduceNeg, Nat.reduceLeDiff, Int.reduceToNat, Int.reduceEq, Int.reduceLT, Int.reduceLE, Int.reduceAdd])
      | cons y done =>
        have g0 : ((0 : Int) < ((done.length + 1 : Nat) : Int)) = True := eq_true (by omega)
        have hlt' := hlt
        simp only [List.length_cons] at hlt'
        have hw : IntKind.wrap .i64 (((done.length + 1 : Nat) : Int) + 1) = ((done.length + 1 : Nat) : Int) + 1 := wrap64 (by omega) (by omega)
        have ec : bytesOf a ++ [[AV.int .u8 44]] = bytesOf (a ++ [44]) := bytesOf_one a 44
        simp only [reduceCtorEq, decide_false, Bool.false_eq_true, if_false] at hn
        simp (disch := first | omega | assumption) only [cV_len, cV_take, cV_splice, cM_len, cM_take, cM_splice, cM_mk, g0, steps, st2, pev, rev, oev, optr, ibin, sbin, ishf, bound, mmAll, mm2, mk, mkArgs, AV.cells, AV.boxable, AV.one, AV.strip1, fillA, fillS, Nat.reduceEqDiff, reduceCtorEq, ↓reduceIte, Nat.reduceAdd, Int.reduceNeg, Nat.reduceLeDiff, Int.reduceToNat, Int.reduceEq, Int.reduceLT, Int.reduceLE, Int.reduceAdd]
        refine goP_ownS (by rw [h4]; exact hs.own.upd hb) (by simp [h4]; omega) (by simp [h4, maxLen]; omega) fun o3 H3 hs3 => ?_
        have hs3' : OwnS H o H3 o3 (a ++ [44]).length 1 := (hs.upd hb).trans (by simpa [h4] using hs3)
        have hHb : H3 b = some (.cells (cV x)) := hs3.kept b _ (upd_same ..) fun d e => by
          have := hs.own; subst e
          have hx : H2 b = _ := this
          rw [hb] at hx; cases hx
        simp (disch := first | omega | assumption) only [cV_len, cV_take, cV_splice, cM_len, cM_take, cM_splice, cM_mk, ec, hHb, steps, st2, pev, rev, oev, optr, ibin, sbin, ishf, bound, mmAll, mm2, mk, mkArgs, AV.cells, AV.boxable, AV.one, AV.strip1, fillA, fillS, Nat.reduceEqDiff, reduceCtorEq, ↓reduceIte, Nat.reduceAdd, Int.reduceNeg, Nat.reduceLeDiff, Int.reduceToNat, Int.reduceEq, Int.reduceLT, Int.reduceLE, Int.reduceAdd]
        refine goK_gives (ihl x hmem (wfVs_mem hwl x hmem) (a ++ [44]) _ o3 (by simp only [Lim, List.length_append, List.length_cons, List.length_nil]; omega) hs3'.own) fun o4 H4 hs4 => ?_
        rw [bytesOf_len] at hs4
        simp (disch := first | omega | assumption) only [hw, steps, st2, pev, rev, oev, optr, ibin, sbin, ishf, bound, mmAll, mm2, mk, mkArgs, AV.cells, AV.boxable, AV.one, AV.strip1, fillA, fillS, Nat.reduceEqDiff, reduceCtorEq, ↓reduceIte, Nat.reduceAdd, Int.reduceNeg, Nat.reduceLeDiff, Int.reduceToNat, Int.reduceEq, Int.reduceLT, Int.reduceLE, Int.reduceAdd]
        exact goJ (hJ (o4, a ++ [44] ++ putV x) H4 ⟨by rw [← hn]; simp, by simp only [List.length_append, List.length_cons, List.length_nil]; omega, hs3'.trans hs4⟩) (by simp (disch := first | omega | assumption) only [steps, st2, pev, rev, oev, optr, ibin, sbin, ishf, bound, mmAll, mm2, mk, mkArgs, AV.cells, AV.boxable, AV.one, AV.strip1, fillA, fillS, Nat.reduceEqDiff, reduceCtorEq, ↓reduceIte, Nat.reduceAdd, Int.reduceNeg, Nat.reduceLeDiff, Int.reduceToNat, Int.reduceEq, Int.reduceLT, Int.reduceLE, Int.reduceAdd])
  · have e : putV (.mk k n s l m) = 123 :: (putMs true m ++ [125]) := by simp [putV, k0, k1, k2, k3, k4, k6]
    have ea : bytesOf acc ++ [[AV.int .u8 123]] = bytesOf (acc ++ [123]) := bytesOf_one acc 123
    simp (disch := first | omega | assumption) only [ir41, cV_mk, k0, k1, k2, k3, k4, k6, steps, st2, pev, rev, oev, optr, ibin, sbin, ishf, bound, mmAll, mm2, mk, mkArgs, AV.cells, AV.boxable, AV.one, AV.strip1, fillA, fillS, Nat.reduceEqDiff, reduceCtorEq, ↓reduceIte, Nat.reduceAdd, Int.reduceNeg, Nat.reduceLeDiff, Int.reduceToNat, Int.reduceEq, Int.reduceLT, Int.reduceLE, Int.reduceAdd]
    refine goP_ownS ho' (by simp [h3]; omega) (by simp [h3, maxLen]; omega) fun o1 H1 hs1 => ?_
    have hs1' : OwnS H o H1 o1 (acc ++ [123]).length 1 := by simpa [h3] using hs1
    simp (disch := first | omega | assumption) only [ea, h2, steps, st2, pev, rev, oev, optr, ibin, sbin, ishf, bound, mmAll, mm2, mk, mkArgs, AV.cells, AV.boxable, AV.one, AV.strip1, fillA, fillS, Nat.reduceEqDiff, reduceCtorEq, ↓reduceIte, Nat.reduceAdd, Int.reduceNeg, Nat.reduceLeDiff, Int.reduceToNat, Int.reduceEq, Int.reduceLT, Int.reduceLE, Int.reduceAdd]
    refine goL_range m 71 (fun x : Own × List UInt8 => [(0, .sl x.1 1 (bytesOf x.2))]) (fun done rest x H' => x.2 ++ putMs (decide (done = [])) rest = acc ++ 123 :: putMs true m ∧ x.2.length + 25 * bMs rest ≤ acc.length + 1 + 25 * bMs m ∧ OwnS H o H' x.1 x.2.length 1) (o1, acc ++ [123]) (by simp (disch := first | omega | assumption) only [steps, st2, pev, rev, oev, optr, ibin, sbin, ishf, bound, mmAll, mm2, mk, mkArgs, AV.cells, AV.boxable, AV.one, AV.strip1, fillA, fillS, Nat.reduceEqDiff, reduceCtorEq, ↓reduceIte, Nat.reduceAdd, Int.reduceNeg, Nat.reduceLeDiff, Int.reduceToNat, Int.reduceEq, Int.reduceLT, Int.reduceLE, Int.reduceAdd]) ⟨by simp, by simp, hs1'⟩ ?_ ?_
    · rintro ⟨o2, a⟩ H2 J ⟨hn, hle, hs⟩ hlt
      simp only [putMs, List.append_nil, bMs] at hn hle
      have h4 := bytesOf_len a
      have e3 : bytesOf a ++ [[AV.int .u8 125]] = bytesOf (a ++ [125]) := bytesOf_one a 125
      simp (disch := first | omega | assumption) only [h2, hlt, steps, st2, pev, rev, oev, optr, ibin, sbin, ishf, bound, mmAll, mm2, mk, mkArgs, AV.cells, AV.boxable, AV.one, AV.strip1, fillA, fillS, Nat.reduceEqDiff, reduceCtorEq, ↓reduceIte, Nat.reduceAdd, Int.reduceNeg, Nat.reduceLeDiff, Int.reduceToNat, Int.reduceEq, Int.reduceLT, Int.reduceLE, Int.reduceAdd]
      refine goP_ownS (by rw [h4]; exact hs.own) (by simp [h4]; omega) (by simp [h4, maxLen]; omega) fun o3 H3 hs3 => ?_
      simp (disch := first | omega | assumption) only [e3, steps, st2, pev, rev, oev, optr, ibin, sbin, ishf, bound, mmAll, mm2, mk, mkArgs, AV.cells, AV.boxable, AV.one, AV.strip1, fillA, fillS, Nat.reduceEqDiff, reduceCtorEq, ↓reduceIte, Nat.reduceAdd, Int.reduceNeg, Nat.reduceLeDiff, Int.reduceToNat, Int.reduceEq, Int.reduceLT, Int.reduceLE, Int.reduceAdd]
      have e2 : acc ++ putV (.mk k n s l m) = a ++ [125] := by rw [e, hn]; simp
      refine hQ _ _ H3 H3 [_] nofun rfl (Low.refl _) ?_
      rw [e2]
      exact ⟨o3, rfl, by rw [bytesOf_len]; exact hs.trans (by simpa [h4] using hs3)⟩
    · rintro done x rest ⟨o2, a⟩ H2 J hd hlt _ ⟨hn, hle, hs⟩ hJ
      have hg := cMs_get hd
      have hmem : x ∈ m := by rw [hd]; simp
      obtain ⟨t, v⟩ := x
      have hwv := wfMs_mem hwm t v hmem
      have hx := put_le v hwv
      have hqt := quote_len t
      have h4 := bytesOf_len a
      simp only [putMs, putM, bMs, bM] at hn hle
      simp (disch := first | omega | assumption) only [cV_len, cV_take, cV_splice, cM_len, cM_take, cM_splice, cM_mk, h2, hlt, hg, steps, st2, pev, rev, oev, optr, ibin, sbin, ishf, bound, mmAll, mm2, mk, mkArgs, AV.cells, AV.boxable, AV.one, AV.strip1, fillA, fillS, Nat.reduceEqDiff, reduceCtorEq, ↓reduceIte, Nat.reduceAdd, Int.reduceNeg, Nat.reduceLeDiff, Int.reduceToNat, Int.reduceEq, Int.reduceLT, Int.reduceLE, Int.reduceAdd]
      refine goA_intro fun b hb => ?_
      have fresh : ∀ (o3 : Own) (H3 : Heap) (n3 : Nat), OwnS (H2.upd b (.cells (cM (.mk t v)))) o2 H3 o3 n3 1 → H3 b = some (.cells (cM (.mk t v))) := fun o3 H3 n3 hs3 => hs3.kept b _ (upd_same ..) fun d e => by
        have := hs.own; subst e
        have hx : H2 b = _ := this
        rw [hb] at hx; cases hx
      cases done with
      | nil =>
        simp only [decide_true, if_true, List.nil_append] at hn
        simp (disch := first | omega | assumption) only [cV_len, cV_take, cV_splice, cM_len, cM_take, cM_splice, cM_mk, steps, st2, pev, rev, oev, optr, ibin, sbin, ishf, bound, mmAll, mm2, mk, mkArgs, AV.cells, AV.boxable, AV.one, AV.strip1, fillA, fillS, Nat.reduceEqDiff, reduceCtorEq, ↓reduceIte, Nat.reduceAdd, Int.reduceNeg, Nat.reduceLeDiff, Int.reduceToNat, Int.reduceEq, Int.reduceLT, Int.reduceLE, Int.reduceAdd]
        refine goK_gives (quoteC t a _ o2 (hs.own.upd hb) (by simp only [Lim]; omega)) fun o3 H3 hs3 => ?_
        rw [bytesOf_len] at hs3
        have f3 := fresh _ _ _ hs3
        have h5 := bytesOf_len (a ++ quoteM t)
        have ec : bytesOf (a ++ quoteM t) ++ [[AV.int .u8 58]] = bytesOf (a ++ quoteM t ++ [58]) := bytesOf_one _ 58
        simp (disch := first | omega | assumption) only [cV_len, cV_take, cV_splice, cM_len, cM_take, cM_splice, cM_mk, f3, cM_mk, steps, st2, pev, rev, oev, optr, ibin, sbin, ishf, bound, mmAll, mm2, mk, mkArgs, AV.cells, AV.boxable, AV.one, AV.strip1, fillA, fillS, Nat.reduceEqDiff, reduceCtorEq, ↓reduceIte, Nat.reduceAdd, Int.reduceNeg, Nat.reduceLeDiff, Int.reduceToNat, Int.reduceEq, Int.reduceLT, Int.reduceLE, Int.reduceAdd]
        refine goP_ownS (by rw [h5]; exact hs3.own) (by simp only [h5, List.length_append, List.length_cons, List.length_nil]; omega) (by simp only [h5, List.length_append, List.length_cons, List.length_nil, maxLen]; omega) fun o4 H4 hs4 => ?_
        have hs4' : OwnS (H2.upd b (.cells (cM (.mk t v)))) o2 H4 o4 (a ++ quoteM t ++ [58]).length 1 := hs3.trans (ownS_len hs4 (by rw [h5]; simp only [List.length_append, List.length_cons, List.length_nil]; try omega))
        have f4 := fresh _ _ _ hs4'
        simp (disch := first | omega | assumption) only [cV_len, cV_take, cV_splice, cM_len, cM_take, cM_splice, cM_mk, f4, ec, cM_mk, steps, st2, pev, rev, oev, optr, ibin, sbin, ishf, bound, mmAll, mm2, mk, mkArgs, AV.cells, AV.boxable, AV.one, AV.strip1, fillA, fillS, Nat.reduceEqDiff, reduceCtorEq, ↓reduceIte, Nat.reduceAdd, Int.reduceNeg, Nat.reduceLeDiff, Int.reduceToNat, Int.reduceEq, Int.reduceLT, Int.reduceLE, Int.reduceAdd]
        refine goK_gives (ihm t v hmem hwv (a ++ quoteM t ++ [58]) _ o4 (by simp only [Lim, List.length_append, List.length_cons, List.length_nil]; omega) hs4'.own) fun o5 H5 hs5 => ?_
        rw [bytesOf_len] at hs5
        simp (disch := first | omega | assumption) only [wrap64, steps, st2, pev, rev, oev, optr, ibin, sbin, ishf, bound, mmAll, mm2, mk, mkArgs, AV.cells, AV.boxable, AV.one, AV.strip1, fillA, fillS, Nat.reduceEqDiff, reduceCtorEq, ↓reduceIte, Nat.reduceAdd, Int.reduceNeg, Nat.reduceLeDiff, Int.reduceToNat, Int.reduceEq, Int.reduceLT, Int.reduceLE, Int.reduceAdd]
        exact goJ (hJ (o5, a ++ quoteM t ++ [58] ++ putV v) H5 ⟨by rw [← hn]; simp, by simp only [List.length_append, List.length_cons, List.length_nil]; omega, (hs.upd hb).trans (hs4'.trans hs5)⟩) (by simp (disch := first | omega | assumption) only [steps, st2, pev, rev, oev, optr, ibin, sbin, ishf, bound, mmAll, mm2, mk, mkArgs, AV.cells, AV.boxable, AV.one, AV.strip1, fillA, fillS, Nat.reduceEqDiff, reduceCtorEq, ↓reduceIte, Nat.reduceAdd, Int.reduceNeg, Nat.reduceLeDiff, Int.reduceToNat, Int.reduceEq, Int.reduceLT, Int.reduceLE, Int.reduceAdd])
      | cons y done =>
        have g0 : ((0 : Int) < ((done.length + 1 : Nat) : Int)) = True := eq_true (by omega)
        have hlt' := hlt
        simp only [List.length_cons] at hlt'
        have hw : IntKind.wrap .i64 (((done.length + 1 : Nat) : Int) + 1) = ((done.length + 1 : Nat) : Int) + 1 := wrap64 (by omega) (by omega)
        have ec0 : bytesOf a ++ [[AV.int .u8 44]] = bytesOf (a ++ [44]) := bytesOf_one a 44
        simp only [reduceCtorEq, decide_false, Bool.false_eq_true, if_false] at hn
        simp (disch := first | omega | assumption) only [cV_len, cV_take, cV_splice, cM_len, cM_take, cM_splice, cM_mk, g0, steps, st2, pev, rev, oev, optr, ibin, sbin, ishf, bound, mmAll, mm2, mk, mkArgs, AV.cells, AV.boxable, AV.one, AV.strip1, fillA, fillS, Nat.reduceEqDiff, reduceCtorEq, ↓reduceIte, Nat.reduceAdd, Int.reduceNeg, Nat.reduceLeDiff, Int.reduceToNat, Int.reduceEq, Int.reduceLT, Int.reduceLE, Int.reduceAdd]
        refine goP_ownS (by rw [h4]; exact hs.own.upd hb) (by simp [h4]; omega) (by simp [h4, maxLen]; omega) fun o3 H3 hs3 => ?_
        have hs3' : OwnS (H2.upd b (.cells (cM (.mk t v)))) o2 H3 o3 (a ++ [44]).length 1 := ownS_len hs3 (by simp [h4])
        have f3 := fresh _ _ _ hs3'
        simp (disch := first | omega | assumption) only [cV_len, cV_take, cV_splice, cM_len, cM_take, cM_splice, cM_mk, ec0, f3, cM_mk, steps, st2, pev, rev, oev, optr, ibin, sbin, ishf, bound, mmAll, mm2, mk, mkArgs, AV.cells, AV.boxable, AV.one, AV.strip1, fillA, fillS, Nat.reduceEqDiff, reduceCtorEq, ↓reduceIte, Nat.reduceAdd, Int.reduceNeg, Nat.reduceLeDiff, Int.reduceToNat, Int.reduceEq, Int.reduceLT, Int.reduceLE, Int.reduceAdd]
        refine goK_gives (quoteC t (a ++ [44]) _ o3 hs3'.own (by simp only [Lim, List.length_append, List.length_cons, List.length_nil]; omega)) fun o4 H4 hs4 => ?_
        rw [bytesOf_len] at hs4
        have hs4' := hs3'.trans hs4
        have f4 := fresh _ _ _ hs4'
        have h5 := bytesOf_len (a ++ [44] ++ quoteM t)
        have ec : bytesOf (a ++ [44] ++ quoteM t) ++ [[AV.int .u8 58]] = bytesOf (a ++ [44] ++ quoteM t ++ [58]) := bytesOf_one _ 58
        simp (disch := first | omega | assumption) only [cV_len, cV_take, cV_splice, cM_len, cM_take, cM_splice, cM_mk, f4, cM_mk, steps, st2, pev, rev, oev, optr, ibin, sbin, ishf, bound, mmAll, mm2, mk, mkArgs, AV.cells, AV.boxable, AV.one, AV.strip1, fillA, fillS, Nat.reduceEqDiff, reduceCtorEq, ↓reduceIte, Nat.reduceAdd, Int.reduceNeg, Nat.reduceLeDiff, Int.reduceToNat, Int.reduceEq, Int.reduceLT, Int.reduceLE, Int.reduceAdd]
        refine goP_ownS (by rw [h5]; exact hs4'.own) (by simp only [h5, List.length_append, List.length_cons, List.length_nil]; omega) (by simp only [h5, List.length_append, List.length_cons, List.length_nil, maxLen]; omega) fun o5 H5 hs5 => ?_
        have hs5' : OwnS (H2.upd b (.cells (cM (.mk t v)))) o2 H5 o5 (a ++ [44] ++ quoteM t ++ [58]).length 1 := hs4'.trans (ownS_len hs5 (by rw [h5]; simp only [List.length_append, List.length_cons, List.length_nil]; try omega))
        have f5 := fresh _ _ _ hs5'
        simp (disch := first | omega | assumption) only [cV_len, cV_take, cV_splice, cM_len, cM_take, cM_splice, cM_mk, f5, ec, cM_mk, steps, st2, pev, rev, oev, optr, ibin, sbin, ishf, bound, mmAll, mm2, mk, mkArgs, AV.cells, AV.boxable, AV.one, AV.strip1, fillA, fillS, Nat.reduceEqDiff, reduceCtorEq, ↓reduceIte, Nat.reduceAdd, Int.reduceNeg, Nat.reduceLeDiff, Int.reduceToNat, Int.reduceEq, Int.reduceLT, Int.reduceLE, Int.reduceAdd]
        refine goK_gives (ihm t v hmem hwv (a ++ [44] ++ quoteM t ++ [58]) _ o5 (by simp only [Lim, List.length_append, List.length_cons, List.length_nil]; omega) hs5'.own) fun o6 H6 hs6 => ?_
        rw [bytesOf_len] at hs6
        simp (disch := first | omega | assumption) only [hw, steps, st2, pev, rev, oev, optr, ibin, sbin, ishf, bound, mmAll, mm2, mk, mkArgs, AV.cells, AV.boxable, AV.one, AV.strip1, fillA, fillS, Nat.reduceEqDiff, reduceCtorEq, ↓reduceIte, Nat.reduceAdd, Int.reduceNeg, Nat.reduceLeDiff, Int.reduceToNat, Int.reduceEq, Int.reduceLT, Int.reduceLE, Int.reduceAdd]
        exact goJ (hJ (o6, a ++ [44] ++ quoteM t ++ [58] ++ putV v) H6 ⟨by rw [← hn]; simp, by simp only [List.length_append, List.length_cons, List.length_nil]; omega, (hs.upd hb).trans (hs5'.trans hs6)⟩) (by simp (disch := first | omega | assumption) only [steps, st2, pev, rev, oev, optr, ibin, sbin, ishf, bound, mmAll, mm2, mk, mkArgs, AV.cells, AV.boxable, AV.one, AV.strip1, fillA, fillS, Nat.reduceEqDiff, reduceCtorEq, ↓reduceIte, Nat.reduceAdd, Int.reduceNeg, Nat.reduceLeDiff, Int.reduceToNat, Int.reduceEq, Int.reduceLT, Int.reduceLE, Int.reduceAdd])
def nE (ns : List (List UInt8)) : List (AV × AV) := ns.map fun s => (.str s, .bool true)
theorem mget_n (s : List UInt8) : ∀ ns, (mget (nE ns) (.str s)).getD (.bool false) = .bool (ns.contains s)
  | [] => rfl
  | t :: ns => by
    have := mget_n s ns
    by_cases h : s = t
    · subst h; simp [nE, mget, AV.keq, AV.keq1]
    · simp only [nE, List.map_cons, mget, AV.keq, AV.keq1] at this ⊢
      simp [h]; simpa using this
theorem mset_n (s : List UInt8) : ∀ ns : List (List UInt8), ns.contains s = false → mset (nE ns) (.str s) (.bool true) = nE (ns ++ [s])
  | [], _ => rfl
  | t :: ns, h => by
    simp only [List.contains_cons, Bool.or_eq_false_iff] at h
    have := mset_n s ns h.2
    simp only [nE, List.map_cons, mset, AV.keq, AV.keq1, List.cons_append, h.1] at this ⊢
    simp [this]
theorem singC : ∀ v, bV v ≤ Lim → Pure Tryz.prog 44 [.agg (cV v)] (.bool (singV v)) := by
  refine Val.ind fun k n s l m ihl ihm hb => ?_
  have hb' : 1 + s.length + bVs l + bMs m ≤ Lim := hb
  have hll := bVs_len l
  have hml := bMs_len m
  have h1 := cVs_len l
  have h2 := cMs_len m
  simp only [Lim] at hb'
  refine Pure.go ir44 ck44 (Nat.le_refl _) fun KP Q hQ => ?_
  by_cases k5 : k = 5
  · subst k5
    simp (disch := first | omega | assumption) only [ir44, cV_mk, steps, st2, pev, rev, oev, optr, ibin, sbin, ishf, bound, mmAll, mm2, mk, mkArgs, AV.cells, AV.boxable, AV.one, AV.strip1, fillA, fillS, Nat.reduceEqDiff, reduceCtorEq, ↓reduceIte, Nat.reduceAdd, Int.reduceNeg, Nat.reduceLeDiff, Int.reduceToNat, Int.reduceEq, Int.reduceLT, Int.reduceLE, Int.reduceAdd]
    exact hQ _ _ _ _ nofun rfl (by simp [tupOf, envOf, AV.strip, AV.strip1, singV])
  by_cases k8 : k = 8
  · subst k8
    simp (disch := first | omega | assumption) only [ir44, cV_mk, steps, st2, pev, rev, oev, optr, ibin, sbin, ishf, bound, mmAll, mm2, mk, mkArgs, AV.cells, AV.boxable, AV.one, AV.strip1, fillA, fillS, Nat.reduceEqDiff, reduceCtorEq, ↓reduceIte, Nat.reduceAdd, Int.reduceNeg, Nat.reduceLeDiff, Int.reduceToNat, Int.reduceEq, Int.reduceLT, Int.reduceLE, Int.reduceAdd]
    exact hQ _ _ _ _ nofun rfl (by simp [tupOf, envOf, AV.strip, AV.strip1, singV])
  simp (disch := first | omega | assumption) only [ir44, cV_mk, k5, k8, h1, steps, st2, pev, rev, oev, optr, ibin, sbin, ishf, bound, mmAll, mm2, mk, mkArgs, AV.cells, AV.boxable, AV.one, AV.strip1, fillA, fillS, Nat.reduceEqDiff, reduceCtorEq, ↓reduceIte, Nat.reduceAdd, Int.reduceNeg, Nat.reduceLeDiff, Int.reduceToNat, Int.reduceEq, Int.reduceLT, Int.reduceLE, Int.reduceAdd]
  refine goL_range l 19 (fun _ : Unit => []) (fun done rest _ H => singVs rest = singVs l) () (by simp (disch := first | omega | assumption) only [steps, st2, pev, rev, oev, optr, ibin, sbin, ishf, bound, mmAll, mm2, mk, mkArgs, AV.cells, AV.boxable, AV.one, AV.strip1, fillA, fillS, Nat.reduceEqDiff, reduceCtorEq, ↓reduceIte, Nat.reduceAdd, Int.reduceNeg, Nat.reduceLeDiff, Int.reduceToNat, Int.reduceEq, Int.reduceLT, Int.reduceLE, Int.reduceAdd]) rfl ?_ ?_
  · rintro _ H J hn hlt
    simp only [singVs] at hn
    simp (disch := first | omega | assumption) only [h1, hlt, steps, st2, pev, rev, oev, optr, ibin, sbin, ishf, bound, mmAll, mm2, mk, mkArgs, AV.cells, AV.boxable, AV.one, AV.strip1, fillA, fillS, Nat.reduceEqDiff, reduceCtorEq, ↓reduceIte, Nat.reduceAdd, Int.reduceNeg, Nat.reduceLeDiff, Int.reduceToNat, Int.reduceEq, Int.reduceLT, Int.reduceLE, Int.reduceAdd]
    refine goA_intro fun bm hbm => ?_
    simp (disch := first | omega | assumption) only [h2, steps, st2, pev, rev, oev, optr, ibin, sbin, ishf, bound, mmAll, mm2, mk, mkArgs, AV.cells, AV.boxable, AV.one, AV.strip1, fillA, fillS, Nat.reduceEqDiff, reduceCtorEq, ↓reduceIte, Nat.reduceAdd, Int.reduceNeg, Nat.reduceLeDiff, Int.reduceToNat, Int.reduceEq, Int.reduceLT, Int.reduceLE, Int.reduceAdd]
    refine goL_range m 31 (fun _ : Unit => []) (fun done rest _ H' => singMs (done.map nmM) rest = singMs [] m ∧ H' bm = some (.map (.one .s) (nE (done.map nmM)))) () (by simp (disch := first | omega | assumption) only [steps, st2, pev, rev, oev, optr, ibin, sbin, ishf, bound, mmAll, mm2, mk, mkArgs, AV.cells, AV.boxable, AV.one, AV.strip1, fillA, fillS, Nat.reduceEqDiff, reduceCtorEq, ↓reduceIte, Nat.reduceAdd, Int.reduceNeg, Nat.reduceLeDiff, Int.reduceToNat, Int.reduceEq, Int.reduceLT, Int.reduceLE, Int.reduceAdd]) ⟨rfl, by simp [Heap.upd, nE]⟩ ?_ ?_
    · rintro _ H' J' ⟨hm, hH⟩ hlt2
      simp only [singMs] at hm
      simp (disch := first | omega | assumption) only [h2, hlt2, steps, st2, pev, rev, oev, optr, ibin, sbin, ishf, bound, mmAll, mm2, mk, mkArgs, AV.cells, AV.boxable, AV.one, AV.strip1, fillA, fillS, Nat.reduceEqDiff, reduceCtorEq, ↓reduceIte, Nat.reduceAdd, Int.reduceNeg, Nat.reduceLeDiff, Int.reduceToNat, Int.reduceEq, Int.reduceLT, Int.reduceLE, Int.reduceAdd]
      exact hQ _ _ _ _ nofun rfl (by simp [tupOf, envOf, AV.strip, AV.strip1, singV, k5, k8, ← hn, ← hm])
    · rintro done x rest _ H' J' hd hlt2 _ ⟨hm, hH⟩ hJ
      have hg := cMs_get hd
      have hmem : x ∈ m := by rw [hd]; simp
      obtain ⟨t, v⟩ := x
      have hbv : bV v ≤ Lim := by
        have := bMs_mid done (.mk t v) rest
        rw [← hd] at this
        simp only [bM] at this
        simp only [Lim]; omega
      have hfit : KT.fits (.one .s) (.str t) = true := rfl
      have hmg := mget_n t (done.map nmM)
      simp only [singMs, nmM, singM] at hm
      simp (disch := first | omega | assumption) only [cV_len, cV_take, cV_splice, cM_len, cM_take, cM_splice, cM_mk, h2, hlt2, hg, steps, st2, pev, rev, oev, optr, ibin, sbin, ishf, bound, mmAll, mm2, mk, mkArgs, AV.cells, AV.boxable, AV.one, AV.strip1, fillA, fillS, Nat.reduceEqDiff, reduceCtorEq, ↓reduceIte, Nat.reduceAdd, Int.reduceNeg, Nat.reduceLeDiff, Int.reduceToNat, Int.reduceEq, Int.reduceLT, Int.reduceLE, Int.reduceAdd]
      refine goA_intro fun b hb => ?_
      have hne : bm ≠ b := fun e => by subst e; rw [hb] at hH; cases hH
      cases hc : (done.map nmM).contains t
      · rw [hc] at hmg hm
        simp only [Bool.not_false, Bool.true_and] at hm
        simp (disch := first | omega | assumption) only [cV_len, cV_take, cV_splice, cM_len, cM_take, cM_splice, cM_mk, hH, hne, hfit, hmg, lkres, steps, st2, pev, rev, oev, optr, ibin, sbin, ishf, bound, mmAll, mm2, mk, mkArgs, AV.cells, AV.boxable, AV.one, AV.strip1, fillA, fillS, Nat.reduceEqDiff, reduceCtorEq, ↓reduceIte, Nat.reduceAdd, Int.reduceNeg, Nat.reduceLeDiff, Int.reduceToNat, Int.reduceEq, Int.reduceLT, Int.reduceLE, Int.reduceAdd]
        refine goK_pure (ihm t v hmem hbv) ?_
        cases hx : singV v
        · rw [hx] at hm
          simp (disch := first | omega | assumption) only [cV_len, cV_take, cV_splice, cM_len, cM_take, cM_splice, cM_mk, steps, st2, pev, rev, oev, optr, ibin, sbin, ishf, bound, mmAll, mm2, mk, mkArgs, AV.cells, AV.boxable, AV.one, AV.strip1, fillA, fillS, Nat.reduceEqDiff, reduceCtorEq, ↓reduceIte, Nat.reduceAdd, Int.reduceNeg, Nat.reduceLeDiff, Int.reduceToNat, Int.reduceEq, Int.reduceLT, Int.reduceLE, Int.reduceAdd]
          exact hQ _ _ _ _ nofun rfl (by simp [tupOf, envOf, AV.strip, AV.strip1, singV, k5, k8, ← hn, ← hm])
        · rw [hx, Bool.true_and] at hm
          simp (disch := first | omega | assumption) only [cV_len, cV_take, cV_splice, cM_len, cM_take, cM_splice, cM_mk, hH, hne, hfit, mset_n t _ hc, wrap64, steps, st2, pev, rev, oev, optr, ibin, sbin, ishf, bound, mmAll, mm2, mk, mkArgs, AV.cells, AV.boxable, AV.one, AV.strip1, fillA, fillS, Nat.reduceEqDiff, reduceCtorEq, ↓reduceIte, Nat.reduceAdd, Int.reduceNeg, Nat.reduceLeDiff, Int.reduceToNat, Int.reduceEq, Int.reduceLT, Int.reduceLE, Int.reduceAdd]
          exact goJ (hJ () _ ⟨by simpa [nmM] using hm, by simp [nmM, Heap.upd]⟩) (by simp (disch := first | omega | assumption) only [steps, st2, pev, rev, oev, optr, ibin, sbin, ishf, bound, mmAll, mm2, mk, mkArgs, AV.cells, AV.boxable, AV.one, AV.strip1, fillA, fillS, Nat.reduceEqDiff, reduceCtorEq, ↓reduceIte, Nat.reduceAdd, Int.reduceNeg, Nat.reduceLeDiff, Int.reduceToNat, Int.reduceEq, Int.reduceLT, Int.reduceLE, Int.reduceAdd])
      · rw [hc] at hmg hm
        simp (disch := first | omega | assumption) only [cV_len, cV_take, cV_splice, cM_len, cM_take, cM_splice, cM_mk, hH, hne, hfit, hmg, lkres, steps, st2, pev, rev, oev, optr, ibin, sbin, ishf, bound, mmAll, mm2, mk, mkArgs, AV.cells, AV.boxable, AV.one, AV.strip1, fillA, fillS, Nat.reduceEqDiff, reduceCtorEq, ↓reduceIte, Nat.reduceAdd, Int.reduceNeg, Nat.reduceLeDiff, Int.reduceToNat, Int.reduceEq, Int.reduceLT, Int.reduceLE, Int.reduceAdd]
        exact hQ _ _ _ _ nofun rfl (by simp [tupOf, envOf, AV.strip, AV.strip1, singV, k5, k8, ← hn, ← hm])
  · rintro done x rest _ H' J hd hlt _ hn hJ
    have hg := cVs_get hd
    have hmem : x ∈ l := by rw [hd]; simp
    have hbv : bV x ≤ Lim := by
      have := bVs_mid done x rest
      rw [← hd] at this
      simp only [Lim]; omega
    simp only [singVs] at hn
    simp (disch := first | omega | assumption) only [cV_len, cV_take, cV_splice, cM_len, cM_take, cM_splice, cM_mk, h1, hlt, hg, steps, st2, pev, rev, oev, optr, ibin, sbin, ishf, bound, mmAll, mm2, mk, mkArgs, AV.cells, AV.boxable, AV.one, AV.strip1, fillA, fillS, Nat.reduceEqDiff, reduceCtorEq, ↓reduceIte, Nat.reduceAdd, Int.reduceNeg, Nat.reduceLeDiff, Int.reduceToNat, Int.reduceEq, Int.reduceLT, Int.reduceLE, Int.reduceAdd]
    refine goA_intro fun b hb => ?_
    simp (disch := first | omega | assumption) only [cV_len, cV_take, cV_splice, cM_len, cM_take, cM_splice, cM_mk, steps, st2, pev, rev, oev, optr, ibin, sbin, ishf, bound, mmAll, mm2, mk, mkArgs, AV.cells, AV.boxable, AV.one, AV.strip1, fillA, fillS, Nat.reduceEqDiff, reduceCtorEq, ↓reduceIte, Nat.reduceAdd, Int.reduceNeg, Nat.reduceLeDiff, Int.reduceToNat, Int.reduceEq, Int.reduceLT, Int.reduceLE, Int.reduceAdd]
    refine goK_pure (ihl x hmem hbv) ?_
    cases hx : singV x
    · rw [hx] at hn
      simp (disch := first | omega | assumption) only [cV_len, cV_take, cV_splice, cM_len, cM_take, cM_splice, cM_mk, steps, st2, pev, rev, oev, optr, ibin, sbin, ishf, bound, mmAll, mm2, mk, mkArgs, AV.cells, AV.boxable, AV.one, AV.strip1, fillA, fillS, Nat.reduceEqDiff, reduceCtorEq, ↓reduceIte, Nat.reduceAdd, Int.reduceNeg, Nat.reduceLeDiff, Int.reduceToNat, Int.reduceEq, Int.reduceLT, Int.reduceLE, Int.reduceAdd]
      exact hQ _ _ _ _ nofun rfl (by simp [tupOf, envOf, AV.strip, AV.strip1, singV, k5, k8, ← hn])
    · rw [hx, Bool.true_and] at hn
      simp (disch := first | omega | assumption) only [cV_len, cV_take, cV_splice, cM_len, cM_take, cM_splice, cM_mk, wrap64, steps, st2, pev, rev, oev, optr, ibin, sbin, ishf, bound, mmAll, mm2, mk, mkArgs, AV.cells, AV.boxable, AV.one, AV.strip1, fillA, fillS, Nat.reduceEqDiff, reduceCtorEq, ↓reduceIte, Nat.reduceAdd, Int.reduceNeg, Nat.reduceLeDiff, Int.reduceToNat, Int.reduceEq, Int.reduceLT, Int.reduceLE, Int.reduceAdd]
      exact goJ (hJ () _ hn) (by simp (disch := first | omega | assumption) only [steps, st2, pev, rev, oev, optr, ibin, sbin, ishf, bound, mmAll, mm2, mk, mkArgs, AV.cells, AV.boxable, AV.one, AV.strip1, fillA, fillS, Nat.reduceEqDiff, reduceCtorEq, ↓reduceIte, Nat.reduceAdd, Int.reduceNeg, Nat.reduceLeDiff, Int.reduceToNat, Int.reduceEq, Int.reduceLT, Int.reduceLE, Int.reduceAdd])
theorem RightC (v : Val) (hb : bV v ≤ Lim) : Pure Tryz.prog 20 [.agg (cV v)] (.bool (rightV v)) := by
  refine Pure.go ir20 ck20 (Nat.le_refl _) fun KP Q hQ => ?_
  simp (disch := first | omega | assumption) only [cV_len, cV_take, cV_splice, cM_len, cM_take, cM_splice, cM_mk, ir20, steps, st2, pev, rev, oev, optr, ibin, sbin, ishf, bound, mmAll, mm2, mk, mkArgs, AV.cells, AV.boxable, AV.one, AV.strip1, fillA, fillS, Nat.reduceEqDiff, reduceCtorEq, ↓reduceIte, Nat.reduceAdd, Int.reduceNeg, Nat.reduceLeDiff, Int.reduceToNat, Int.reduceEq, Int.reduceLT, Int.reduceLE, Int.reduceAdd]
  refine goK_pure (goodVC v hb) ?_
  cases h : goodV v
  · simp (disch := first | omega | assumption) only [cV_len, cV_take, cV_splice, cM_len, cM_take, cM_splice, cM_mk, steps, st2, pev, rev, oev, optr, ibin, sbin, ishf, bound, mmAll, mm2, mk, mkArgs, AV.cells, AV.boxable, AV.one, AV.strip1, fillA, fillS, Nat.reduceEqDiff, reduceCtorEq, ↓reduceIte, Nat.reduceAdd, Int.reduceNeg, Nat.reduceLeDiff, Int.reduceToNat, Int.reduceEq, Int.reduceLT, Int.reduceLE, Int.reduceAdd]
    exact hQ _ _ _ _ nofun rfl (by simp [tupOf, envOf, AV.strip, AV.strip1, rightV, h])
  · simp (disch := first | omega | assumption) only [cV_len, cV_take, cV_splice, cM_len, cM_take, cM_splice, cM_mk, steps, st2, pev, rev, oev, optr, ibin, sbin, ishf, bound, mmAll, mm2, mk, mkArgs, AV.cells, AV.boxable, AV.one, AV.strip1, fillA, fillS, Nat.reduceEqDiff, reduceCtorEq, ↓reduceIte, Nat.reduceAdd, Int.reduceNeg, Nat.reduceLeDiff, Int.reduceToNat, Int.reduceEq, Int.reduceLT, Int.reduceLE, Int.reduceAdd]
    refine goK_pure (singC v hb) ?_
    simp (disch := first | omega | assumption) only [steps, st2, pev, rev, oev, optr, ibin, sbin, ishf, bound, mmAll, mm2, mk, mkArgs, AV.cells, AV.boxable, AV.one, AV.strip1, fillA, fillS, Nat.reduceEqDiff, reduceCtorEq, ↓reduceIte, Nat.reduceAdd, Int.reduceNeg, Nat.reduceLeDiff, Int.reduceToNat, Int.reduceEq, Int.reduceLT, Int.reduceLE, Int.reduceAdd]
    exact hQ _ _ _ _ nofun rfl (by simp [tupOf, envOf, AV.strip, AV.strip1, rightV, h])
theorem PrintC (v : Val) (hw : wfV v) (hb : 25 * bV v ≤ Lim) : Pure Tryz.prog 18 [.agg (cV v)] (.tup [.str (printM v).1, .bool (printM v).2]) := by
  have hb' : bV v ≤ Lim := by omega
  refine Pure.go ir18 ck18 (Nat.le_refl _) fun KP Q hQ => ?_
  simp (disch := first | omega | assumption) only [cV_len, cV_take, cV_splice, cM_len, cM_take, cM_splice, cM_mk, ir18, steps, st2, pev, rev, oev, optr, ibin, sbin, ishf, bound, mmAll, mm2, mk, mkArgs, AV.cells, AV.boxable, AV.one, AV.strip1, fillA, fillS, Nat.reduceEqDiff, reduceCtorEq, ↓reduceIte, Nat.reduceAdd, Int.reduceNeg, Nat.reduceLeDiff, Int.reduceToNat, Int.reduceEq, Int.reduceLT, Int.reduceLE, Int.reduceAdd]
  refine goK_pure (RightC v hb') ?_
  cases h : rightV v
  · simp (disch := first | omega | assumption) only [cV_len, cV_take, cV_splice, cM_len, cM_take, cM_splice, cM_mk, steps, st2, pev, rev, oev, optr, ibin, sbin, ishf, bound, mmAll, mm2, mk, mkArgs, AV.cells, AV.boxable, AV.one, AV.strip1, fillA, fillS, Nat.reduceEqDiff, reduceCtorEq, ↓reduceIte, Nat.reduceAdd, Int.reduceNeg, Nat.reduceLeDiff, Int.reduceToNat, Int.reduceEq, Int.reduceLT, Int.reduceLE, Int.reduceAdd]
    exact hQ _ _ _ _ nofun rfl (by simp [tupOf, envOf, AV.strip, AV.strip1, printM, h])
  · simp (disch := first | omega | assumption) only [cV_len, cV_take, cV_splice, cM_len, cM_take, cM_splice, cM_mk, steps, st2, pev, rev, oev, optr, ibin, sbin, ishf, bound, mmAll, mm2, mk, mkArgs, AV.cells, AV.boxable, AV.one, AV.strip1, fillA, fillS, Nat.reduceEqDiff, reduceCtorEq, ↓reduceIte, Nat.reduceAdd, Int.reduceNeg, Nat.reduceLeDiff, Int.reduceToNat, Int.reduceEq, Int.reduceLT, Int.reduceLE, Int.reduceAdd]
    refine goK_gives (putC v hw [] _ .nil (by simpa using hb) rfl) fun o' H' hs => ?_
    simp (disch := first | omega | assumption) only [byts_of, steps, st2, pev, rev, oev, optr, ibin, sbin, ishf, bound, mmAll, mm2, mk, mkArgs, AV.cells, AV.boxable, AV.one, AV.strip1, fillA, fillS, Nat.reduceEqDiff, reduceCtorEq, ↓reduceIte, Nat.reduceAdd, Int.reduceNeg, Nat.reduceLeDiff, Int.reduceToNat, Int.reduceEq, Int.reduceLT, Int.reduceLE, Int.reduceAdd]
    exact hQ _ _ _ _ nofun rfl (by simp [tupOf, envOf, AV.strip, AV.strip1, printM, h])
end Go.Proofs.YtpjafglhdlfnbaaGreatDoor
namespace Go.Proofs.YtpjafglhdlfnbaaGreatDoor
open Go.Ab Go.Lib
structure SInv' (q : Sd) (t : List UInt8) : Prop where
  none : q.u = [] → validD (q.b ++ t) = true
  some : q.u ≠ [] → validD q.b = true ∧ validD t = true
theorem flush_b {q : Sd} (h : validD q.b = true) : validD (flushM q).b = true := by
  unfold flushM
  cases hj : joinM q.u with
  | none => simpa using h
  | some s => exact validA2 h (join_valid _ _ hj)
theorem flush_nil {q : Sd} (h : q.u = []) : (flushM q).b = q.b := by unfold flushM; rw [h]; simp [joinM]
theorem SInv'.low {q : Sd} {c : UInt8} {t : List UInt8} (h : SInv' q (c :: t)) (hc : c.toNat < 128) : validD q.b = true ∧ validD t = true := by
  by_cases hu : q.u = []
  · exact validS hc (h.none hu)
  · obtain ⟨h1, h2⟩ := h.some hu
    rw [validD_cons c t hc] at h2
    exact ⟨h1, h2⟩
theorem SInv'.put {q : Sd} {c : UInt8} {t : List UInt8} (h : SInv' q (c :: t)) : SInv' (q.put c) t := by
  refine ⟨fun _ => ?_, fun e => absurd rfl e⟩
  show validD (((flushM q).b ++ [c]) ++ t) = true
  rw [List.append_assoc]
  by_cases hu : q.u = []
  · rw [flush_nil hu]; exact h.none hu
  · obtain ⟨h1, h2⟩ := h.some hu
    exact validA2 (flush_b h1) h2
def LR (n : Int) (l : List Val) : Prop := ∀ v ∈ l, rightV v = true ∧ depthV v ≤ n
theorem LR.all {n : Int} : ∀ {l : List Val}, LR n l → allVs validD l = true ∧ singVs l = true
  | [], _ => ⟨rfl, rfl⟩
  | v :: l, h => by
    have h1 := LR.all (l := l) fun x hx => h x (.tail _ hx)
    have h2 := (h v (.head _)).1
    simp only [rightV, goodV, Bool.and_eq_true] at h2
    simp [allVs, singVs, h1.1, h1.2, h2.1, h2.2]
end Go.Proofs.YtpjafglhdlfnbaaGreatDoor
namespace Go.Proofs.YtpjafglhdlfnbaaGreatDoor
open Go.Ab Go.Lib
theorem readC (s : List UInt8) (hl : s.length ≤ LimS) : Pure Tryz.prog 13 [.str s] (.tup [.agg (cV (readM s).1), .int .i64 (readM s).2]) := by
  refine ACalls.strip ((readS s hl).mono fun e H' hq => ?_)
  cases e with
  | ret v => exact ⟨by rw [hq.1]; rfl, hq.2⟩
  | pan v => exact hq.elim
def exA : List UInt8 := [123, 34, 97, 34, 58, 49, 44, 34, 92, 117, 48, 48, 54, 49, 34, 58, 50, 125]
def exB : List UInt8 := [91, 49, 46, 48, 44, 45, 48, 93]
def exBV : Val := .mk 6 0 [] [.mk 3 0 [49, 46, 48] [] [], .mk 2 0 [] [] []] []
theorem exA_r : (readM exA).2 = 5 := by decide +kernel
theorem exB_r : readM exB = (exBV, 0) := by kernel_rfl
theorem exB_p : printM exBV = ([91, 49, 46, 48, 44, 48, 93], true) := by
  have h : rightV exBV = true := by decide +kernel
  unfold printM; rw [h]
  simp [exBV, putV, putVs, itoa, decDigits]
theorem awakeJ : Pure Tryz.prog 12 [] (.bool true) := by
  refine Pure.go ir12 ck12 (Nat.le_refl _) fun KP Q hQ => ?_
  simp (disch := first | omega | assumption) only [ir12, go_sem, ↓reduceIte]
  refine goK_pure (readC exA (by decide)) ?_
  rw [exA_r]
  simp (disch := first | omega | assumption) only [cV_len, cV_take, cV_splice, cM_len, cM_take, cM_splice, cM_mk, go_sem, ↓reduceIte]
  refine goA_intro fun b hb => ?_
  simp (disch := first | omega | assumption) only [cV_len, cV_take, cV_splice, cM_len, cM_take, cM_splice, cM_mk, go_sem, ↓reduceIte]
  refine goK_pure (readC exB (by decide)) ?_
  rw [exB_r]
  simp (disch := first | omega | assumption) only [cV_len, cV_take, cV_splice, cM_len, cM_take, cM_splice, cM_mk, go_sem, ↓reduceIte]
  refine goA_intro fun b2 hb2 => ?_
  simp (disch := first | omega | assumption) only [cV_len, cV_take, cV_splice, cM_len, cM_take, cM_splice, cM_mk, go_sem, ↓reduceIte]
  refine goK_pure (PrintC exBV (by simp [exBV, wfV, wfVs, wfMs, inR]) (by decide)) ?_
  rw [exB_p]
  simp (disch := first | omega | assumption) only [exBV, cV, cVs, cMs, go_sem, ↓reduceIte]
  exact hQ _ _ _ _ nofun rfl (by simp [tupOf, envOf, AV.strip, AV.strip1])
end Go.Proofs.YtpjafglhdlfnbaaGreatDoor
namespace Go.Proofs.YtpjafglhdlfnbaaGreatDoor
open Go.Ab Go.Lib
open Go.ChangeShapes Go.WideShapes Go.ChangeAt Go.RowKit Go.WideElems
mutual
theorem bulk_eq {H : Type} : ∀ d : DataW H, Rows.uptoBulk d = blk d
  | .lit (.string _) => rfl
  | .lit (.bool _) => rfl
  | .lit (.int _ _) => rfl
  | .lit (.float _ _) => rfl
  | .lit .nil => rfl
  | .nil => rfl
  | .ptr d => by simp only [Rows.uptoBulk, blk, bulk_eq d]
  | .slice e s => by simp only [Rows.uptoBulk, blk, bulkAll_eq e, bulkAll_eq s]
  | .agg e => by simp only [Rows.uptoBulk, blk, bulkAll_eq e]
  | .iface _ d => by simp only [Rows.uptoBulk, blk, bulk_eq d]
  | .map e => by simp only [Rows.uptoBulk, blk, bulkEs_eq e]
  | .held _ => rfl
theorem bulkAll_eq {H : Type} : ∀ d : List (DataW H), Rows.uptoBulkAll d = blkAll d
  | [] => rfl
  | d :: r => by simp only [Rows.uptoBulkAll, blkAll, bulk_eq d, bulkAll_eq r]
theorem bulkEs_eq {H : Type} : ∀ d : List (Lit × DataW H), Rows.uptoBulkEntries d = blkEs d
  | [] => rfl
  | x :: r => by simp only [Rows.uptoBulkEntries, blkEs, bulkE_eq x, bulkEs_eq r]
theorem bulkE_eq {H : Type} : ∀ d : Lit × DataW H, Rows.uptoBulkEntry d = blkE d
  | (.string _, d) => by simp only [Rows.uptoBulkEntry, blkE, bulk_eq d]
  | (.bool _, d) => by simp only [Rows.uptoBulkEntry, blkE, bulk_eq d]
  | (.int _ _, d) => by simp only [Rows.uptoBulkEntry, blkE, bulk_eq d]
  | (.float _ _, d) => by simp only [Rows.uptoBulkEntry, blkE, bulk_eq d]
  | (.nil, d) => by simp only [Rows.uptoBulkEntry, blkE, bulk_eq d]
end
def EntryOk (W : World) (g : Nat) (ps : List (Value → Prop)) : Prop :=
  (∃ (arr : Array Value) (E : TypeId) (fr : Nat × Nat), W.heap[g]? = some (.cells arr E fr) ∧ arr.size = ps.length) ∧ ∀ (j : Nat) (p : Value → Prop), ps[j]? = some p → ∃ v, CellIs immG W g j v ∧ p v
theorem entry_of_var {W : World} {n : String} {g : Nat} {cs : Array Value} {ps : List (Value → Prop)} (hg : Tryz.prog.globalNamed n = some g) (hv : W.var? Tryz.prog n = some cs) (hl : cs.size = ps.length)
    (h : ∀ (j : Nat) (p : Value → Prop) v, ps[j]? = some p → cs[j]? = some v → v.oneCell' = true ∧ p v) : EntryOk W g ps := by
  refine ⟨?_, fun j p hp => ?_⟩
  · have h1 := hv
    simp only [World.var?, hg, Option.bind_some] at h1
    split at h1
    · rename_i c t fr he
      cases h1
      exact ⟨_, _, _, he, hl⟩
    · cases h1
  · have hj : j < cs.size := by
      have := (List.getElem?_eq_some_iff.1 hp).1
      omega
    have h1 := h j p cs[j] hp (Array.getElem?_eq_getElem hj)
    refine ⟨cs[j], ⟨?_, trivial, h1.1⟩, h1.2⟩
    rw [World.var?_cell hg hv j, Array.getElem?_eq_getElem hj]
theorem entry_ints {W : World} {n : String} {g cnt : Nat} {t e : TypeId} {k : IntKind} {zs : List Nat} (hg : Tryz.prog.globalNamed n = some g) (hty : (Tryz.prog.globals[g]?).map (·.type) = some t) (ht : Tryz.prog.underlying t = some (.array cnt e)) (he : Tryz.prog.underlying e = some (.int k)) (hce : Tryz.prog.cellsOf e = 1) (hct : Tryz.prog.cellsOf t = cnt)
    (h : VarReads Tryz.prog W n (tabData k (zs.map fun (z : Nat) => (z : Int)))) : EntryOk W g (zs.map fun (z : Nat) (v : Value) => v = .int k z) := by
  obtain ⟨g', t', cs, fuel, p, hg', ht', hvar, hd⟩ := h
  obtain rfl := Option.some.inj (hg.symm.trans hg')
  obtain rfl := Option.some.inj (hty.symm.trans ht')
  have hcs := cells_of_tab ht he hce hct hd
  refine entry_of_var hg hvar (by rw [← Array.length_toList, hcs]; simp) fun j p v hp hj => ?_
  rw [← Array.getElem?_toList, hcs] at hj
  simp only [List.getElem?_map, Option.map_eq_some_iff] at hp hj
  obtain ⟨z, hz, rfl⟩ := hp
  obtain ⟨y, ⟨z', hz', rfl⟩, rfl⟩ := hj
  rw [hz] at hz'
  cases hz'
  exact ⟨rfl, rfl⟩
theorem u8x : U8Extra Tryz.prog Tryz.lays196_ren := ⟨by kernel_rfl, by kernel_rfl, by kernel_rfl, by kernel_rfl, by kernel_rfl, by kernel_rfl, by kernel_rfl⟩
theorem acc_at2 : ∀ c : Fin 32, accZ[c.val]? = some (if c.val % 2 = 0 then Lib.accLo (c.val / 2) else Lib.accHi (c.val / 2)) := by decide +kernel
theorem entry_accept {W : World} (h1 : VarReads Tryz.prog W "unicode/utf8.first" firstData) (h2 : VarReads Tryz.prog W "unicode/utf8.acceptRanges" acceptData) : EntryOk W 1 (accZ.map fun (n : Nat) (v : Value) => v = .int .u8 n) := by
  have ht := utf8Tabs_of_readsT (U8Types.of196 Tryz.lays196) u8x h1 h2
  obtain ⟨g', t', cs, fuel, p, hg', ht', hvar, hd⟩ := h2
  obtain rfl := Option.some.inj ((show Tryz.prog.globalNamed "unicode/utf8.acceptRanges" = some 1 by kernel_rfl).symm.trans hg')
  obtain rfl := Option.some.inj (u8x.y4.symm.trans ht')
  have hcs : cs.size = 32 := by
    have h3 : fuel ≠ 0 := fun e => by subst e; simp [DataW.trod] at hd
    obtain ⟨fuel, rfl⟩ := Nat.exists_eq_succ_of_ne_zero h3
    have h4 : cs.toList.length = Tryz.prog.cellsOf (Tryz.lays196_ren.t 139) := by
      have hu := (U8Types.of196 Tryz.lays196).t139
      simp only [DataW.trod, hu, u8x.c138] at hd
      split at hd
      · rename_i hl; simpa using hl
      · cases hd
    rw [← Array.length_toList, h4]; exact (show Tryz.prog.cellsOf (Tryz.lays196_ren.t 139) = 32 by kernel_rfl)
  refine entry_of_var hg' hvar (by rw [hcs]; rfl) fun j p v hp hj => ?_
  have hj32 : j < 32 := by rw [← hcs]; exact (Array.getElem?_eq_some_iff.1 hj).1
  simp only [List.getElem?_map, Option.map_eq_some_iff] at hp
  obtain ⟨z, hz, rfl⟩ := hp
  rw [acc_at2 ⟨j, hj32⟩] at hz
  cases hz
  have ⟨a1, a2⟩ := ht.2 (j / 2) (by omega)
  rcases Nat.mod_two_eq_zero_or_one j with e | e
  · have e2 : 2 * (j / 2) = j := by omega
    rw [e2] at a1
    have h5 := (World.var?_cell hg' hvar j).symm.trans a1
    rw [hj] at h5
    cases h5
    simp [e, Value.oneCell']
  · have e2 : 2 * (j / 2) + 1 = j := by omega
    rw [e2] at a2
    have h5 := (World.var?_cell hg' hvar j).symm.trans a2
    rw [hj] at h5
    cases h5
    simp [e, Value.oneCell']
theorem entry_err {W : World} {n : String} {g : Nat} {t : TypeId} {s : String} {d : DataW Unit} (hg : Tryz.prog.globalNamed n = some g) (hty : (Tryz.prog.globals[g]?).map (·.type) = some t) {ms : Array (String × TypeId)} (hu : Tryz.prog.underlying t = some (.interface ms)) (h : VarReads Tryz.prog W n (.iface s d)) : EntryOk W g [fun v => ∃ te pe, v = .iface te pe] := by
  obtain ⟨g', t', cs, fuel, p, hg', ht', hvar, hd⟩ := h
  obtain rfl := Option.some.inj (hg.symm.trans hg')
  obtain rfl := Option.some.inj (hty.symm.trans ht')
  have h1 : ∃ te pe, cs.toList = [.iface te pe] := by
    cases fuel with
    | zero => simp [DataW.trod] at hd
    | succ fuel =>
      simp only [DataW.trod, hu] at hd
      split at hd
      all_goals first
        | (cases hd; done)
        | skip
      all_goals simp_all
      done
  obtain ⟨te, pe, he⟩ := h1
  refine entry_of_var hg hvar (by rw [← Array.length_toList, he]; rfl) fun j p v hp hj => ?_
  rw [← Array.getElem?_toList, he] at hj
  match j, hp, hj with
  | 0, hp, hj => cases hp; cases hj; exact ⟨rfl, _, _, rfl⟩
  | j + 1, hp, hj => simp at hp
theorem entry_int {W : World} (hS : W.ShapedOpen Tryz.prog) {g : Nat} {z : Array Value} {t : TypeId} {k : IntKind} (hg : g < Tryz.prog.globals.size) (h0 : (((begin Tryz.prog (fun _ _ => 0) default).world.heap[g]?).bind Obj.row?) = some (z, t)) (hz : z.size = 1) (hb : Tryz.prog.buildable t = true)
    (hts : Tryz.prog.cellTypes Tryz.prog.depth t = some [t]) (ht : Tryz.prog.underlying t = some (.int k)) : EntryOk W g [fun v => ∃ m, v = .int k m] := by
  obtain ⟨cs, h1, h2, h3⟩ := hS.1 g z t hg h0
  have hsz : cs.size = 1 := by rw [h2, hz]
  obtain ⟨ts, hts', _, hall⟩ := h3 hb
  rw [hts] at hts'
  cases hts'
  have h4 : cs[0]? = some cs[0] := Array.getElem?_eq_getElem (by omega)
  obtain ⟨u, hu, hc⟩ := hall 0 cs[0] h4
  cases hu
  have h5 : ∃ m, cs[0] = .int k m := by
    unfold Cell.ok at hc
    rw [ht] at hc
    generalize cs[0] = v at hc
    cases v <;> first | exact hc.elim | (obtain ⟨rfl, _⟩ := hc; exact ⟨_, rfl⟩)
  obtain ⟨m, hm⟩ := h5
  refine ⟨⟨cs, t, _, h1, hsz⟩, fun j p hp => ?_⟩
  match j, hp with
  | 0, hp =>
    cases hp
    refine ⟨.int k m, ⟨?_, trivial, rfl⟩, m, rfl⟩
    unfold World.cell?
    simp only [h1, h4, hm]
    simp
  | j + 1, hp => simp at hp
abbrev T64 : List Nat := [1, 10, 100, 1000, 10000, 100000, 1000000, 10000000, 100000000, 1000000000, 10000000000, 100000000000, 1000000000000, 10000000000000, 100000000000000, 1000000000000000, 10000000000000000, 100000000000000000, 1000000000000000000, 10000000000000000000]
abbrev B32 : List Nat := [0, 1, 28, 2, 29, 14, 24, 3, 30, 22, 20, 15, 25, 17, 4, 8, 31, 27, 13, 23, 21, 19, 16, 7, 26, 12, 18, 6, 11, 5, 10, 9]
abbrev B64 : List Nat := [0, 1, 56, 2, 57, 49, 28, 3, 61, 58, 42, 50, 38, 29, 17, 4, 62, 47, 59, 36, 45, 43, 51, 22, 53, 39, 33, 30, 24, 18, 12, 5, 63, 55, 48, 27, 60, 41, 37, 16, 46, 35, 44, 21, 52, 32, 23, 11, 54, 26, 40, 15, 34, 20, 31, 10, 25, 14, 19, 9, 13, 8, 7, 6]
abbrev laidL : List (String × DataW Unit) := [("math/bits.deBruijn32tab", Rows.laid_math_bits_deBruijn32tab), ("math/bits.deBruijn64tab", Rows.laid_math_bits_deBruijn64tab), ("internal/strconv.uint64pow10", Rows.laid_internal_strconv_uint64pow10), ("unicode/utf8.acceptRanges", Rows.laid_unicode_utf8_acceptRanges), ("strconv.ErrRange", Rows.laid_strconv_ErrRange), ("strconv.ErrSyntax", Rows.laid_strconv_ErrSyntax), ("unicode/utf8.first", Rows.laid_unicode_utf8_first)]
theorem tabs_ok {W : World} (hL : laidMetH Tryz.prog laidL W) (hS : W.ShapedOpen Tryz.prog) : TabOk immG W := by
  have hL' : laidMet Tryz.prog laidL W := hL
  have m1 : VarReads Tryz.prog W "unicode/utf8.first" (tabData .u8 (Go.Pinned.utf8FirstZ.map fun (z : Nat) => (z : Int))) := laidMet.reads hL' (d := Rows.laid_unicode_utf8_first) (.tail _ (.tail _ (.tail _ (.tail _ (.tail _ (.tail _ (.head _)))))))
  have m2 : VarReads Tryz.prog W "unicode/utf8.acceptRanges" acceptData := laidMet.reads hL' (d := Rows.laid_unicode_utf8_acceptRanges) (.tail _ (.tail _ (.tail _ (.head _))))
  have m3 : VarReads Tryz.prog W "internal/strconv.uint64pow10" (tabData .u64 (T64.map fun (z : Nat) => (z : Int))) := laidMet.reads hL' (d := Rows.laid_internal_strconv_uint64pow10) (.tail _ (.tail _ (.head _)))
  have m4 : VarReads Tryz.prog W "math/bits.deBruijn32tab" (tabData .u8 (B32.map fun (z : Nat) => (z : Int))) := laidMet.reads hL' (d := Rows.laid_math_bits_deBruijn32tab) (.head _)
  have m5 : VarReads Tryz.prog W "math/bits.deBruijn64tab" (tabData .u8 (B64.map fun (z : Nat) => (z : Int))) := laidMet.reads hL' (d := Rows.laid_math_bits_deBruijn64tab) (.tail _ (.head _))
  have m6 : VarReads Tryz.prog W "strconv.ErrSyntax" Rows.laid_strconv_ErrSyntax := laidMet.reads hL' (.tail _ (.tail _ (.tail _ (.tail _ (.tail _ (.head _))))))
  have m7 : VarReads Tryz.prog W "strconv.ErrRange" Rows.laid_strconv_ErrRange := laidMet.reads hL' (.tail _ (.tail _ (.tail _ (.tail _ (.head _)))))
  have m8 : firstData = tabData .u8 (Go.Pinned.utf8FirstZ.map fun (z : Nat) => (z : Int)) := by kernel_rfl
  have e1 : EntryOk W 0 (Go.Pinned.utf8FirstZ.map fun (n : Nat) (v : Value) => v = .int .u8 n) :=
    entry_ints (t := Tryz.lays196_ren.t 119) u8x.n3 u8x.y3 (U8Types.of196 Tryz.lays196).t119 (U8Types.of196 Tryz.lays196).t5 u8x.c5 u8x.c119 m1
  have e2 : EntryOk W 1 (accZ.map fun (n : Nat) (v : Value) => v = .int .u8 n) := entry_accept (m8 ▸ m1) m2
  have e3 : EntryOk W 3 (T64.map fun (n : Nat) (v : Value) => v = .int .u64 n) :=
    entry_ints (t := 168) (e := 143) (cnt := 20) (by kernel_rfl) (by kernel_rfl) (by kernel_rfl) (by kernel_rfl) (by kernel_rfl) (by kernel_rfl) m3
  have e4 : EntryOk W 6 (B32.map fun (n : Nat) (v : Value) => v = .int .u8 n) :=
    entry_ints (t := 186) (e := 5) (cnt := 32) (by kernel_rfl) (by kernel_rfl) (by kernel_rfl) (by kernel_rfl) (by kernel_rfl) (by kernel_rfl) m4
  have e5 : EntryOk W 7 (B64.map fun (n : Nat) (v : Value) => v = .int .u8 n) :=
    entry_ints (t := 187) (e := 5) (cnt := 64) (by kernel_rfl) (by kernel_rfl) (by kernel_rfl) (by kernel_rfl) (by kernel_rfl) (by kernel_rfl) m5
  have e6 : EntryOk W 4 [fun v => ∃ te pe, v = .iface te pe] := entry_err (t := 111) (by kernel_rfl) (by kernel_rfl) Tryz.underlying111 m6
  have e7 : EntryOk W 5 [fun v => ∃ te pe, v = .iface te pe] := entry_err (t := 111) (by kernel_rfl) (by kernel_rfl) Tryz.underlying111 m7
  have e8 : EntryOk W 2 [fun v => ∃ m, v = .int .i64 m] := entry_int hS (z := #[.int .i64 0]) (t := 3) (of_decide_eq_true (by kernel_rfl)) (by kernel_rfl) rfl (by kernel_rfl) (by kernel_rfl) (by kernel_rfl)
  intro x hx
  unfold tabL at hx
  simp only [List.mem_cons, List.not_mem_nil, or_false] at hx
  rcases hx with rfl | rfl | rfl | rfl | rfl | rfl | rfl | rfl <;> first | exact e1 | exact e2 | exact e3 | exact e4 | exact e5 | exact e6 | exact e7 | exact e8
noncomputable abbrev N0 : Nat := (World.settled Tryz.prog default).heap.size
noncomputable def laidWorld (os : Os) : World :=
  let w0 := World.holding Tryz.prog os ⟨#[.cells #[.string ⟨#[105, 110, 118, 97, 108, 105, 100, 32, 115, 121, 110, 116, 97, 120]⟩] 190, .cells #[.string ⟨#[118, 97, 108, 117, 101, 32, 111, 117, 116, 32, 111, 102, 32, 114, 97, 110, 103, 101]⟩] 190], #[], []⟩
  let put (h : Array Obj) (g : Nat) (cs : Array Value) : Array Obj := h.modify g fun
    | .cells _ t frozen => .cells cs t frozen
    | o => o
  let h1 := put w0.heap 0 (Go.Pinned.utf8FirstZ.map fun (z : Nat) => Value.int .u8 z).toArray
  let h2 := put h1 1 (accZ.map fun (z : Nat) => Value.int .u8 z).toArray
  let h3 := put h2 3 (T64.map fun (z : Nat) => Value.int .u64 z).toArray
  let h4 := put h3 6 (B32.map fun (z : Nat) => Value.int .u8 z).toArray
  let h5 := put h4 7 (B64.map fun (z : Nat) => Value.int .u8 z).toArray
  let h6 := put h5 4 #[.iface 188 (.pointer (some ⟨(World.settled Tryz.prog os).heap.size, 0, none⟩))]
  let h7 := put h6 5 #[.iface 188 (.pointer (some ⟨(World.settled Tryz.prog os).heap.size + 1, 0, none⟩))]
  { w0 with heap := h7 }
theorem laid_met (os : Os) (args : Array Value) : laidMet Tryz.prog laidL ((laidWorld os).forCall (fun _ _ => 0) ⟨#[], args, []⟩).memory :=
  (LaidIn.of_run (l := laidL) [0, 1, 2, 3, 4, 5, 6, 7, N0, N0 + 1] 8 (by kernel_rfl) (by kernel_rfl) (by kernel_rfl) (by kernel_rfl)).met
end Go.Proofs.YtpjafglhdlfnbaaGreatDoor
namespace Go.Proofs.YtpjafglhdlfnbaaGreatDoor
open Go.Ab Go.Lib
open Go.ChangeShapes Go.WideShapes Go.ChangeAt Go.RowKit Go.WideElems
theorem own : ownKnob Tryz.prog.godebug = none := by kernel_rfl
theorem laidOut : laidOutB Tryz.prog = true := by kernel_rfl
theorem bVs_sum : ∀ l, bVs l = (l.map bV).sum
  | [] => rfl
  | v :: r => by simp [bVs, bVs_sum r]
theorem bMs_sum : ∀ l, bMs l = (l.map bM).sum
  | [] => rfl
  | v :: r => by simp [bMs, bMs_sum r]
theorem wfVs_all : ∀ {l : List Val}, (∀ v ∈ l, wfV v) → wfVs l
  | [], _ => trivial
  | v :: r, h => ⟨h v (.head _), wfVs_all fun x hx => h x (.tail _ hx)⟩
theorem wfMs_all : ∀ {l : List Mem}, (∀ v ∈ l, wfM v) → wfMs l
  | [], _ => trivial
  | v :: r, h => ⟨h v (.head _), wfMs_all fun x hx => h x (.tail _ hx)⟩
theorem inR_wf {n : Int} (h : (Lit.int .i64 n).wf = true) : inR n := by
  simp [Lit.wf, IntKind.has, IntKind.min, IntKind.max, IntKind.signed, IntKind.bits] at h
  unfold inR
  omega
abbrev DV (m : Nat) : Prop := DecB Tryz.prog m 33 5 cV wfV bV
abbrev DM (m : Nat) : Prop := DecB Tryz.prog m 52 6 cM wfM bM
theorem decVs {m : Nat} (h : DV m) : DecB Tryz.prog (m + 1) 31 1 (fun l : List Val => [.sl .no 5 (cVs l)]) (fun l => wfVs l) (fun l => bVs l + 1) := by
  intro H enc W cs d ps h1 h2
  obtain ⟨a, h3, h4, h5, h6⟩ := DecB.slice (t := 31) Tryz.underlying31 (B := 80) (sz := 5) (by kernel_rfl) (by kernel_rfl) (by decide) h enc W cs d ps h1 h2
  exact ⟨a, wfVs_all h3.2.2, by simp only [bVs_sum]; exact h4, h5, by simp only [cVs_map]; exact h6⟩
theorem decMs {m : Nat} (h : DM m) : DecB Tryz.prog (m + 1) 23 1 (fun l : List Mem => [.sl .no 6 (cMs l)]) (fun l => wfMs l) (fun l => bMs l + 1) := by
  intro H enc W cs d ps h1 h2
  obtain ⟨a, h3, h4, h5, h6⟩ := DecB.slice (t := 23) Tryz.underlying23 (B := 96) (sz := 6) (by kernel_rfl) (by kernel_rfl) (by decide) h enc W cs d ps h1 h2
  exact ⟨a, wfMs_all h3.2.2, by simp only [bMs_sum]; exact h4, h5, by simp only [cMs_map]; exact h6⟩
theorem dec : ∀ m, DV m ∧ DM m := by
  intro m
  induction m using Nat.strongRecOn with
  | _ m ih =>
    have hs : ∀ {k}, k ≤ m → DecB Tryz.prog k 31 1 (fun l : List Val => [.sl .no 5 (cVs l)]) (fun l => wfVs l) (fun l => bVs l + 1) := fun {k} hk => by
      cases k with
      | zero => exact DecB.zero
      | succ k => exact decVs (ih k (by omega)).1
    have hm : ∀ {k}, k ≤ m → DecB Tryz.prog k 23 1 (fun l : List Mem => [.sl .no 6 (cMs l)]) (fun l => wfMs l) (fun l => bMs l + 1) := fun {k} hk => by
      cases k with
      | zero => exact DecB.zero
      | succ k => exact decMs (ih k (by omega)).2
    refine ⟨?_, ?_⟩
    · cases m with
      | zero => exact DecB.zero
      | succ k =>
        exact DecB.struct (DecFsB.cons (by kernel_rfl) (DecB.int (k := .i64) Tryz.underlying3) (DecFsB.cons (by kernel_rfl) (DecB.int (k := .i64) Tryz.underlying2) (DecFsB.cons (by kernel_rfl) (DecB.str Tryz.underlying9) (DecFsB.cons (by kernel_rfl) (hs (by omega)) (DecFsB.cons (by kernel_rfl) (hm (by omega)) DecFsB.nil)))))
          (by kernel_rfl) (by kernel_rfl) cV wfV bV (fun x => .mk x.1 x.2.1 x.2.2.1 x.2.2.2.1 x.2.2.2.2.1) (fun a => rfl) (fun a h => ⟨inR_wf h.2.1, h.2.2.2.1, h.2.2.2.2.1⟩) (fun a => by simp only [bV]; omega)
    · cases m with
      | zero => exact DecB.zero
      | succ k =>
        exact DecB.struct (DecFsB.cons (by kernel_rfl) (DecB.str Tryz.underlying9) (DecFsB.cons (by kernel_rfl) (ih k (by omega)).1 DecFsB.nil))
          (by kernel_rfl) (by kernel_rfl) cM wfM bM (fun x => .mk x.1 x.2.1) (fun a => by simp [cM]) (fun a h => h.2.1) (fun a => by simp only [bM]; omega)
theorem decVA (m : Nat) : DV m := (dec m).1
theorem agg_of {W : World} {r : Reach} {b : Nat} {t : TypeId} {fs : Array Field} {v : Value} (ht : Tryz.prog.underlying t = some (.struct fs)) (h : Value.okWide Tryz.prog W r b t v) : ∃ cs, v = .agg cs := by
  unfold Value.okWide at h
  rw [ht] at h
  obtain ⟨cs, h, _⟩ := h
  exact ⟨cs, h⟩
theorem cond_bulk {H : Type} {s : ChangeSpec} {ds : List (DataW H)} (h : ∀ k, (Rows.OpenSpec.upto s).cond = some k → k H ds = true) : blkAll ds ≤ 1048576 := by
  have h1 : Rows.uptoSmall H ds = true := h _ rfl
  have h2 := of_decide_eq_true h1
  rwa [bulkAll_eq] at h2
end Go.Proofs.YtpjafglhdlfnbaaGreatDoor
