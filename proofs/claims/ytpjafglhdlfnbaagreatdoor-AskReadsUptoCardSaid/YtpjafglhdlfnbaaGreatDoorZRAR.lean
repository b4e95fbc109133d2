import Derived.Test.YtpjafglhdlfnbaaGreatDoorM1
import Derived.Test.YtpjafglhdlfnbaaGreatDoorM2
import Derived.Test.YtpjafglhdlfnbaaGreatDoorM3
import Derived.Test.YtpjafglhdlfnbaaGreatDoorM4
import Derived.Test.YtpjafglhdlfnbaaGreatDoorM5
import Derived.Test.YtpjafglhdlfnbaaGreatDoorZRARa
set_option maxRecDepth 100000
set_option linter.unusedSimpArgs false
set_option linter.unusedVariables false
namespace Go.Proofs.YtpjafglhdlfnbaaGreatDoor
open Go.Ab Go.Lib
def memM (p : List UInt8 → RR Val) (l : List Mem) (t : List UInt8) : RR Mem :=
  (textM t).bind fun s t => if hasN s l then .error 5 else (mustM [58] t).bind fun _ t => (p t).bind fun v t => .ok (.mk s v, t)
theorem memberM_mem (p : List UInt8 → RR Val) (l : List Mem) (t : List UInt8) : memberM p l t = (memM p l t).bind fun x t => .ok (l ++ [x], t) := by
  unfold memberM memM
  cases textM t with
  | error e => rfl
  | ok y =>
    simp only [RR.bind]
    split
    · rfl
    · cases mustM [58] y.2 with
      | error e => rfl
      | ok z =>
        simp only
        cases p z.2 <;> rfl
theorem textM_sk (t : List UInt8) : textM (skB t) = textM t := by unfold textM; rw [skB_idem]
def bad6 (v : AV) : Prop := ∃ cs, v = .agg cs ∧ cs.length = 6
abbrev z6 : List AV := [.str [], .int .i64 0, .int .i64 0, .str [], .sl .nil 5 [], .sl .nil 6 []]
set_option maxHeartbeats 4000000 in
theorem memberR {n : Nat} (hn : n < 16) (hvn : ValR n) {H : Heap} {r : Nat} {s p t : List UInt8} (l : List Mem) (hll : l.length ≤ LimS) (hs : p ++ t = s) (hl : s.length ≤ LimS) (hvt : validD t = true) (hr : H r = some (rr s p (16 - n))) :
    ACalls Tryz.prog 120 [.ptr r 0, .sl .no 6 (cMs l)] H (Rt H r fun v H' => RetR H r s (16 - n) (memM (valM n) l t) (fun x => .agg (cM x)) bad6 v H') := by
  refine of_rt (R := fun v H' => RetR H r s (16 - n) (memM (valM n) l t) (fun x => .agg (cM x)) bad6 v H') (ACalls.goO (R := fun v H' => RetR H r s (16 - n) (memM (valM n) l t) (fun x => .agg (cM x)) bad6 v.strip H') (RP := fun _ _ => False) ir120 ck120 (Nat.le_refl _) fun KP Q hQ hP => ?_)
  have L0 : LX H r H (rr s p (16 - n)) .nil 0 6 := LX.init hr
  have hl0 := hl
  simp only [LimS] at hl hll
  simp (disch := first | omega | assumption) only [ir120, go_sem, ↓reduceIte]
  refine goA_intro fun b4 hb4 => ?_
  have n4 := L0.ne hb4
  have n4r := Ne.symm n4
  have L1 := L0.new (x := .cells z6) hb4
  have bad : ∀ (m : Int) (a d : Int) (cs : List AV), memM (valM n) l t = .error m → m ≠ 0 → cs.length = 6 → RetR H r s (16 - n) (memM (valM n) l t) (fun x => .agg (cM x)) bad6 (AV.agg cs).strip (H.upd r (re s a d m)) := fun m a d cs e hm hc => by
    rw [e]; exact ⟨⟨_, rfl, by simpa using hc⟩, hm, a, d, rfl⟩
  simp (disch := first | omega | assumption) only [go_sem, ↓reduceIte]
  refine goK_ret (blanksR0 hs hl0 L1.here) fun v H1 ⟨hv, p1, hp1, hH⟩ => ?_
  subst hv
  have L2 : LX H r H1 (rr s p1 (16 - n)) .nil 0 6 := by rw [hH]; exact L1.call
  have h41 : H1 b4 = some (.cells z6) := by rw [hH, upd_ne n4r, upd_same]
  have hr1 := L2.here
  clear hH
  simp (disch := first | omega | assumption) only [go_sem, ↓reduceIte]
  refine goK_ret (textR0 hp1 hl0 (skB_idem t) (skB_valid t hvt) hr1) fun v H2 htx => ?_
  rw [textM_sk] at htx
  have tail : True := trivial
  cases htm : textM t with
  | error m =>
    rw [htm] at htx
    obtain ⟨⟨nm, hv⟩, hm, a, d, hH⟩ := htx
    subst hv
    have em : memM (valM n) l t = .error m := by unfold memM; rw [htm]; rfl
    have L3 : LX H r H2 (re s a d m) .nil 0 6 := by rw [hH]; exact L2.call
    have h42 : H2 b4 = some (.cells z6) := by rw [hH, upd_ne n4r]; exact h41
    clear hH
    simp (disch := first | omega | assumption) only [go_sem, ↓reduceIte]
    refine goA_intro fun b5 hb5 => ?_
    have n5 : r ≠ b5 := fun e => by subst e; rw [L3.here] at hb5; cases hb5
    have n5r := Ne.symm n5
    have n45 : b4 ≠ b5 := fun e => by subst e; rw [h42] at hb5; cases hb5
    have n54 := Ne.symm n45
    have hb5H : H b5 = none := by
      cases hx : H b5 with
      | none => rfl
      | some x => have := L3.keep b5 x n5r hx; rw [hb5] at this; cases this
    simp (disch := first | omega | assumption) only [n4r, n5r, n45, n54, go_sem, ↓reduceIte]
    refine goK_pure (getR nm l (by simp only [Lim]; omega)) ?_
    simp (disch := first | omega | assumption) only [cV_len, cV_take, cV_splice, cM_len, cM_take, cM_splice, cM_mk, go_sem, ↓reduceIte]
    refine goA_intro fun b6 hb6 => ?_
    have n65 : b6 ≠ b5 := fun e => by subst e; rw [upd_same] at hb6; cases hb6
    have n56 := Ne.symm n65
    have n64 : b6 ≠ b4 := fun e => by subst e; rw [upd_ne n45, h42] at hb6; cases hb6
    have n46 := Ne.symm n64
    have n6r : b6 ≠ r := fun e => by subst e; rw [upd_ne n5, L3.here] at hb6; cases hb6
    have nr6 := Ne.symm n6r
    have L7 := (L3.new (x := .cells (.str nm :: [.int .i64 0, .int .i64 0, .str [], .sl .nil 5 [], .sl .nil 6 []])) hb5).new (x := .cells (cV (getV nm l).1)) hb6
    have h47 : ((H2.upd b5 (.cells (.str nm :: [.int .i64 0, .int .i64 0, .str [], .sl .nil 5 [], .sl .nil 6 []]))).upd b6 (.cells (cV (getV nm l).1))) b4 = some (.cells z6) := by rw [upd_ne n46, upd_ne n45]; exact h42
    have h57 : ((H2.upd b5 (.cells (.str nm :: [.int .i64 0, .int .i64 0, .str [], .sl .nil 5 [], .sl .nil 6 []]))).upd b6 (.cells (cV (getV nm l).1))) b5 = some (.cells (.str nm :: [.int .i64 0, .int .i64 0, .str [], .sl .nil 5 [], .sl .nil 6 []])) := by rw [upd_ne n56, upd_same]
    simp (disch := first | omega | assumption) only [cV_len, cV_take, cV_splice, cM_len, cM_take, cM_splice, cM_mk, go_sem, ↓reduceIte]
    generalize ((H2.upd b5 (.cells (.str nm :: [.int .i64 0, .int .i64 0, .str [], .sl .nil 5 [], .sl .nil 6 []]))).upd b6 (.cells (cV (getV nm l).1))) = H4 at *
    cases hasn : (getV nm l).2
    · simp (disch := first | omega | assumption) only [go_sem, ↓reduceIte]
      refine goK_ret (blanksR1 hm L7.here) fun v H8 ⟨hv, hH⟩ => ?_
      subst hv; replace hH := hH.symm; subst hH
      simp (disch := first | omega | assumption) only [go_sem, ↓reduceIte]
      refine goK_ret (takeR1 58 (by decide) hm L7.here) fun v H8 ⟨hv, hH⟩ => ?_
      subst hv; replace hH := hH.symm; subst hH
      simp (disch := first | omega | assumption) only [go_sem, ↓reduceIte]
      refine goK_ret (valueR1 hm L7.here) fun v H8 ⟨⟨cs, hv7, hc5⟩, hH⟩ => ?_
      subst hv7; replace hH := hH.symm; subst hH
      have L9 := (L7.box (ds' := .str nm :: cs) hb5H h57).box (ds' := .str nm :: cs) hb4 (by rw [upd_ne n45]; exact h47)
      have hsp : splice [.str nm, .int .i64 0, .int .i64 0, .str [], .sl .nil 5 [], .sl .nil 6 []] 1 cs = .str nm :: cs := by unfold splice; simp [hc5]
      have hl6 : (AV.str nm :: cs).length = 6 := by simp [hc5]
      have hsp6 : splice z6 0 (.str nm :: cs) = .str nm :: cs := by unfold splice; simp [hc5]
      have ht6 : (AV.str nm :: cs).take 6 = .str nm :: cs := List.take_of_length_le (by omega)
      have ht5 : cs.take 5 = cs := List.take_of_length_le (by omega)
      simp (disch := first | omega | assumption) only [h57, h47, n45, n54, hsp, hc5, ht6, ht5, hl6, hsp6, go_sem, ↓reduceIte]
      exact hQ _ _ _ _ [.agg (.str nm :: cs)] nofun (by simp (disch := first | omega | assumption) only [ir120, resvs, resv, upd_same, ht6, hl6, hc5, hsp6, ht5, go_sem, ↓reduceIte]) L9.low (bad _ _ _ _ em hm hl6)
    · simp (disch := first | omega | assumption) only [go_sem, ↓reduceIte]
      refine goK_ret (failR1 hm L7.here 5) fun v H8 ⟨hv, hH⟩ => ?_
      subst hv; replace hH := hH.symm; subst hH
      simp (disch := first | omega | assumption) only [go_sem, ↓reduceIte]
      refine goK_ret (blanksR1 hm L7.here) fun v H8 ⟨hv, hH⟩ => ?_
      subst hv; replace hH := hH.symm; subst hH
      simp (disch := first | omega | assumption) only [go_sem, ↓reduceIte]
      refine goK_ret (takeR1 58 (by decide) hm L7.here) fun v H8 ⟨hv, hH⟩ => ?_
      subst hv; replace hH := hH.symm; subst hH
      simp (disch := first | omega | assumption) only [go_sem, ↓reduceIte]
      refine goK_ret (valueR1 hm L7.here) fun v H8 ⟨⟨cs, hv7, hc5⟩, hH⟩ => ?_
      subst hv7; replace hH := hH.symm; subst hH
      have L9 := (L7.box (ds' := .str nm :: cs) hb5H h57).box (ds' := .str nm :: cs) hb4 (by rw [upd_ne n45]; exact h47)
      have hsp : splice [.str nm, .int .i64 0, .int .i64 0, .str [], .sl .nil 5 [], .sl .nil 6 []] 1 cs = .str nm :: cs := by unfold splice; simp [hc5]
      have hl6 : (AV.str nm :: cs).length = 6 := by simp [hc5]
      have hsp6 : splice z6 0 (.str nm :: cs) = .str nm :: cs := by unfold splice; simp [hc5]
      have ht6 : (AV.str nm :: cs).take 6 = .str nm :: cs := List.take_of_length_le (by omega)
      have ht5 : cs.take 5 = cs := List.take_of_length_le (by omega)
      simp (disch := first | omega | assumption) only [h57, h47, n45, n54, hsp, hc5, ht6, ht5, hl6, hsp6, go_sem, ↓reduceIte]
      exact hQ _ _ _ _ [.agg (.str nm :: cs)] nofun (by simp (disch := first | omega | assumption) only [ir120, resvs, resv, upd_same, ht6, hl6, hc5, hsp6, ht5, go_sem, ↓reduceIte]) L9.low (bad _ _ _ _ em hm hl6)
  | ok y =>
    obtain ⟨nm, t2⟩ := y
    rw [htm] at htx
    obtain ⟨hv, p2, hp2, hH⟩ := htx
    subst hv
    have L3 : LX H r H2 (rr s p2 (16 - n)) .nil 0 6 := by rw [hH]; exact L2.call
    have h42 : H2 b4 = some (.cells z6) := by rw [hH, upd_ne n4r]; exact h41
    have hvt2 : validD t2 = true := (textM_valid htm hvt).2
    clear hH
    simp (disch := first | omega | assumption) only [go_sem, ↓reduceIte]
    refine goA_intro fun b5 hb5 => ?_
    have n5 : r ≠ b5 := fun e => by subst e; rw [L3.here] at hb5; cases hb5
    have n5r := Ne.symm n5
    have n45 : b4 ≠ b5 := fun e => by subst e; rw [h42] at hb5; cases hb5
    have n54 := Ne.symm n45
    have hb5H : H b5 = none := by
      cases hx : H b5 with
      | none => rfl
      | some x => have := L3.keep b5 x n5r hx; rw [hb5] at this; cases this
    simp (disch := first | omega | assumption) only [n4r, n5r, n45, n54, go_sem, ↓reduceIte]
    refine goK_pure (getR nm l (by simp only [Lim]; omega)) ?_
    have hgt := getV_has nm l
    rw [hgt]
    simp (disch := first | omega | assumption) only [cV_len, cV_take, cV_splice, cM_len, cM_take, cM_splice, cM_mk, go_sem, ↓reduceIte]
    refine goA_intro fun b6 hb6 => ?_
    have n65 : b6 ≠ b5 := fun e => by subst e; rw [upd_same] at hb6; cases hb6
    have n56 := Ne.symm n65
    have n64 : b6 ≠ b4 := fun e => by subst e; rw [upd_ne n45, h42] at hb6; cases hb6
    have n46 := Ne.symm n64
    have n6r : b6 ≠ r := fun e => by subst e; rw [upd_ne n5, L3.here] at hb6; cases hb6
    have nr6 := Ne.symm n6r
    have L4 := (L3.new (x := .cells (.str nm :: [.int .i64 0, .int .i64 0, .str [], .sl .nil 5 [], .sl .nil 6 []])) hb5).new (x := .cells (cV (getV nm l).1)) hb6
    have h44 : ((H2.upd b5 (.cells (.str nm :: [.int .i64 0, .int .i64 0, .str [], .sl .nil 5 [], .sl .nil 6 []]))).upd b6 (.cells (cV (getV nm l).1))) b4 = some (.cells z6) := by rw [upd_ne n46, upd_ne n45]; exact h42
    have h54 : ((H2.upd b5 (.cells (.str nm :: [.int .i64 0, .int .i64 0, .str [], .sl .nil 5 [], .sl .nil 6 []]))).upd b6 (.cells (cV (getV nm l).1))) b5 = some (.cells (.str nm :: [.int .i64 0, .int .i64 0, .str [], .sl .nil 5 [], .sl .nil 6 []])) := by rw [upd_ne n56, upd_same]
    have em : memM (valM n) l t = if hasN nm l then .error 5 else (mustM [58] t2).bind fun _ t => (valM n t).bind fun v t => .ok (.mk nm v, t) := by unfold memM; rw [htm]; rfl
    cases hh : hasN nm l
    · rw [hh] at em
      simp only [Bool.false_eq_true, if_false] at em
      simp (disch := first | omega | assumption) only [cV_len, cV_take, cV_splice, cM_len, cM_take, cM_splice, cM_mk, go_sem, ↓reduceIte]
      generalize ((H2.upd b5 (.cells (.str nm :: [.int .i64 0, .int .i64 0, .str [], .sl .nil 5 [], .sl .nil 6 []]))).upd b6 (.cells (cV (getV nm l).1))) = H4 at *
      refine goK_ret (blanksR0 hp2 hl0 L4.here) fun v H5 ⟨hv, p5, hp5, hH⟩ => ?_
      subst hv
      have L5 : LX H r H5 (rr s p5 (16 - n)) .nil 0 6 := by rw [hH]; exact L4.call
      have h45 : H5 b4 = some (.cells z6) := by rw [hH, upd_ne n4r]; exact h44
      have h55 : H5 b5 = some (.cells (.str nm :: [.int .i64 0, .int .i64 0, .str [], .sl .nil 5 [], .sl .nil 6 []])) := by rw [hH, upd_ne n5r]; exact h54
      clear hH
      simp (disch := first | omega | assumption) only [go_sem, ↓reduceIte]
      refine goK_ret (takeR0 58 (by decide) hp5 hl0 L5.here) fun v H6 ⟨hv, htk⟩ => ?_
      subst hv
      rw [take_may (by decide)] at htk
      cases hm : mayM [58] t2 with
      | some t3 =>
        rw [hm] at htk
        have eu : mustM [58] t2 = .ok ((), t3) := by unfold mustM; rw [hm]
        rw [eu] at em
        simp only [RR.bind] at em
        have hvt3 := mayM_valid rfl hm hvt2
        obtain ⟨p6, hp6, hH⟩ := htk
        have L6 : LX H r H6 (rr s p6 (16 - n)) .nil 0 6 := by rw [hH]; exact L5.call
        have h46 : H6 b4 = some (.cells z6) := by rw [hH, upd_ne n4r]; exact h45
        have h56 : H6 b5 = some (.cells (.str nm :: [.int .i64 0, .int .i64 0, .str [], .sl .nil 5 [], .sl .nil 6 []])) := by rw [hH, upd_ne n5r]; exact h55
        clear hH
        simp (disch := first | omega | assumption) only [go_sem, ↓reduceIte]
        refine goK_ret (hvn _ r s p6 t3 hp6 hl0 hvt3 L6.here) fun v H7 hret => ?_
        rcases valM_nz hret with ⟨w, t7, p7, e7, hv7, hp7, hH⟩ | ⟨m, cs, a, d, e7, hm7, hv7, hc5, hH⟩
        · subst hv7
          rw [e7] at em
          simp only at em
          have L7 : LX H r H7 (rr s p7 (16 - n)) .nil 0 6 := by rw [hH]; exact L6.call
          have h47 : H7 b4 = some (.cells z6) := by rw [hH, upd_ne n4r]; exact h46
          have h57 : H7 b5 = some (.cells (.str nm :: [.int .i64 0, .int .i64 0, .str [], .sl .nil 5 [], .sl .nil 6 []])) := by rw [hH, upd_ne n5r]; exact h56
          clear hH
          have L9 := (L7.box (ds' := .str nm :: cV w) hb5H h57).box (ds' := .str nm :: cV w) hb4 (by rw [upd_ne n45]; exact h47)
          have hsp : splice [.str nm, .int .i64 0, .int .i64 0, .str [], .sl .nil 5 [], .sl .nil 6 []] 1 (cV w) = .str nm :: cV w := by cases w; rfl
          have hsp6 : splice z6 0 (.str nm :: cV w) = .str nm :: cV w := by cases w; rfl
          have ht6 : (.str nm :: cV w).take 6 = .str nm :: cV w := by cases w; rfl
          have hl6 : (.str nm :: cV w).length = 6 := by cases w; rfl
          have hcl := cV_len w
          simp (disch := first | omega | assumption) only [h57, h47, n45, n54, hsp, hcl, cV_take, ht6, hl6, hsp6, go_sem, ↓reduceIte]
          refine hQ _ _ _ _ [.agg (.str nm :: cV w)] nofun (by simp (disch := first | omega | assumption) only [ir120, resvs, resv, upd_same, ht6, hl6, hcl, cV_take, hsp6, go_sem, ↓reduceIte]) L9.low ?_
          rw [em]
          refine ⟨?_, p7, hp7, rfl⟩
          show AV.agg ((AV.str nm :: cV w).map AV.strip1) = .agg (cM (.mk nm w))
          rw [List.map_cons, cV_strip]; rfl
        · subst hv7
          rw [e7] at em
          simp only at em
          have L7 : LX H r H7 (re s a d m) .nil 0 6 := by rw [hH]; exact L6.call
          have h47 : H7 b4 = some (.cells z6) := by rw [hH, upd_ne n4r]; exact h46
          have h57 : H7 b5 = some (.cells (.str nm :: [.int .i64 0, .int .i64 0, .str [], .sl .nil 5 [], .sl .nil 6 []])) := by rw [hH, upd_ne n5r]; exact h56
          clear hH
          have L9 := (L7.box (ds' := .str nm :: cs) hb5H h57).box (ds' := .str nm :: cs) hb4 (by rw [upd_ne n45]; exact h47)
          have hsp : splice [.str nm, .int .i64 0, .int .i64 0, .str [], .sl .nil 5 [], .sl .nil 6 []] 1 cs = .str nm :: cs := by unfold splice; simp [hc5]
          have hl6 : (AV.str nm :: cs).length = 6 := by simp [hc5]
          have hsp6 : splice z6 0 (.str nm :: cs) = .str nm :: cs := by unfold splice; simp [hc5]
          have ht6 : (AV.str nm :: cs).take 6 = .str nm :: cs := List.take_of_length_le (by omega)
          have ht5 : cs.take 5 = cs := List.take_of_length_le (by omega)
          simp (disch := first | omega | assumption) only [h57, h47, n45, n54, hsp, hc5, ht6, ht5, hl6, hsp6, go_sem, ↓reduceIte]
          exact hQ _ _ _ _ [.agg (.str nm :: cs)] nofun (by simp (disch := first | omega | assumption) only [ir120, resvs, resv, upd_same, ht6, hl6, hc5, hsp6, ht5, go_sem, ↓reduceIte]) L9.low (bad m a d _ em hm7 hl6)
      | none =>
        rw [hm] at htk
        have eu : mustM [58] t2 = .error 2 := by unfold mustM; rw [hm]
        rw [eu] at em
        simp only [RR.bind] at em
        obtain ⟨_, a, d, hH⟩ := htk
        have L6 : LX H r H6 (re s a d 2) .nil 0 6 := by rw [hH]; exact L5.call
        have h46 : H6 b4 = some (.cells z6) := by rw [hH, upd_ne n4r]; exact h45
        have h56 : H6 b5 = some (.cells (.str nm :: [.int .i64 0, .int .i64 0, .str [], .sl .nil 5 [], .sl .nil 6 []])) := by rw [hH, upd_ne n5r]; exact h55
        clear hH
        simp (disch := first | omega | assumption) only [go_sem, ↓reduceIte]
        refine goK_ret (valueR1 (by decide) L6.here) fun v H7 ⟨⟨cs, hv7, hc5⟩, hH⟩ => ?_
        subst hv7; replace hH := hH.symm; subst hH
        have L7 := L6
        have h47 := h46
        have h57 := h56
        have L9 := (L7.box (ds' := .str nm :: cs) hb5H h57).box (ds' := .str nm :: cs) hb4 (by rw [upd_ne n45]; exact h47)
        have hsp : splice [.str nm, .int .i64 0, .int .i64 0, .str [], .sl .nil 5 [], .sl .nil 6 []] 1 cs = .str nm :: cs := by unfold splice; simp [hc5]
        have hl6 : (AV.str nm :: cs).length = 6 := by simp [hc5]
        have hsp6 : splice z6 0 (.str nm :: cs) = .str nm :: cs := by unfold splice; simp [hc5]
        have ht6 : (AV.str nm :: cs).take 6 = .str nm :: cs := List.take_of_length_le (by omega)
        have ht5 : cs.take 5 = cs := List.take_of_length_le (by omega)
        simp (disch := first | omega | assumption) only [h57, h47, n45, n54, hsp, hc5, ht6, ht5, hl6, hsp6, go_sem, ↓reduceIte]
        exact hQ _ _ _ _ [.agg (.str nm :: cs)] nofun (by simp (disch := first | omega | assumption) only [ir120, resvs, resv, upd_same, ht6, hl6, hc5, hsp6, ht5, go_sem, ↓reduceIte]) L9.low (bad 2 a d _ em (by decide) hl6)
    · rw [hh] at em
      simp only [if_true] at em
      simp (disch := first | omega | assumption) only [cV_len, cV_take, cV_splice, cM_len, cM_take, cM_splice, cM_mk, go_sem, ↓reduceIte]
      generalize ((H2.upd b5 (.cells (.str nm :: [.int .i64 0, .int .i64 0, .str [], .sl .nil 5 [], .sl .nil 6 []]))).upd b6 (.cells (cV (getV nm l).1))) = H4 at *
      refine goK_ret (failR0 L4.here 5) fun v H5 ⟨hv, hH⟩ => ?_
      subst hv
      have L7 : LX H r H5 (re s p2.length (16 - n : Nat) 5) .nil 0 6 := by rw [hH]; exact L4.call
      have h47 : H5 b4 = some (.cells z6) := by rw [hH, upd_ne n4r]; exact h44
      have h57 : H5 b5 = some (.cells (.str nm :: [.int .i64 0, .int .i64 0, .str [], .sl .nil 5 [], .sl .nil 6 []])) := by rw [hH, upd_ne n5r]; exact h54
      clear hH
      simp (disch := first | omega | assumption) only [go_sem, ↓reduceIte]
      refine goK_ret (blanksR1 (by decide) L7.here) fun v H8 ⟨hv, hH⟩ => ?_
      subst hv; replace hH := hH.symm; subst hH
      simp (disch := first | omega | assumption) only [go_sem, ↓reduceIte]
      refine goK_ret (takeR1 58 (by decide) (by decide) L7.here) fun v H8 ⟨hv, hH⟩ => ?_
      subst hv; replace hH := hH.symm; subst hH
      simp (disch := first | omega | assumption) only [go_sem, ↓reduceIte]
      refine goK_ret (valueR1 (by decide) L7.here) fun v H8 ⟨⟨cs, hv7, hc5⟩, hH⟩ => ?_
      subst hv7; replace hH := hH.symm; subst hH
      have L9 := (L7.box (ds' := .str nm :: cs) hb5H h57).box (ds' := .str nm :: cs) hb4 (by rw [upd_ne n45]; exact h47)
      have hsp : splice [.str nm, .int .i64 0, .int .i64 0, .str [], .sl .nil 5 [], .sl .nil 6 []] 1 cs = .str nm :: cs := by unfold splice; simp [hc5]
      have hl6 : (AV.str nm :: cs).length = 6 := by simp [hc5]
      have hsp6 : splice z6 0 (.str nm :: cs) = .str nm :: cs := by unfold splice; simp [hc5]
      have ht6 : (AV.str nm :: cs).take 6 = .str nm :: cs := List.take_of_length_le (by omega)
      have ht5 : cs.take 5 = cs := List.take_of_length_le (by omega)
      simp (disch := first | omega | assumption) only [h57, h47, n45, n54, hsp, hc5, ht6, ht5, hl6, hsp6, go_sem, ↓reduceIte]
      exact hQ _ _ _ _ [.agg (.str nm :: cs)] nofun (by simp (disch := first | omega | assumption) only [ir120, resvs, resv, upd_same, ht6, hl6, hc5, hsp6, ht5, go_sem, ↓reduceIte]) L9.low (bad _ _ _ _ em (by decide) hl6)
end Go.Proofs.YtpjafglhdlfnbaaGreatDoor
namespace Go.Proofs.YtpjafglhdlfnbaaGreatDoor
open Go.Ab Go.Lib
theorem head44b {t : List UInt8} (h2 : (skB t).headD 0 ≠ 44) : mustM [44] t = .error 2 := by
  unfold mustM mayM
  rw [if_neg]
  intro hp
  obtain ⟨r, hr⟩ := List.isPrefixOf_iff_prefix.1 hp
  rw [← hr] at h2
  simp at h2
theorem memM_nz : ∀ {x : RR Mem} {H : Heap} {r : Nat} {s : List UInt8} {dp : Nat} {v : AV} {H' : Heap}, RetR H r s dp x (fun v => .agg (cM v)) bad6 v H' → (∃ w t' p', x = .ok (w, t') ∧ v = .agg (cM w) ∧ p' ++ t' = s ∧ H' = H.upd r (rr s p' dp)) ∨ (∃ n cs a d, x = .error n ∧ n ≠ 0 ∧ v = .agg cs ∧ cs.length = 6 ∧ H' = H.upd r (re s a d n)) := by
  intro x H r s dp v H' h
  cases x with
  | error n => obtain ⟨⟨cs, h1, h2⟩, h3, a, d, h4⟩ := h; exact .inr ⟨n, cs, a, d, rfl, h3, h1, h2, h4⟩
  | ok y => obtain ⟨h1, p, h2, h3⟩ := h; exact .inl ⟨y.1, y.2, p, rfl, h1, h2, h3⟩
theorem memM_ok {n : Nat} {l : List Mem} {t t' : List UInt8} {x : Mem} (h : memM (valM n) l t = .ok (x, t')) : memberM (valM n) l t = .ok (l ++ [x], t') := by rw [memberM_mem, h]; rfl
theorem memM_lt {n : Nat} {l : List Mem} {t t' : List UInt8} {x : Mem} (h : memM (valM n) l t = .ok (x, t')) : t'.length < t.length := (memberM_fit (valM_fit n) (memM_ok h)).2.1
theorem memM_valid {n : Nat} {l : List Mem} {t t' : List UInt8} {x : Mem} (hv : validD t = true) (h : memM (valM n) l t = .ok (x, t')) : validD t' = true := by
  unfold memM at h
  obtain ⟨s, t1, h1, h⟩ := RR.bind_ok h
  split at h
  · cases h
  · obtain ⟨_, t2, h2, h⟩ := RR.bind_ok h
    obtain ⟨v, t3, h3, h⟩ := RR.bind_ok h
    cases h
    exact (val_right n _ _ _ (mustM_valid rfl h2 (textM_valid h1 hv).2) h3).2.2
def objK (k : Nat) (t : List UInt8) : RR Val := match k with | 0 => .error 4 | n + 1 => mapM (valM n) t
abbrev cO (o : Own) (xs : List (List AV)) : List AV := [.int .i64 7, .int .i64 0, .str [], .sl .nil 5 [], .sl o 6 xs]
set_option maxHeartbeats 4000000 in
theorem objR {k : Nat} (hk : k ≤ 16) (hv : ∀ n, k = n + 1 → ValR n) {H : Heap} {r : Nat} {s p t : List UInt8} (hs : p ++ 123 :: t = s) (hl : s.length ≤ LimS) (hvt : validD t = true) (hr : H r = some (rr s p (16 - k))) :
    ACalls Tryz.prog 76 [.ptr r 0] H (Rt H r fun v H' => RetR H r s (16 - k) (objK k t) (fun v => .agg (cV v)) bad5 v H') := by
  refine of_rt (R := fun v H' => RetR H r s (16 - k) (objK k t) (fun v => .agg (cV v)) bad5 v H') (ACalls.goO (R := fun v H' => RetR H r s (16 - k) (objK k t) (fun v => .agg (cV v)) bad5 v.strip H') (RP := fun _ _ => False) ir76 ck76 (Nat.le_refl _) fun KP Q hQ hP => ?_)
  have L0 : LX H r H (rr s p (16 - k)) .nil 0 6 := LX.init hr
  have hl0 := hl
  simp only [LimS] at hl
  have hts : t.length + 1 ≤ s.length := by rw [← hs]; simp
  simp (disch := first | omega | assumption) only [ir76, go_sem, ↓reduceIte]
  refine goA_intro fun b2 hb2 => ?_
  simp (disch := first | omega | assumption) only [go_sem, ↓reduceIte]
  refine goA_intro fun b3 hb3 => ?_
  simp (disch := first | omega | assumption) only [go_sem, ↓reduceIte]
  have h32 : b3 ≠ b2 := fun e => by subst e; rw [upd_same] at hb3; cases hb3
  have h23 := Ne.symm h32
  have hb3H : H b3 = none := by rw [upd_ne h32] at hb3; exact hb3
  have nr2 := L0.ne hb2
  have nr3 := L0.ne hb3H
  have n2r := Ne.symm nr2
  have n3r := Ne.symm nr3
  have L1 := (L0.new (x := .cells z5) hb2).new (x := .cells (cO .nil [])) hb3
  have fin : ∀ (H1 : Heap) (X ys : List AV) (o : Own) (n : Nat) (xs : List (List AV)), LX H r H1 (.cells X) o n 6 → H1 b2 = some (.cells z5) → Low (H.upd r (.cells ys)) ((H1.upd r (.cells ys)).upd b2 (.cells (cO o xs))) := fun H1 X ys o n xs L h2 =>
    ((L.call (X' := .cells ys)).box (cs := ys) (ds' := cO o xs) hb2 (by rw [upd_ne n2r]; exact h2)).low
  have bad : ∀ (m : Int) (a d : Int) (v : AV), objK k t = .error m → m ≠ 0 → bad5 v → RetR H r s (16 - k) (objK k t) (fun v => .agg (cV v)) bad5 v (H.upd r (re s a d m)) := fun m a d v e hm hb => by
    rw [e]; exact ⟨hb, hm, a, d, rfl⟩
  have good : ∀ (l : List Mem) (t' p' : List UInt8), objK k t = .ok (.mk 7 0 [] [] l, t') → p' ++ t' = s → RetR H r s (16 - k) (objK k t) (fun v => .agg (cV v)) bad5 (.agg [.int .i64 7, .int .i64 0, .str [], .sl .no 5 [], .sl .no 6 (cMs l)]) (H.upd r (rr s p' (16 - k))) := fun l t' p' e hp => by
    rw [e]; exact ⟨rfl, p', hp, rfl⟩
  refine goK_ret (openR0 (dp := 16 - k) (by omega) hs hl0 L1.here) fun v H1 ⟨hv1, ho⟩ => ?_
  subst hv1
  cases k with
  | zero =>
    rw [if_neg (by omega)] at ho
    obtain ⟨_, a, d, hH1⟩ := ho
    have L2 : LX H r H1 (re s a d 4) .nil 0 6 := by rw [hH1]; exact L1.call
    have h2 : H1 b2 = some (.cells z5) := by rw [hH1, upd_ne n2r, upd_ne h23, upd_same]
    have h3 : H1 b3 = some (.cells (cO .nil [])) := by rw [hH1, upd_ne n3r, upd_same]
    have hr1 := L2.here
    have hr1' : H1 r = some (.cells [.str s, .int .i64 a, .int .i64 d, .int .i64 4]) := hr1
    clear hH1
    simp (disch := first | omega | assumption) only [go_sem, ↓reduceIte]
    refine goK_ret (blanksR1 (by decide) hr1) fun v H2 ⟨hv, hH⟩ => ?_
    subst hv; replace hH := hH.symm; subst hH
    simp (disch := first | omega | assumption) only [go_sem, ↓reduceIte]
    refine goK_ret (peekR1 (by decide) hr1) fun v H2 ⟨hv, hH⟩ => ?_
    subst hv; replace hH := hH.symm; subst hH
    simp (disch := first | omega | assumption) only [go_sem, ↓reduceIte]
    refine goL_st (fun _ : Unit => []) (fun x H' => H' = H1) (fun x => 0) () (by simp (disch := first | omega | assumption) only [go_sem, ↓reduceIte]) rfl ?_
    rintro _ H' J hH' hJ
    replace hH' := hH'.symm
    subst hH'
    simp (disch := first | omega | assumption) only [hr1', go_sem, ↓reduceIte]
    refine goK_ret (takeR1 125 (by decide) (by decide) hr1) fun v H2 ⟨hv, hH⟩ => ?_
    subst hv; replace hH := hH.symm; subst hH
    simp (disch := first | omega | assumption) only [hr1', h2, h3, n2r, n3r, nr2, nr3, go_sem, ↓reduceIte]
    exact hQ _ _ _ _ [.agg (cO .nil [])] nofun (by simp (disch := first | omega | assumption) only [ir76, resvs, resv, upd_same, go_sem, ↓reduceIte]) (fin _ _ _ .nil 0 [] L2 h2) (bad 4 a (IntKind.wrap .i64 (d - 1)) _ rfl (by decide) ⟨_, rfl, rfl⟩)
  | succ n =>
    have hvn := hv n rfl
    have hfit := valM_fit n
    rw [if_pos (by omega)] at ho
    obtain ⟨p1, hp1, hH1⟩ := ho
    have e16 : 16 - (n + 1) + 1 = 16 - n := by omega
    have e16' : ((16 - n : Nat) : Int) - 1 = ((16 - (n + 1) : Nat) : Int) := by omega
    have w16 : IntKind.wrap .i64 (((16 - n : Nat) : Int) - 1) = ((16 - (n + 1) : Nat) : Int) := by rw [wrap64 (by omega) (by omega)]; exact e16'
    rw [e16] at hH1
    have L2 : LX H r H1 (rr s p1 (16 - n)) .nil 0 6 := by rw [hH1]; exact L1.call
    have h2 : H1 b2 = some (.cells z5) := by rw [hH1, upd_ne n2r, upd_ne h23, upd_same]
    have h3 : H1 b3 = some (.cells (cO .nil [])) := by rw [hH1, upd_ne n3r, upd_same]
    have hr1 := L2.here
    clear hH1
    simp (disch := first | omega | assumption) only [go_sem, ↓reduceIte]
    refine goK_ret (blanksR0 hp1 hl0 hr1) fun v H2 ⟨hv, p2, hp2, hH⟩ => ?_
    subst hv
    have L3 : LX H r H2 (rr s p2 (16 - n)) .nil 0 6 := by rw [hH]; exact L2.call
    have h22 : H2 b2 = some (.cells z5) := by rw [hH, upd_ne n2r]; exact h2
    have h33 : H2 b3 = some (.cells (cO .nil [])) := by rw [hH, upd_ne n3r]; exact h3
    have hr2 := L3.here
    have hr2' : H2 r = some (.cells [.str s, .int .i64 (p2.length : Int), .int .i64 ((16 - n : Nat) : Int), .int .i64 0]) := hr2
    clear hH
    have hvs := skB_valid t hvt
    simp (disch := first | omega | assumption) only [go_sem, ↓reduceIte]
    refine goK_ret (peekR0 hp2 hr2) fun v H3 ⟨hv, hH⟩ => ?_
    subst hv; replace hH := hH.symm; subst hH
    have hpl : p2.length + (skB t).length = s.length := by rw [← hp2]; simp
    by_cases hend : ∃ t', skB t = 125 :: t'
    · obtain ⟨t', ht'⟩ := hend
      rw [ht'] at hp2 hpl
      have em : mayM [125] t = some t' := by unfold mayM; rw [ht']; simp [List.isPrefixOf]
      have g : (((skB t).headD 0).toNat : Int) = 125 := by rw [ht']; rfl
      have e1 : objK (n + 1) t = .ok (.mk 7 0 [] [] [], t') := by simp only [objK, mapM, em]
      have wp : IntKind.wrap .i64 ((p2.length : Int) + 1) = ((p2 ++ [125]).length : Int) := by rw [wrA (by simp at hpl; omega)]; simp
      simp (disch := first | omega | assumption) only [g, hr2', wp, w16, h22, h33, n2r, n3r, nr2, nr3, go_sem, ↓reduceIte]
      have hg := good [] t' (p2 ++ [125]) e1 (by simpa using hp2)
      exact hQ _ _ _ _ [.agg (cO .nil [])] nofun (by simp (disch := first | omega | assumption) only [ir76, resvs, resv, upd_same, go_sem, ↓reduceIte]) (fin _ _ _ .nil 0 [] L3 h22) hg
    · have em : mayM [125] t = none := by
        unfold mayM
        rw [if_neg]
        intro hp
        obtain ⟨u, hu⟩ := List.isPrefixOf_iff_prefix.1 hp
        exact hend ⟨u, hu.symm⟩
      have g : ¬ ((((skB t).headD 0).toNat : Int) = 125) := by
        intro e
        have e2 : (((skB t).headD 0).toNat : Int) = ((125 : UInt8).toNat : Int) := e
        rw [u8_eq] at e2
        cases hs0 : skB t with
        | nil => rw [hs0] at e2; exact absurd e2 (by decide)
        | cons c u => rw [hs0] at e2; exact hend ⟨u, by rw [hs0]; simp at e2; rw [e2]⟩
      have eL : objK (n + 1) t = (memM (valM n) [] (skB t)).bind fun x t => (membersM (valM n) (t.length + 1) [x] t).bind fun l t => .ok (.mk 7 0 [] [] l, t) := by
        have e : memM (valM n) [] (skB t) = memM (valM n) [] t := by unfold memM; rw [textM_sk]
        rw [e]; simp only [objK, mapM, em, memberM_mem]
        cases memM (valM n) [] t <;> rfl
      simp (disch := first | omega | assumption) only [g, go_sem, ↓reduceIte]
      refine goL_st (fun _ : List Mem × List UInt8 × Own => []) (fun y H' => (∃ p', p' ++ y.2.1 = s ∧ LX H r H' (rr s p' (16 - n)) y.2.2 y.1.length 6) ∧ validD y.2.1 = true ∧ H' b2 = some (.cells z5) ∧ H' b3 = some (.cells (cO y.2.2 (cMs y.1))) ∧ (∃ gf : List UInt8 → Nat, (∀ v t', memM (valM n) y.1 y.2.1 = .ok (v, t') → t'.length < gf t') ∧ objK (n + 1) t = (memM (valM n) y.1 y.2.1).bind fun v t' => (membersM (valM n) (gf t') (y.1 ++ [v]) t').bind fun l t => .ok (.mk 7 0 [] [] l, t)) ∧ y.1.length + y.2.1.length ≤ s.length) (fun y => y.2.1.length) ([], skB t, .nil) (by simp (disch := first | omega | assumption) only [go_sem, ↓reduceIte])
        ⟨⟨p2, hp2, L3⟩, hvs, h22, by simpa [cMs] using h33, ⟨fun t' => t'.length + 1, fun _ _ _ => Nat.lt_succ_self _, eL⟩, by simp; omega⟩ ?_
      rintro ⟨l, t4, o⟩ H5 J ⟨⟨p5, hp5, L5⟩, hv5, h25, h35, ⟨gf, hgf, hg⟩, hle⟩ hJ
      simp only at hp5 L5 hv5 h25 h35 hgf hg hle
      have hr5 := L5.here
      have hr5' : H5 r = some (.cells [.str s, .int .i64 (p5.length : Int), .int .i64 ((16 - n : Nat) : Int), .int .i64 0]) := hr5
      have hll := cMs_len l
      simp (disch := first | omega | assumption) only [hr5', h35, go_sem, ↓reduceIte]
      refine goK_ret (ACalls.low (memberR (by omega) hvn l (by simp only [LimS]; omega) hp5 hl0 hv5 hr5)) fun v H6 hret => ?_
      rcases memM_nz hret with ⟨w, t6, p6, e6, hv6, hp6, hH6⟩ | ⟨m, cs, a, d, e6, hm, hv6, hc5, hH6⟩
      · subst hv6
        have L6 : LX H r H6 (rr s p6 (16 - n)) o l.length 6 := by rw [hH6]; exact L5.call
        have h26 : H6 b2 = some (.cells z5) := by rw [hH6, upd_ne n2r]; exact h25
        have h36 : H6 b3 = some (.cells (cO o (cMs l))) := by rw [hH6, upd_ne n3r]; exact h35
        have hv6 := memM_valid hv5 e6
        have hf6 := memM_lt e6
        have hgf6 := hgf _ _ e6
        rw [e6] at hg
        simp only [RR.bind] at hg
        clear hH6
        simp (disch := first | omega | assumption) only [h36, cM_len, cM_strip, go_sem, ↓reduceIte]
        refine goP_ownS (by rw [hll]; exact L6.own) (by simp [hll]; omega) (by simp [hll, maxLen]; omega) fun o7 H7 hs7 => ?_
        have L7 := L6.app (o' := o7) (n' := (l ++ [w]).length) (by simpa [hll] using hs7)
        have h27 : H7 b2 = some (.cells z5) := own_keep L6.own h26 hs7.kept
        have h37 : H7 b3 = some (.cells (cO o (cMs l))) := own_keep L6.own h36 hs7.kept
        have eap : cMs l ++ [cM w] = cMs (l ++ [w]) := by rw [cMs_map, cMs_map]; simp
        have hb3' : (H7.upd b3 (.cells (cO o7 (cMs (l ++ [w]))))) b3 = some (.cells (cO o7 (cMs (l ++ [w])))) := upd_same ..
        have L8 : LX H r (H7.upd b3 (.cells (cO o7 (cMs (l ++ [w]))))) (rr s p6 (16 - n)) o7 (l ++ [w]).length 6 := L7.box hb3H h37
        have h28 : (H7.upd b3 (.cells (cO o7 (cMs (l ++ [w]))))) b2 = some (.cells z5) := by rw [upd_ne h23]; exact h27
        have hr8 := L8.here
        simp (disch := first | omega | assumption) only [h37, cM_strip, eap, go_sem, ↓reduceIte]
        generalize H7.upd b3 (.cells (cO o7 (cMs (l ++ [w])))) = H8 at *
        refine goK_ret (blanksR0 hp6 hl0 hr8) fun v H9 ⟨hv, p9, hp9, hH⟩ => ?_
        subst hv
        have L9 : LX H r H9 (rr s p9 (16 - n)) o7 (l ++ [w]).length 6 := by rw [hH]; exact L8.call
        have h29 : H9 b2 = some (.cells z5) := by rw [hH, upd_ne n2r]; exact h28
        have h39 : H9 b3 = some (.cells (cO o7 (cMs (l ++ [w])))) := by rw [hH, upd_ne n3r]; exact hb3'
        have hr9 := L9.here
        have hr9' : H9 r = some (.cells [.str s, .int .i64 (p9.length : Int), .int .i64 ((16 - n : Nat) : Int), .int .i64 0]) := hr9
        have hv9 := skB_valid t6 hv6
        have hpl9 : p9.length + (skB t6).length = s.length := by rw [← hp9]; simp
        clear hH
        simp (disch := first | omega | assumption) only [go_sem, ↓reduceIte]
        refine goK_ret (peekR0 hp9 hr9) fun v H10 ⟨hv, hH⟩ => ?_
        subst hv; replace hH := hH.symm; subst hH
        obtain ⟨q, hq⟩ : ∃ q, gf t6 = q + 1 := ⟨gf t6 - 1, by omega⟩
        rw [hq, membersM] at hg
        by_cases h44 : ∃ t', skB t6 = 44 :: t'
        · obtain ⟨t', ht'⟩ := h44
          rw [ht'] at hp9 hpl9 hv9
          have g44 : (((skB t6).headD 0).toNat : Int) = 44 := by rw [ht']; rfl
          have em9 : mayM [125] t6 = none := by unfold mayM; rw [ht']; simp [List.isPrefixOf]
          have eu : mustM [44] t6 = .ok ((), t') := by unfold mustM mayM; rw [ht']; simp [List.isPrefixOf]
          have wp : IntKind.wrap .i64 ((p9.length : Int) + 1) = ((p9 ++ [44]).length : Int) := by rw [wrA (by simp at hpl9; omega)]; simp
          rw [em9, eu] at hg
          simp only [RR.bind, memberM_mem] at hg
          have hv' : validD t' = true := by rw [validD_cons _ _ (by decide)] at hv9; exact hv9
          have hsk6 := (skB_suf t6).length_le
          rw [ht'] at hsk6
          simp only [List.length_cons] at hsk6
          have nx := hJ (l ++ [w], t', o7) (H9.upd r (rr s (p9 ++ [44]) (16 - n))) (by show t'.length < t4.length; omega) ⟨⟨p9 ++ [44], by simpa using hp9, L9.call⟩, hv', by rw [upd_ne n2r]; exact h29, by rw [upd_ne n3r]; exact h39, ⟨fun _ => q, fun v t2 h => ?_, ?_⟩, by show (l ++ [w]).length + t'.length ≤ s.length; simp; omega⟩
          · simp (disch := first | omega | assumption) only [g44, hr9', wp, go_sem, ↓reduceIte]
            exact goJ nx (by simp (disch := first | omega | assumption) only [go_sem, ↓reduceIte])
          · have h' : t2.length < t'.length := memM_lt h
            show t2.length < q
            omega
          · rw [hg]; show _ = (memM (valM n) (l ++ [w]) t').bind _; cases memM (valM n) (l ++ [w]) t' <;> rfl
        · have g44 : ¬ ((((skB t6).headD 0).toNat : Int) = 44) := by
            intro e
            have e2 : (((skB t6).headD 0).toNat : Int) = ((44 : UInt8).toNat : Int) := e
            rw [u8_eq] at e2
            cases hs0 : skB t6 with
            | nil => rw [hs0] at e2; exact absurd e2 (by decide)
            | cons c u => rw [hs0] at e2; exact h44 ⟨u, by rw [hs0]; simp at e2; rw [e2]⟩
          have h44' : (skB t6).headD 0 ≠ 44 := fun e => g44 (by rw [e]; rfl)
          simp (disch := first | omega | assumption) only [g44, go_sem, ↓reduceIte]
          refine goK_ret (takeR0 125 (by decide) hp9 hl0 hr9) fun v H11 ⟨hv, htk⟩ => ?_
          subst hv
          rw [take_may (by decide)] at htk
          cases hm : mayM [125] t6 with
          | some t' =>
            rw [hm] at htk hg
            obtain ⟨p11, hp11, hH⟩ := htk
            have L11 : LX H r H11 (rr s p11 (16 - n)) o7 (l ++ [w]).length 6 := by rw [hH]; exact L9.call
            have h211 : H11 b2 = some (.cells z5) := by rw [hH, upd_ne n2r]; exact h29
            have h311 : H11 b3 = some (.cells (cO o7 (cMs (l ++ [w])))) := by rw [hH, upd_ne n3r]; exact h39
            have hr11' : H11 r = some (.cells [.str s, .int .i64 (p11.length : Int), .int .i64 ((16 - n : Nat) : Int), .int .i64 0]) := L11.here
            simp (disch := first | omega | assumption) only [hr11', h211, h311, n2r, n3r, nr2, nr3, w16, go_sem, ↓reduceIte]
            exact hQ _ _ _ _ [.agg (cO o7 (cMs (l ++ [w])))] nofun (by simp (disch := first | omega | assumption) only [ir76, resvs, resv, upd_same, go_sem, ↓reduceIte]) (fin _ _ _ o7 _ (cMs (l ++ [w])) L11 h211) (good (l ++ [w]) t' p11 hg hp11)
          | none =>
            rw [hm] at htk hg
            simp only [head44b h44', RR.bind] at hg
            obtain ⟨_, a, d, hH⟩ := htk
            have L11 : LX H r H11 (re s a d 2) o7 (l ++ [w]).length 6 := by rw [hH]; exact L9.call
            have h211 : H11 b2 = some (.cells z5) := by rw [hH, upd_ne n2r]; exact h29
            have h311 : H11 b3 = some (.cells (cO o7 (cMs (l ++ [w])))) := by rw [hH, upd_ne n3r]; exact h39
            have hr11' : H11 r = some (.cells [.str s, .int .i64 a, .int .i64 d, .int .i64 2]) := L11.here
            simp (disch := first | omega | assumption) only [hr11', h211, h311, n2r, n3r, nr2, nr3, go_sem, ↓reduceIte]
            exact hQ _ _ _ _ [.agg (cO o7 (cMs (l ++ [w])))] nofun (by simp (disch := first | omega | assumption) only [ir76, resvs, resv, upd_same, go_sem, ↓reduceIte]) (fin _ _ _ o7 _ (cMs (l ++ [w])) L11 h211) (bad 2 a (IntKind.wrap .i64 (d - 1)) _ hg (by decide) ⟨_, rfl, rfl⟩)
      · subst hv6
        have L6 : LX H r H6 (re s a d m) o l.length 6 := by rw [hH6]; exact L5.call
        have h26 : H6 b2 = some (.cells z5) := by rw [hH6, upd_ne n2r]; exact h25
        have h36 : H6 b3 = some (.cells (cO o (cMs l))) := by rw [hH6, upd_ne n3r]; exact h35
        rw [e6] at hg
        simp only [RR.bind] at hg
        clear hH6
        have hc5' : cs.length = 6 := hc5
        simp (disch := first | omega | assumption) only [h36, hc5', go_sem, ↓reduceIte]
        refine goP_ownS (by rw [hll]; exact L6.own) (by simp [hll]; omega) (by simp [hll, maxLen]; omega) fun o7 H7 hs7 => ?_
        have L7 := L6.app (o' := o7) (n' := l.length + 1) (by simpa [hll] using hs7)
        have h27 : H7 b2 = some (.cells z5) := own_keep L6.own h26 hs7.kept
        have h37 : H7 b3 = some (.cells (cO o (cMs l))) := own_keep L6.own h36 hs7.kept
        simp (disch := first | omega | assumption) only [h37, go_sem, ↓reduceIte]
        generalize cMs l ++ [List.map AV.strip1 (List.map AV.strip1 cs)] = ys
        have hb3' : (H7.upd b3 (.cells (cO o7 ys))) b3 = some (.cells (cO o7 ys)) := upd_same ..
        have L8 : LX H r (H7.upd b3 (.cells (cO o7 ys))) (re s a d m) o7 (l.length + 1) 6 := L7.box hb3H h37
        have h28 : (H7.upd b3 (.cells (cO o7 ys))) b2 = some (.cells z5) := by rw [upd_ne h23]; exact h27
        have hr8 := L8.here
        have hr8' : (H7.upd b3 (.cells (cO o7 ys))) r = some (.cells [.str s, .int .i64 a, .int .i64 d, .int .i64 m]) := hr8
        generalize H7.upd b3 (.cells (cO o7 ys)) = H8 at *
        refine goK_ret (blanksR1 hm hr8) fun v H9 ⟨hv, hH⟩ => ?_
        subst hv; replace hH := hH.symm; subst hH
        simp (disch := first | omega | assumption) only [go_sem, ↓reduceIte]
        refine goK_ret (peekR1 hm hr8) fun v H9 ⟨hv, hH⟩ => ?_
        subst hv; replace hH := hH.symm; subst hH
        simp (disch := first | omega | assumption) only [go_sem, ↓reduceIte]
        refine goK_ret (takeR1 125 (by decide) hm hr8) fun v H9 ⟨hv, hH⟩ => ?_
        subst hv; replace hH := hH.symm; subst hH
        simp (disch := first | omega | assumption) only [hr8', h28, hb3', n2r, n3r, nr2, nr3, go_sem, ↓reduceIte]
        exact hQ _ _ _ _ [.agg (cO o7 ys)] nofun (by simp (disch := first | omega | assumption) only [ir76, resvs, resv, upd_same, go_sem, ↓reduceIte]) (fin _ _ _ o7 _ ys L8 h28) (bad m a (IntKind.wrap .i64 (d - 1)) _ hg hm ⟨_, rfl, rfl⟩)
end Go.Proofs.YtpjafglhdlfnbaaGreatDoor
namespace Go.Proofs.YtpjafglhdlfnbaaGreatDoor
open Go.Ab Go.Lib
theorem nst_eq (c : UInt8) : nst c = (decide (c.toNat = 45) || (decide (48 ≤ c.toNat) && decide (c.toNat ≤ 57))) :=
  u8_all (P := fun c => nst c = (decide (c.toNat = 45) || (decide (48 ≤ c.toNat) && decide (c.toNat ≤ 57)))) (by decide +kernel) c
theorem may_word {x : List UInt8} {c : UInt8} {r : List UInt8} (hb : bk c = false) : mayM x (c :: r) = if x.isPrefixOf (c :: r) then some ((c :: r).drop x.length) else none := by unfold mayM; rw [skB_no hb]
theorem wordM_n {c : UInt8} (hc : c = 110) (r : List UInt8) : wordM (c :: r) = if [110, 117, 108, 108].isPrefixOf (c :: r) then .ok (nullV, (c :: r).drop 4) else .error 2 := by
  subst hc
  unfold wordM mustM
  rw [may_word (by decide), may_word (by decide), may_word (by decide)]
  by_cases h : [110, 117, 108, 108].isPrefixOf (110 :: r) = true
  · rw [if_pos h, if_pos h]; rfl
  · rw [if_neg h, if_neg h, if_neg (by simp [List.isPrefixOf]), if_neg (by simp [List.isPrefixOf])]; rfl
theorem wordM_t {c : UInt8} (hc : c = 116) (r : List UInt8) : wordM (c :: r) = if [116, 114, 117, 101].isPrefixOf (c :: r) then .ok (.mk 1 1 [] [] [], (c :: r).drop 4) else .error 2 := by
  subst hc
  unfold wordM mustM
  rw [may_word (by decide), may_word (by decide), may_word (by decide)]
  by_cases h : [116, 114, 117, 101].isPrefixOf (116 :: r) = true
  · rw [if_neg (by simp [List.isPrefixOf]), if_pos h, if_pos h]; rfl
  · rw [if_neg (by simp [List.isPrefixOf]), if_neg h, if_neg h, if_neg (by simp [List.isPrefixOf])]; rfl
theorem wordM_f {c : UInt8} (hc : c = 102) (r : List UInt8) : wordM (c :: r) = if [102, 97, 108, 115, 101].isPrefixOf (c :: r) then .ok (.mk 1 0 [] [] [], (c :: r).drop 5) else .error 2 := by
  subst hc
  unfold wordM mustM
  rw [may_word (by decide), may_word (by decide), may_word (by decide)]
  by_cases h : [102, 97, 108, 115, 101].isPrefixOf (102 :: r) = true
  · rw [if_neg (by simp [List.isPrefixOf]), if_neg (by simp [List.isPrefixOf]), if_pos h, if_pos h]; rfl
  · rw [if_neg (by simp [List.isPrefixOf]), if_neg (by simp [List.isPrefixOf]), if_neg h, if_neg h]; rfl
theorem wordM_no {c : UInt8} {r : List UInt8} (hb : bk c = false) (h1 : c ≠ 110) (h2 : c ≠ 116) (h3 : c ≠ 102) : wordM (c :: r) = .error 2 := by
  unfold wordM mustM
  rw [may_word hb, may_word hb, may_word hb, if_neg (by simp [List.isPrefixOf, Ne.symm h1]), if_neg (by simp [List.isPrefixOf, Ne.symm h2]), if_neg (by simp [List.isPrefixOf, Ne.symm h3])]; rfl
theorem skB_head : ∀ {t : List UInt8} {c : UInt8} {u : List UInt8}, skB t = c :: u → bk c = false
  | [], _, _, h => by cases h
  | d :: t, c, u, h => by
    rw [skB] at h
    split at h
    · exact skB_head h
    · rename_i hd; cases h; simpa using hd
set_option maxHeartbeats 4000000 in
theorem valueR (k : Nat) (hk : k ≤ 16) (ih : ∀ n, k = n + 1 → ValR n) : ValR k := by
  intro H r s p t hs hl hvt hr
  refine of_rt (R := fun v H' => RetR H r s (16 - k) (valM k t) (fun v => .agg (cV v)) bad5 v H') (ACalls.goO (R := fun v H' => RetR H r s (16 - k) (valM k t) (fun v => .agg (cV v)) bad5 v.strip H') (RP := fun _ _ => False) ir37 ck37 (Nat.le_refl _) fun KP Q hQ hP => ?_)
  have L0 : LX H r H (rr s p (16 - k)) .nil 0 5 := LX.init hr
  have hl0 := hl
  simp only [LimS] at hl
  simp (disch := first | omega | assumption) only [ir37, go_sem, ↓reduceIte]
  refine goA_intro fun b2 hb2 => ?_
  have nr2 := L0.ne hb2
  have n2r := Ne.symm nr2
  have L1 := L0.new (x := .cells z5) hb2
  simp (disch := first | omega | assumption) only [go_sem, ↓reduceIte]
  refine goK_ret (blanksR0 hs hl0 L1.here) fun v H1 ⟨hv, p1, hp1, hH⟩ => ?_
  subst hv
  have L2 : LX H r H1 (rr s p1 (16 - k)) .nil 0 5 := by rw [hH]; exact L1.call
  have h21 : H1 b2 = some (.cells z5) := by rw [hH, upd_ne n2r, upd_same]
  have hr1 := L2.here
  have hvs := skB_valid t hvt
  clear hH
  have fin : ∀ (H3 : Heap) (X : AObj) (cs : List AV), H3 = H1.upd r X → (∃ ys, X = .cells ys) → H3 b2 = some (.cells z5) ∧ Low (H.upd r X) (H3.upd b2 (.cells cs)) := fun H3 X cs e ⟨ys, hX⟩ => by
    subst e; subst hX
    have h2 : (H1.upd r (.cells ys)) b2 = some (.cells z5) := by rw [upd_ne n2r]; exact h21
    exact ⟨h2, ((L2.call (X' := .cells ys)).box (cs := ys) (ds' := cs) hb2 h2).low⟩
  have h5sp : ∀ cs : List AV, cs.length = 5 → splice z5 0 cs = cs := fun cs h => by unfold splice; simp [h]
  have h5t : ∀ cs : List AV, cs.length = 5 → cs.take 5 = cs := fun cs h => List.take_of_length_le (by omega)
  have lift : ∀ (x : RR Val) (v : AV) (H3 : Heap), valM k t = x → RetR H1 r s (16 - k) x (fun v => .agg (cV v)) bad5 v H3 → ∃ cs, v = .agg cs ∧ cs.length = 5 ∧ H3 b2 = some (.cells z5) ∧ ∃ H4, Low H4 (H3.upd b2 (.cells cs)) ∧ RetR H r s (16 - k) (valM k t) (fun v => .agg (cV v)) bad5 (AV.agg cs).strip H4 := by
    intro x v H3 e hret
    rw [e]
    rcases valM_nz hret with ⟨w, t', p', e6, hv6, hp6, hH6⟩ | ⟨m, cs, a, d, e6, hm, hv6, hc5, hH6⟩
    · obtain ⟨h2, hlow⟩ := fin H3 _ (cV w) hH6 ⟨_, rfl⟩
      refine ⟨_, hv6, cV_len w, h2, _, hlow, ?_⟩
      rw [e6]
      exact ⟨by simp only [AV.strip, cV_strip], p', hp6, rfl⟩
    · obtain ⟨h2, hlow⟩ := fin H3 _ cs hH6 ⟨_, rfl⟩
      refine ⟨_, hv6, hc5, h2, _, hlow, ?_⟩
      rw [e6]
      exact ⟨⟨_, rfl, by simpa using hc5⟩, hm, a, d, rfl⟩
  simp (disch := first | omega | assumption) only [go_sem, ↓reduceIte]
  refine goK_ret (peekR0 hp1 hr1) fun v H2 ⟨hv, hH⟩ => ?_
  subst hv; replace hH := hH.symm; subst hH
  cases hu : skB t with
  | nil =>
    have eV : valM k t = .error 2 := by
      have : valM k t = valM k (skB t) := (valM_sk' k t).symm
      rw [this, hu]
      cases k <;> rfl
    have g0 : ((([] : List UInt8).headD 0).toNat : Int) = 0 := rfl
    simp (disch := first | omega | assumption) only [g0, go_sem, ↓reduceIte]
    refine goK_ret (failR0 hr1 2) fun v H3 ⟨hv, hH⟩ => ?_
    subst hv
    obtain ⟨cs, e1, e2, h2, H4, hlow, hret⟩ := lift (.error 2) (.agg z5) H3 eV ⟨⟨_, rfl, rfl⟩, by decide, _, _, hH⟩
    cases e1
    simp (disch := first | omega | assumption) only [h2, go_sem, ↓reduceIte]
    exact hQ _ _ _ H4 [.agg z5] nofun (by simp (disch := first | omega | assumption) only [ir37, resvs, resv, upd_same, go_sem, ↓reduceIte]) hlow hret
  | cons c u =>
    have hb := skB_head hu
    have eV0 : valM k t = valM k (c :: u) := by rw [← valM_sk' k t, hu]
    rw [hu] at hp1 hvs
    have g0 : (((c :: u).headD 0).toNat : Int) = c.toNat := rfl
    have fact : ∀ m : UInt8, c ≠ m → ¬ ((c.toNat : Int) = (m.toNat : Int)) := fun m h => by rw [u8_eq]; exact h
    have hpl : p1.length + u.length + 1 = s.length := by rw [← hp1]; simp; omega
    by_cases c1 : c = 110
    · have g1 : ((c.toNat : Int) = 110) = True := eq_true (by rw [c1]; rfl)
      obtain ⟨q, hq⟩ := valM_hd (k := k) (c := c) (t := u) hb (by rw [c1]; decide) (by rw [c1]; decide)
      have eV : valM k t = wordM (c :: u) := by
        rw [eV0, hq]; simp only [headM]
        rw [if_neg (by rw [c1]; decide), if_neg (by rw [c1]; decide), if_neg (by rw [c1]; decide), if_neg (by rw [c1]; decide)]
      rw [wordM_n c1] at eV
      simp (disch := first | omega | assumption) only [g0, g1, go_sem, ↓reduceIte]
      refine goK_ret (rt_of r (wordR0 [110, 117, 108, 108] (by decide) z5 rfl hp1 hl0 hr1)) fun v H3 ⟨hv3, hw⟩ => ?_
      obtain ⟨cs, e1, e2, h2, H4, hlow, hret⟩ := lift _ v H3 eV (by
        split at hw
        · rename_i h; rw [if_pos h]; exact ⟨by rw [hv3]; rfl, hw⟩
        · rename_i h; rw [if_neg h]; exact ⟨⟨_, hv3, rfl⟩, hw⟩)
      subst e1
      have hsp := h5sp cs e2
      have htk := h5t cs e2
      have l5 : 5 ≤ cs.length := by omega
      simp (disch := first | omega | assumption) only [h2, e2, hsp, htk, l5, go_sem, ↓reduceIte]
      exact hQ _ _ _ H4 [.agg cs] nofun (by simp (disch := first | omega | assumption) only [ir37, resvs, resv, upd_same, e2, htk, hsp, l5, go_sem, ↓reduceIte]) hlow hret
    have f1 : ¬ ((c.toNat : Int) = 110) := fact 110 c1
    by_cases c2 : c = 116
    · have g1 : ((c.toNat : Int) = 116) = True := eq_true (by rw [c2]; rfl)
      obtain ⟨q, hq⟩ := valM_hd (k := k) (c := c) (t := u) hb (by rw [c2]; decide) (by rw [c2]; decide)
      have eV : valM k t = wordM (c :: u) := by
        rw [eV0, hq]; simp only [headM]
        rw [if_neg (by rw [c2]; decide), if_neg (by rw [c2]; decide), if_neg (by rw [c2]; decide), if_neg (by rw [c2]; decide)]
      rw [wordM_t c2] at eV
      simp (disch := first | omega | assumption) only [g0, f1, g1, go_sem, ↓reduceIte]
      refine goK_ret (rt_of r (wordR0 [116, 114, 117, 101] (by decide) [.int .i64 1, .int .i64 1, .str [], .sl .nil 5 [], .sl .nil 6 []] rfl hp1 hl0 hr1)) fun v H3 ⟨hv3, hw⟩ => ?_
      obtain ⟨cs, e1, e2, h2, H4, hlow, hret⟩ := lift _ v H3 eV (by
        split at hw
        · rename_i h; rw [if_pos h]; exact ⟨by rw [hv3]; rfl, hw⟩
        · rename_i h; rw [if_neg h]; exact ⟨⟨_, hv3, rfl⟩, hw⟩)
      subst e1
      have hsp := h5sp cs e2
      have htk := h5t cs e2
      have l5 : 5 ≤ cs.length := by omega
      simp (disch := first | omega | assumption) only [h2, e2, hsp, htk, l5, go_sem, ↓reduceIte]
      exact hQ _ _ _ H4 [.agg cs] nofun (by simp (disch := first | omega | assumption) only [ir37, resvs, resv, upd_same, e2, htk, hsp, l5, go_sem, ↓reduceIte]) hlow hret
    have f2 : ¬ ((c.toNat : Int) = 116) := fact 116 c2
    by_cases c3 : c = 102
    · have g1 : ((c.toNat : Int) = 102) = True := eq_true (by rw [c3]; rfl)
      obtain ⟨q, hq⟩ := valM_hd (k := k) (c := c) (t := u) hb (by rw [c3]; decide) (by rw [c3]; decide)
      have eV : valM k t = wordM (c :: u) := by
        rw [eV0, hq]; simp only [headM]
        rw [if_neg (by rw [c3]; decide), if_neg (by rw [c3]; decide), if_neg (by rw [c3]; decide), if_neg (by rw [c3]; decide)]
      rw [wordM_f c3] at eV
      simp (disch := first | omega | assumption) only [g0, f1, f2, g1, go_sem, ↓reduceIte]
      refine goK_ret (rt_of r (wordR0 [102, 97, 108, 115, 101] (by decide) [.int .i64 1, .int .i64 0, .str [], .sl .nil 5 [], .sl .nil 6 []] rfl hp1 hl0 hr1)) fun v H3 ⟨hv3, hw⟩ => ?_
      obtain ⟨cs, e1, e2, h2, H4, hlow, hret⟩ := lift _ v H3 eV (by
        split at hw
        · rename_i h; rw [if_pos h]; exact ⟨by rw [hv3]; rfl, hw⟩
        · rename_i h; rw [if_neg h]; exact ⟨⟨_, hv3, rfl⟩, hw⟩)
      subst e1
      have hsp := h5sp cs e2
      have htk := h5t cs e2
      have l5 : 5 ≤ cs.length := by omega
      simp (disch := first | omega | assumption) only [h2, e2, hsp, htk, l5, go_sem, ↓reduceIte]
      exact hQ _ _ _ H4 [.agg cs] nofun (by simp (disch := first | omega | assumption) only [ir37, resvs, resv, upd_same, e2, htk, hsp, l5, go_sem, ↓reduceIte]) hlow hret
    have f3 : ¬ ((c.toNat : Int) = 102) := fact 102 c3
    have hns := nst_eq c
    by_cases c4 : nst c = true
    · obtain ⟨h0, h1, h2', h3', _⟩ := nst_other c c4
      obtain ⟨q, hq⟩ := valM_hd (k := k) (c := c) (t := u) hb h1 h2'
      have eV : valM k t = numM (c :: u) := by rw [eV0, hq, headM_num c4]
      have split45 : ((c.toNat : Int) = 45 ∧ True) ∨ (¬ ((c.toNat : Int) = 45) ∧ ((48 : Int) ≤ c.toNat ∧ (c.toNat : Int) ≤ 57)) := by
        rw [hns] at c4
        simp only [Bool.or_eq_true, Bool.and_eq_true, decide_eq_true_eq] at c4
        rcases c4 with h | h
        · exact .inl ⟨by omega, trivial⟩
        · exact .inr ⟨by omega, by omega, by omega⟩
      have hnum := rt_of r (numberR0 hp1 hl0 hr1)
      rcases split45 with ⟨g1, _⟩ | ⟨g1, g2, g3⟩
      · simp (disch := first | omega | assumption) only [g0, f1, f2, f3, g1, go_sem, ↓reduceIte]
        refine goK_ret hnum fun v H3 hret3 => ?_
        obtain ⟨cs, e1, e2, h2, H4, hlow, hret⟩ := lift _ v H3 eV hret3
        subst e1
        have hsp := h5sp cs e2
        have htk := h5t cs e2
        have l5 : 5 ≤ cs.length := by omega
        simp (disch := first | omega | assumption) only [h2, e2, hsp, htk, l5, go_sem, ↓reduceIte]
        exact hQ _ _ _ H4 [.agg cs] nofun (by simp (disch := first | omega | assumption) only [ir37, resvs, resv, upd_same, e2, htk, hsp, l5, go_sem, ↓reduceIte]) hlow hret
      · simp (disch := first | omega | assumption) only [g0, f1, f2, f3, g1, g2, g3, go_sem, ↓reduceIte]
        refine goK_ret hnum fun v H3 hret3 => ?_
        obtain ⟨cs, e1, e2, h2, H4, hlow, hret⟩ := lift _ v H3 eV hret3
        subst e1
        have hsp := h5sp cs e2
        have htk := h5t cs e2
        have l5 : 5 ≤ cs.length := by omega
        simp (disch := first | omega | assumption) only [h2, e2, hsp, htk, l5, go_sem, ↓reduceIte]
        exact hQ _ _ _ H4 [.agg cs] nofun (by simp (disch := first | omega | assumption) only [ir37, resvs, resv, upd_same, e2, htk, hsp, l5, go_sem, ↓reduceIte]) hlow hret
    have c4' : nst c = false := by simpa using c4
    rw [hns] at c4'
    simp only [Bool.or_eq_false_iff, Bool.and_eq_false_iff, decide_eq_false_iff_not] at c4'
    have g45 : ¬ ((c.toNat : Int) = 45) := by omega
    have heads : (¬ ((48 : Int) ≤ c.toNat) ∧ ¬ ((48 : Int) ≤ c.toNat)) ∨ ((48 : Int) ≤ c.toNat ∧ ¬ ((c.toNat : Int) ≤ 57)) := by omega
    by_cases c5 : c = 34
    · have g34 : ((c.toNat : Int) = 34) = True := eq_true (by rw [c5]; rfl)
      have g48 : ¬ ((48 : Int) ≤ c.toNat) := by rw [c5]; decide
      obtain ⟨q, hq⟩ := valM_hd (k := k) (c := c) (t := u) hb (by rw [c5]; decide) (by rw [c5]; decide)
      have eV : valM k t = (textM (c :: u)).bind fun s t => .ok (.mk 4 0 s [] [], t) := by
        rw [eV0, hq]; simp only [headM]
        rw [if_neg (by rw [c5]; decide), if_neg (by rw [c5]; decide), if_pos c5]
      simp (disch := first | omega | assumption) only [g0, f1, f2, f3, g45, g48, g34, go_sem, ↓reduceIte]
      refine goK_ret (textR0 hp1 hl0 (skB_no hb) hvs hr1) fun v H3 hret3 => ?_
      cases htm : textM (c :: u) with
      | ok y =>
        obtain ⟨b, t'⟩ := y
        rw [htm] at hret3 eV
        obtain ⟨hv3, hat⟩ := hret3
        subst hv3
        simp only [RR.bind] at eV
        simp (disch := first | omega | assumption) only [go_sem, ↓reduceIte]
        refine goK_pure (textR b) ?_
        obtain ⟨cs, e1, e2, h2, H4, hlow, hret⟩ := lift _ (.agg (cV (.mk 4 0 b [] []))) H3 eV ⟨rfl, hat⟩
        cases e1
        simp (disch := first | omega | assumption) only [h2, cV_len, cV_splice, cV_take, go_sem, ↓reduceIte]
        exact hQ _ _ _ H4 [.agg (cV (.mk 4 0 b [] []))] nofun (by simp (disch := first | omega | assumption) only [ir37, resvs, resv, upd_same, cV_len, cV_take, cV_splice, go_sem, ↓reduceIte]) hlow hret
      | error m =>
        rw [htm] at hret3 eV
        obtain ⟨⟨b, hv3⟩, hm, hat⟩ := hret3
        subst hv3
        simp only [RR.bind] at eV
        simp (disch := first | omega | assumption) only [go_sem, ↓reduceIte]
        refine goK_pure (textR b) ?_
        obtain ⟨cs, e1, e2, h2, H4, hlow, hret⟩ := lift _ (.agg (cV (.mk 4 0 b [] []))) H3 eV ⟨⟨_, rfl, cV_len _⟩, hm, hat⟩
        cases e1
        simp (disch := first | omega | assumption) only [h2, cV_len, cV_splice, cV_take, go_sem, ↓reduceIte]
        exact hQ _ _ _ H4 [.agg (cV (.mk 4 0 b [] []))] nofun (by simp (disch := first | omega | assumption) only [ir37, resvs, resv, upd_same, cV_len, cV_take, cV_splice, go_sem, ↓reduceIte]) hlow hret
    have f34 : ¬ ((c.toNat : Int) = 34) := fact 34 c5
    by_cases c6 : c = 91
    · have g91 : ((c.toNat : Int) = 91) = True := eq_true (by rw [c6]; rfl)
      have g48 : (48 : Int) ≤ c.toNat := by rw [c6]; decide
      have g57 : ¬ ((c.toNat : Int) ≤ 57) := by rw [c6]; decide
      have eV : valM k t = listK k u := by
        rw [eV0, c6]
        cases k with
        | zero => simp only [valM, skB_no (show bk 91 = false by decide)]; rw [if_pos (by simp)]; rfl
        | succ n => simp only [valM, skB_no (show bk 91 = false by decide), headM]; rw [if_neg (by decide), if_pos trivial]; rfl
      have hvu : validD u = true := by rw [c6, validD_cons _ _ (by decide)] at hvs; exact hvs
      simp (disch := first | omega | assumption) only [g0, f1, f2, f3, g45, g48, g57, f34, g91, go_sem, ↓reduceIte]
      refine goK_ret (listR hk ih (by rw [← c6]; exact hp1) hl0 hvu hr1) fun v H3 hret3 => ?_
      obtain ⟨cs, e1, e2, h2, H4, hlow, hret⟩ := lift _ v H3 eV hret3
      subst e1
      have hsp := h5sp cs e2
      have htk := h5t cs e2
      have l5 : 5 ≤ cs.length := by omega
      simp (disch := first | omega | assumption) only [h2, e2, hsp, htk, l5, go_sem, ↓reduceIte]
      exact hQ _ _ _ H4 [.agg cs] nofun (by simp (disch := first | omega | assumption) only [ir37, resvs, resv, upd_same, e2, htk, hsp, l5, go_sem, ↓reduceIte]) hlow hret
    have f91 : ¬ ((c.toNat : Int) = 91) := fact 91 c6
    by_cases c7 : c = 123
    · have g123 : ((c.toNat : Int) = 123) = True := eq_true (by rw [c7]; rfl)
      have g48 : (48 : Int) ≤ c.toNat := by rw [c7]; decide
      have g57 : ¬ ((c.toNat : Int) ≤ 57) := by rw [c7]; decide
      have eV : valM k t = objK k u := by
        rw [eV0, c7]
        cases k with
        | zero => simp only [valM, skB_no (show bk 123 = false by decide)]; rw [if_pos (by simp)]; rfl
        | succ n => simp only [valM, skB_no (show bk 123 = false by decide), headM]; rw [if_pos trivial]; rfl
      have hvu : validD u = true := by rw [c7, validD_cons _ _ (by decide)] at hvs; exact hvs
      simp (disch := first | omega | assumption) only [g0, f1, f2, f3, g45, g48, g57, f34, f91, g123, go_sem, ↓reduceIte]
      refine goK_ret (objR hk ih (by rw [← c7]; exact hp1) hl0 hvu hr1) fun v H3 hret3 => ?_
      obtain ⟨cs, e1, e2, h2, H4, hlow, hret⟩ := lift _ v H3 eV hret3
      subst e1
      have hsp := h5sp cs e2
      have htk := h5t cs e2
      have l5 : 5 ≤ cs.length := by omega
      simp (disch := first | omega | assumption) only [h2, e2, hsp, htk, l5, go_sem, ↓reduceIte]
      exact hQ _ _ _ H4 [.agg cs] nofun (by simp (disch := first | omega | assumption) only [ir37, resvs, resv, upd_same, e2, htk, hsp, l5, go_sem, ↓reduceIte]) hlow hret
    have f123 : ¬ ((c.toNat : Int) = 123) := fact 123 c7
    obtain ⟨q, hq⟩ := valM_hd (k := k) (c := c) (t := u) hb c7 c6
    have eV : valM k t = .error 2 := by
      rw [eV0, hq]; simp only [headM]
      rw [if_neg c7, if_neg c6, if_neg c5, if_neg c4]
      exact wordM_no hb c1 c2 c3
    rcases heads with ⟨g48, g57⟩ | ⟨g48, g57⟩
    all_goals
      simp (disch := first | omega | assumption) only [g0, f1, f2, f3, g45, g48, g57, f34, f91, f123, go_sem, ↓reduceIte]
      refine goK_ret (failR0 hr1 2) fun v H3 ⟨hv, hH⟩ => ?_
      subst hv
      obtain ⟨cs, e1, e2, h2, H4, hlow, hret⟩ := lift (.error 2) (.agg z5) H3 eV ⟨⟨_, rfl, rfl⟩, by decide, _, _, hH⟩
      cases e1
      simp (disch := first | omega | assumption) only [h2, go_sem, ↓reduceIte]
      exact hQ _ _ _ H4 [.agg z5] nofun (by simp (disch := first | omega | assumption) only [ir37, resvs, resv, upd_same, go_sem, ↓reduceIte]) hlow hret
theorem valueRA : ∀ k, k ≤ 16 → ValR k
  | 0, h => valueR 0 h fun n e => by cases e
  | k + 1, h => valueR (k + 1) h fun n e => by cases e; exact valueRA k (by omega)
end Go.Proofs.YtpjafglhdlfnbaaGreatDoor
namespace Go.Proofs.YtpjafglhdlfnbaaGreatDoor
open Go.Ab Go.Lib
theorem readJR (s : List UInt8) (hl : s.length ≤ LimS) : Pure Tryz.prog 14 [.str s] (.tup [.agg (cV (readM s).1), .int .i64 (readM s).2]) := by
  refine Pure.go ir14 ck14 (Nat.le_refl _) fun KP Q hQ => ?_
  have hl0 := hl
  simp only [LimS] at hl
  simp (disch := first | omega | assumption) only [ir14, go_sem, ↓reduceIte]
  refine goA_intro fun b2 hb2 => ?_
  have stripz : ∀ n : Int, (tupOf [AV.agg z5, .int .i64 n]).strip = .tup [.agg (cV nullV), .int .i64 n] := fun _ => rfl
  by_cases h1 : 8192 < s.length
  · have h1' : ((8192 : Int) < s.length) = True := eq_true (by omega)
    have e0 : readM s = (nullV, 3) := by unfold readM; rw [if_pos h1]
    rw [e0] at hQ
    simp (disch := first | omega | assumption) only [h1', go_sem, ↓reduceIte]
    exact hQ _ _ _ [.agg z5, .int .i64 3] nofun (by simp (disch := first | omega | assumption) only [ir14, resvs, resv, upd_same, go_sem, ↓reduceIte]) (stripz 3)
  have h1' : ¬ ((8192 : Int) < s.length) := by omega
  simp (disch := first | omega | assumption) only [h1', go_sem, ↓reduceIte]
  refine goK_pure (GoodR s (by simp only [Lim]; omega)) ?_
  cases hv : validD s
  · have e0 : readM s = (nullV, 2) := by unfold readM; rw [if_neg h1, hv]; rfl
    rw [e0] at hQ
    simp (disch := first | omega | assumption) only [go_sem, ↓reduceIte]
    exact hQ _ _ _ [.agg z5, .int .i64 2] nofun (by simp (disch := first | omega | assumption) only [ir14, resvs, resv, upd_same, go_sem, ↓reduceIte]) (stripz 2)
  have e0 : readM s = match valM 16 s with
      | .error e => (nullV, e)
      | .ok (v, t) => if skB t = [] then (v, 0) else (nullV, 2) := by unfold readM; rw [if_neg h1, hv]; rfl
  simp (disch := first | omega | assumption) only [go_sem, ↓reduceIte]
  refine goA_intro fun b4 hb4 => ?_
  have n42 : b4 ≠ b2 := fun e => by subst e; rw [upd_same] at hb4; cases hb4
  have n24 := Ne.symm n42
  have h4 : ((Heap.emp.upd b2 (.cells z5)).upd b4 (.cells [.str s, .int .i64 0, .int .i64 0, .int .i64 0])) b4 = some (rr s [] (16 - 16)) := upd_same ..
  have h2 : ((Heap.emp.upd b2 (.cells z5)).upd b4 (.cells [.str s, .int .i64 0, .int .i64 0, .int .i64 0])) b2 = some (.cells z5) := by rw [upd_ne n24, upd_same]
  simp (disch := first | omega | assumption) only [go_sem, ↓reduceIte]
  generalize ((Heap.emp.upd b2 (.cells z5)).upd b4 (.cells [.str s, .int .i64 0, .int .i64 0, .int .i64 0])) = H1 at *
  refine goK_ret (valueRA 16 (Nat.le_refl _) H1 b4 s [] s rfl hl0 hv h4) fun v H3 hret => ?_
  rcases valM_nz hret with ⟨w, t', p', e6, hv6, hp6, hH6⟩ | ⟨m, cs, a, d, e6, hm, hv6, hc5, hH6⟩
  · subst hv6
    have hr3 : H3 b4 = some (rr s p' (16 - 16)) := by rw [hH6, upd_same]
    have h23 : H3 b2 = some (.cells z5) := by rw [hH6, upd_ne n24]; exact h2
    rw [e6] at e0
    simp only at e0
    clear hH6
    simp (disch := first | omega | assumption) only [cV_len, cV_take, cV_splice, cM_len, cM_take, cM_splice, cM_mk, go_sem, ↓reduceIte]
    refine goA_intro fun b5 hb5 => ?_
    have n54 : b5 ≠ b4 := fun e => by subst e; rw [hb5] at hr3; cases hr3
    have n45 := Ne.symm n54
    have n52 : b5 ≠ b2 := fun e => by subst e; rw [hb5] at h23; cases h23
    have n25 := Ne.symm n52
    have hr4 : (H3.upd b5 (.cells (cV w))) b4 = some (rr s p' (16 - 16)) := by rw [upd_ne n45]; exact hr3
    have h24 : (H3.upd b5 (.cells (cV w))) b2 = some (.cells z5) := by rw [upd_ne n25]; exact h23
    have h54 : (H3.upd b5 (.cells (cV w))) b5 = some (.cells (cV w)) := upd_same ..
    simp (disch := first | omega | assumption) only [cV_len, cV_take, cV_splice, cM_len, cM_take, cM_splice, cM_mk, go_sem, ↓reduceIte]
    generalize (H3.upd b5 (.cells (cV w))) = H4 at *
    refine goK_ret (blanksR0 hp6 hl0 hr4) fun v H5 ⟨hv5, p5, hp5, hH⟩ => ?_
    subst hv5
    have hr5 : H5 b4 = some (rr s p5 (16 - 16)) := by rw [hH, upd_same]
    have hr5' : H5 b4 = some (.cells [.str s, .int .i64 (p5.length : Int), .int .i64 ((16 - 16 : Nat) : Int), .int .i64 0]) := hr5
    have h25 : H5 b2 = some (.cells z5) := by rw [hH, upd_ne n24]; exact h24
    have h55 : H5 b5 = some (.cells (cV w)) := by rw [hH, upd_ne n54]; exact h54
    have hlen : p5.length + (skB t').length = s.length := by rw [← hp5]; simp
    clear hH
    by_cases hk : skB t' = []
    · rw [hk] at hlen e0
      rw [if_pos rfl] at e0
      rw [e0] at hQ
      have hlt : ¬ ((p5.length : Int) < s.length) := by simp at hlen; omega
      simp (disch := first | omega | assumption) only [cV_len, cV_take, cV_splice, cM_len, cM_take, cM_splice, cM_mk, hr5', hlt, h25, h55, go_sem, ↓reduceIte]
      exact hQ _ _ _ [.agg (cV w), .int .i64 0] nofun (by simp (disch := first | omega | assumption) only [cV_len, cV_take, cV_splice, cM_len, cM_take, cM_splice, cM_mk, ir14, resvs, resv, upd_same, go_sem, ↓reduceIte]) (by simp [tupOf, AV.strip, AV.strip1, cV_strip])
    · rw [if_neg hk] at e0
      rw [e0] at hQ
      have hlt : ((p5.length : Int) < s.length) = True := eq_true (by have := List.length_pos_iff.2 hk; omega)
      simp (disch := first | omega | assumption) only [cV_len, cV_take, cV_splice, cM_len, cM_take, cM_splice, cM_mk, hr5', hlt, go_sem, ↓reduceIte]
      refine goK_ret (failR0 hr5 2) fun v H6 ⟨hv6, hH⟩ => ?_
      subst hv6
      have hr6 : H6 b4 = some (.cells [.str s, .int .i64 (p5.length : Int), .int .i64 ((16 - 16 : Nat) : Int), .int .i64 2]) := by rw [hH, upd_same]; rfl
      have h26 : H6 b2 = some (.cells z5) := by rw [hH, upd_ne n24]; exact h25
      simp (disch := first | omega | assumption) only [cV_len, cV_take, cV_splice, cM_len, cM_take, cM_splice, cM_mk, hr6, h26, n24, n42, go_sem, ↓reduceIte]
      exact hQ _ _ _ [.agg z5, .int .i64 2] nofun (by simp (disch := first | omega | assumption) only [ir14, resvs, resv, upd_same, go_sem, ↓reduceIte]) (stripz 2)
  · subst hv6
    have hr3 : H3 b4 = some (re s a d m) := by rw [hH6, upd_same]
    have h23 : H3 b2 = some (.cells z5) := by rw [hH6, upd_ne n24]; exact h2
    rw [e6] at e0
    simp only at e0
    rw [e0] at hQ
    clear hH6
    have hsp : splice z5 0 cs = cs := by unfold splice; simp [hc5]
    have htk : cs.take 5 = cs := List.take_of_length_le (by omega)
    have l5 : 5 ≤ cs.length := by omega
    simp (disch := first | omega | assumption) only [hc5, go_sem, ↓reduceIte]
    refine goA_intro fun b5 hb5 => ?_
    have n54 : b5 ≠ b4 := fun e => by subst e; rw [hb5] at hr3; cases hr3
    have n45 := Ne.symm n54
    have n52 : b5 ≠ b2 := fun e => by subst e; rw [hb5] at h23; cases h23
    have n25 := Ne.symm n52
    have hr4 : (H3.upd b5 (.cells cs)) b4 = some (re s a d m) := by rw [upd_ne n45]; exact hr3
    have h24 : (H3.upd b5 (.cells cs)) b2 = some (.cells z5) := by rw [upd_ne n25]; exact h23
    simp (disch := first | omega | assumption) only [hc5, hsp, go_sem, ↓reduceIte]
    generalize (H3.upd b5 (.cells cs)) = H4 at *
    have hr4' : H4 b4 = some (.cells [.str s, .int .i64 a, .int .i64 d, .int .i64 m]) := hr4
    refine goK_ret (blanksR1 hm hr4) fun v H5 ⟨hv5, hH⟩ => ?_
    subst hv5; replace hH := hH.symm; subst hH
    by_cases hlt : a < s.length
    · simp (disch := first | omega | assumption) only [hr4', hlt, go_sem, ↓reduceIte]
      refine goK_ret (failR1 hm hr4 2) fun v H5 ⟨hv5, hH⟩ => ?_
      subst hv5; replace hH := hH.symm; subst hH
      simp (disch := first | omega | assumption) only [hr4', h24, hm, n24, n42, go_sem, ↓reduceIte]
      exact hQ _ _ _ [.agg z5, .int .i64 m] nofun (by simp (disch := first | omega | assumption) only [ir14, resvs, resv, upd_same, go_sem, ↓reduceIte]) (stripz m)
    · simp (disch := first | omega | assumption) only [hr4', h24, hlt, hm, n24, n42, go_sem, ↓reduceIte]
      exact hQ _ _ _ [.agg z5, .int .i64 m] nofun (by simp (disch := first | omega | assumption) only [ir14, resvs, resv, upd_same, go_sem, ↓reduceIte]) (stripz m)
end Go.Proofs.YtpjafglhdlfnbaaGreatDoor
namespace Go.Proofs.YtpjafglhdlfnbaaGreatDoor
open Go.Ab Go.Lib
theorem askM_ref (s : List UInt8) : askM s = if (readM s).2 = 0 then refV (readM s).1 else (zA, (readM s).2) := by
  unfold askM
  split
  · rename_i h
    rcases readM_cases s with ⟨h1, _⟩ | ⟨_, h2, _⟩
    · exact absurd h h1
    · exact askV_ref h2
  · rfl
theorem refOf_bad {m : List Mem} (h : ¬ (kV (getV qN m).1 = 4 ∧ (kV (getV vN m).1 = 7 ∨ kV (getV vN m).1 = 0) ∧ (kV (getV oN m).1 = 4 ∨ kV (getV oN m).1 = 0))) : refOf m = (zA, 7) := by
  unfold refOf; rw [if_neg]
  rintro ⟨h1, h2, h3⟩
  exact h ⟨h1, by simpa [okVa] using h2, by simpa [okO] using h3⟩
theorem refOf_ok {m : List Mem} (h1 : kV (getV qN m).1 = 4) (h2 : kV (getV vN m).1 = 7 ∨ kV (getV vN m).1 = 0) (h3 : kV (getV oN m).1 = 4 ∨ kV (getV oN m).1 = 0) : refOf m = ((sV (getV qN m).1, sV (getV oN m).1, mV (getV vN m).1), 0) := by
  unfold refOf; rw [if_pos ⟨h1, by simpa [okVa] using h2, by simpa [okO] using h3⟩]
theorem refV_mk (k n : Int) (s : List UInt8) (l : List Val) (m : List Mem) : refV (.mk k n s l m) = if k = 7 then (if (getV qN m).2 then refOf m else (zA, 6)) else (zA, 7) := rfl
theorem askR (s : List UInt8) (hl : s.length ≤ LimS) : Pure Tryz.prog 10 [.str s] (.tup [.agg (cA (askM s).1), .int .i64 (askM s).2]) := by
  refine Pure.go ir10 ck10 (Nat.le_refl _) fun KP Q hQ => ?_
  have hsz := readM_size s
  simp only [LimS] at hl
  have stripz : ∀ n : Int, (tupOf [AV.agg z3, .int .i64 n]).strip = .tup [.agg (cA zA), .int .i64 n] := fun _ => rfl
  simp (disch := first | omega | assumption) only [ir10, go_sem, ↓reduceIte]
  refine goA_intro fun b2 hb2 => ?_
  simp (disch := first | omega | assumption) only [go_sem, ↓reduceIte]
  refine goK_pure (readJR s (by simp only [LimS]; omega)) ?_
  rw [askM_ref] at hQ
  generalize (readM s).2 = e at *
  rcases hv : (readM s).1 with ⟨k, n, x, l, m⟩
  rw [hv] at hsz hQ
  have hml : m.length ≤ Lim := by
    have := bMs_len m
    simp only [bV] at hsz; simp only [Lim]; omega
  simp (disch := first | omega | assumption) only [cV_mk, go_sem, ↓reduceIte]
  refine goA_intro fun b4 hb4 => ?_
  have n42 : b4 ≠ b2 := fun e => by subst e; rw [upd_same] at hb4; cases hb4
  have n24 := Ne.symm n42
  simp (disch := first | omega | assumption) only [cV_mk, go_sem, ↓reduceIte]
  have h2 : ((Heap.emp.upd b2 (.cells z3)).upd b4 (.cells [.int .i64 k, .int .i64 n, .str x, .sl .no 5 (cVs l), .sl .no 6 (cMs m)])) b2 = some (.cells z3) := by rw [upd_ne n24, upd_same]
  have h4 : ((Heap.emp.upd b2 (.cells z3)).upd b4 (.cells [.int .i64 k, .int .i64 n, .str x, .sl .no 5 (cVs l), .sl .no 6 (cMs m)])) b4 = some (.cells [.int .i64 k, .int .i64 n, .str x, .sl .no 5 (cVs l), .sl .no 6 (cMs m)]) := upd_same ..
  unfold z3 at h2 h4
  generalize ((Heap.emp.upd b2 (.cells [AV.str [], .str [], .sl .nil 6 []])).upd b4 (.cells [.int .i64 k, .int .i64 n, .str x, .sl .no 5 (cVs l), .sl .no 6 (cMs m)])) = H1 at *
  by_cases he : e = 0
  case neg =>
    rw [if_neg he] at hQ
    simp (disch := first | omega | assumption) only [he, h2, go_sem, ↓reduceIte]
    exact hQ _ _ _ [.agg z3, .int .i64 e] nofun (by simp (disch := first | omega | assumption) only [ir10, resvs, resv, upd_same, z3, go_sem, ↓reduceIte]) (stripz e)
  subst he
  rw [if_pos rfl] at hQ
  rw [refV_mk] at hQ
  by_cases hk : k = 7
  case neg =>
    rw [if_neg hk] at hQ
    simp (disch := first | omega | assumption) only [h4, h2, hk, go_sem, ↓reduceIte]
    exact hQ _ _ _ [.agg z3, .int .i64 7] nofun (by simp (disch := first | omega | assumption) only [ir10, resvs, resv, upd_same, z3, go_sem, ↓reduceIte]) (stripz 7)
  subst hk
  simp only [if_true] at hQ
  simp (disch := first | omega | assumption) only [h4, go_sem, ↓reduceIte]
  refine goK_pure (getR qN m hml) ?_
  rcases hq1 : (getV qN m).1 with ⟨k1, n1, s1, l1, m1⟩
  rcases hq2 : (getV vN m).1 with ⟨k2, n2, s2, l2, m2⟩
  rcases hq3 : (getV oN m).1 with ⟨k3, n3, s3, l3, m3⟩
  have bad : ¬ (k1 = 4 ∧ (k2 = 7 ∨ k2 = 0) ∧ (k3 = 4 ∨ k3 = 0)) → refOf m = (zA, 7) := fun h => refOf_bad (by rw [hq1, hq2, hq3]; exact h)
  have good : k1 = 4 → (k2 = 7 ∨ k2 = 0) → (k3 = 4 ∨ k3 = 0) → refOf m = ((s1, s3, m2), 0) := fun h1 h2 h3 => by
    rw [refOf_ok (by rw [hq1]; exact h1) (by rw [hq2]; exact h2) (by rw [hq3]; exact h3), hq1, hq2, hq3]; rfl
  simp (disch := first | omega | assumption) only [cV_mk, go_sem, ↓reduceIte]
  refine goA_intro fun b6 hb6 => ?_
  have n62 : b6 ≠ b2 := fun e => by subst e; rw [hb6] at h2; cases h2
  have n26 := Ne.symm n62
  have n64 : b6 ≠ b4 := fun e => by subst e; rw [hb6] at h4; cases h4
  have n46 := Ne.symm n64
  cases hg : (getV qN m).2
  · rw [hg] at hQ
    simp (disch := first | omega | assumption) only [h2, h4, n26, n62, n46, n64, cV_mk, go_sem, ↓reduceIte]
    exact hQ _ _ _ [.agg z3, .int .i64 6] nofun (by simp (disch := first | omega | assumption) only [ir10, resvs, resv, upd_same, z3, go_sem, ↓reduceIte]) (stripz 6)
  rw [hg] at hQ
  simp only [if_true] at hQ
  have i2 : (H1.upd b6 (.cells (cV (.mk k1 n1 s1 l1 m1)))) b2 = some (.cells z3) := by rw [upd_ne n26]; exact h2
  have i4 : (H1.upd b6 (.cells (cV (.mk k1 n1 s1 l1 m1)))) b4 = some (.cells [.int .i64 7, .int .i64 n, .str x, .sl .no 5 (cVs l), .sl .no 6 (cMs m)]) := by rw [upd_ne n46]; exact h4
  have i6 : (H1.upd b6 (.cells (cV (.mk k1 n1 s1 l1 m1)))) b6 = some (.cells (cV (.mk k1 n1 s1 l1 m1))) := upd_same ..
  rw [cV_mk] at i2 i4 i6
  simp (disch := first | omega | assumption) only [cV_mk, h4, n46, go_sem, ↓reduceIte]
  generalize (H1.upd b6 (.cells [.int .i64 k1, .int .i64 n1, .str s1, .sl .no 5 (cVs l1), .sl .no 6 (cMs m1)])) = H2 at *
  refine goK_pure (getR vN m hml) ?_
  rw [hq2]
  simp (disch := first | omega | assumption) only [cV_mk, go_sem, ↓reduceIte]
  refine goA_intro fun b8 hb8 => ?_
  have n82 : b8 ≠ b2 := fun e => by subst e; rw [hb8] at i2; cases i2
  have n28 := Ne.symm n82
  have n84 : b8 ≠ b4 := fun e => by subst e; rw [hb8] at i4; cases i4
  have n48 := Ne.symm n84
  have n86 : b8 ≠ b6 := fun e => by subst e; rw [hb8] at i6; cases i6
  have n68 := Ne.symm n86
  have j2 : (H2.upd b8 (.cells (cV (.mk k2 n2 s2 l2 m2)))) b2 = some (.cells z3) := by rw [upd_ne n28]; exact i2
  have j4 : (H2.upd b8 (.cells (cV (.mk k2 n2 s2 l2 m2)))) b4 = some (.cells [.int .i64 7, .int .i64 n, .str x, .sl .no 5 (cVs l), .sl .no 6 (cMs m)]) := by rw [upd_ne n48]; exact i4
  have j6 : (H2.upd b8 (.cells (cV (.mk k2 n2 s2 l2 m2)))) b6 = some (.cells (cV (.mk k1 n1 s1 l1 m1))) := by rw [upd_ne n68]; exact i6
  have j8 : (H2.upd b8 (.cells (cV (.mk k2 n2 s2 l2 m2)))) b8 = some (.cells (cV (.mk k2 n2 s2 l2 m2))) := upd_same ..
  rw [cV_mk] at j2 j4 j6 j8
  rw [cV_mk] at j6
  simp (disch := first | omega | assumption) only [cV_mk, i4, n48, go_sem, ↓reduceIte]
  generalize (H2.upd b8 (.cells [.int .i64 k2, .int .i64 n2, .str s2, .sl .no 5 (cVs l2), .sl .no 6 (cMs m2)])) = H3 at *
  refine goK_pure (getR oN m hml) ?_
  rw [hq3]
  simp (disch := first | omega | assumption) only [cV_mk, go_sem, ↓reduceIte]
  refine goA_intro fun b10 hb10 => ?_
  have n102 : b10 ≠ b2 := fun e => by subst e; rw [hb10] at j2; cases j2
  have n210 := Ne.symm n102
  have n104 : b10 ≠ b4 := fun e => by subst e; rw [hb10] at j4; cases j4
  have n410 := Ne.symm n104
  have n106 : b10 ≠ b6 := fun e => by subst e; rw [hb10] at j6; cases j6
  have n610 := Ne.symm n106
  have n108 : b10 ≠ b8 := fun e => by subst e; rw [hb10] at j8; cases j8
  have n810 := Ne.symm n108
  unfold z3 at j2
  simp (disch := first | omega | assumption) only [cV_mk, j6, n610, go_sem, ↓reduceIte]
  by_cases c1 : k1 = 4
  case neg =>
    rw [bad fun e => c1 e.1] at hQ
    simp (disch := first | omega | assumption) only [j2, j6, j8, n210, n610, n810, n102, c1, n26, n62, n28, n82, go_sem, ↓reduceIte]
    exact hQ _ _ _ [.agg z3, .int .i64 7] nofun (by simp (disch := first | omega | assumption) only [ir10, resvs, resv, upd_same, z3, go_sem, ↓reduceIte]) (stripz 7)
  subst c1
  by_cases c2 : k2 = 7 ∨ k2 = 0
  case neg =>
    rw [bad fun e => c2 e.2.1] at hQ
    have ca : ¬ k2 = 7 := fun e => c2 (.inl e)
    have cb : ¬ k2 = 0 := fun e => c2 (.inr e)
    simp (disch := first | omega | assumption) only [j2, j6, j8, n210, n610, n810, n102, ca, cb, n26, n62, n28, n82, go_sem, ↓reduceIte]
    exact hQ _ _ _ [.agg z3, .int .i64 7] nofun (by simp (disch := first | omega | assumption) only [ir10, resvs, resv, upd_same, z3, go_sem, ↓reduceIte]) (stripz 7)
  by_cases c3 : k3 = 4 ∨ k3 = 0
  case neg =>
    rw [bad fun e => c3 e.2.2] at hQ
    have ca : ¬ k3 = 4 := fun e => c3 (.inl e)
    have cb : ¬ k3 = 0 := fun e => c3 (.inr e)
    rcases c2 with rfl | rfl
    · simp (disch := first | omega | assumption) only [j2, j6, j8, n210, n610, n810, n102, ca, cb, n26, n62, n28, n82, go_sem, ↓reduceIte]
      exact hQ _ _ _ [.agg z3, .int .i64 7] nofun (by simp (disch := first | omega | assumption) only [ir10, resvs, resv, upd_same, z3, go_sem, ↓reduceIte]) (stripz 7)
    · simp (disch := first | omega | assumption) only [j2, j6, j8, n210, n610, n810, n102, ca, cb, n26, n62, n28, n82, go_sem, ↓reduceIte]
      exact hQ _ _ _ [.agg z3, .int .i64 7] nofun (by simp (disch := first | omega | assumption) only [ir10, resvs, resv, upd_same, z3, go_sem, ↓reduceIte]) (stripz 7)
  rw [good rfl c2 c3] at hQ
  have fin : ∀ ρ H, resvs ρ H ir10.res = some [.agg [.str s1, .str s3, .sl .no 6 (cMs m2)], .int .i64 0] → Q .ret ρ H := fun ρ H h => hQ _ ρ H _ nofun h rfl
  rcases c2 with rfl | rfl
  · rcases c3 with rfl | rfl
    · simp (disch := first | omega | assumption) only [j2, j6, j8, n210, n610, n810, n102, n26, n62, n28, n82, go_sem, ↓reduceIte]
      exact fin _ _ (by simp (disch := first | omega | assumption) only [ir10, resvs, resv, upd_same, go_sem, ↓reduceIte])
    · simp (disch := first | omega | assumption) only [j2, j6, j8, n210, n610, n810, n102, n26, n62, n28, n82, go_sem, ↓reduceIte]
      exact fin _ _ (by simp (disch := first | omega | assumption) only [ir10, resvs, resv, upd_same, go_sem, ↓reduceIte])
  · rcases c3 with rfl | rfl
    · simp (disch := first | omega | assumption) only [j2, j6, j8, n210, n610, n810, n102, n26, n62, n28, n82, go_sem, ↓reduceIte]
      exact fin _ _ (by simp (disch := first | omega | assumption) only [ir10, resvs, resv, upd_same, go_sem, ↓reduceIte])
    · simp (disch := first | omega | assumption) only [j2, j6, j8, n210, n610, n810, n102, n26, n62, n28, n82, go_sem, ↓reduceIte]
      exact fin _ _ (by simp (disch := first | omega | assumption) only [ir10, resvs, resv, upd_same, go_sem, ↓reduceIte])
theorem bMs_in {t : List UInt8} {v : Val} : ∀ {m : List Mem}, Mem.mk t v ∈ m → bV v ≤ bMs m
  | [], h => by cases h
  | x :: r, h => by
    rcases List.mem_cons.1 h with e | e
    · subst e; simp only [bMs, bM]; omega
    · have := bMs_in e
      simp only [bMs]; omega
theorem getV_size (t : List UInt8) : ∀ m : List Mem, bMs (mV (getV t m).1) ≤ bMs m
  | [] => by simp [getV, zV, mV, bMs]
  | .mk s (.mk k n x l m') :: r => by
    rw [getV]
    have := getV_size t r
    by_cases e : s = t
    · simp only [e, if_true, mV, bMs, bM, bV]; omega
    · simp only [e, if_false, bMs]; omega
theorem askM_size (s : List UInt8) : bMs (askM s).1.2.2 ≤ 2 * s.length + 1 := by
  have h := readM_size s
  rw [askM_ref]
  split
  · generalize (readM s).1 = v at *
    cases v with
    | mk k n x l m =>
    rw [refV_mk]
    have := getV_size vN m
    simp only [bV] at h
    split
    · split
      · unfold refOf
        split
        · simp only; omega
        · simp [zA, bMs]
      · simp [zA, bMs]
    · simp [zA, bMs]
  · simp [zA, bMs]
theorem askReads (s : List UInt8) (hs : s.length ≤ maxLen) : Pure Tryz.prog 3 [.str s] (.bool true) := by
  refine Pure.go ir3 ck3 (Nat.le_refl _) fun KP Q hQ => ?_
  by_cases h0 : (8202 : Int) < s.length
  · simp (disch := first | omega | assumption) only [ir3, h0, go_sem, ↓reduceIte]
    refine goK_pure awakeA ?_
    simp (disch := first | omega | assumption) only [go_sem, ↓reduceIte]
    exact hQ _ _ _ _ nofun rfl (by simp [tupOf, envOf, AV.strip, AV.strip1])
  simp (disch := first | omega | assumption) only [ir3, h0, go_sem, ↓reduceIte]
  have hA := askC s (by simp only [LimS]; omega)
  have hR := askR s (by simp only [LimS]; omega)
  have hb : bMs (askM s).1.2.2 ≤ 2 * s.length + 1 := askM_size s
  generalize (askM s).2 = n at *
  generalize (askM s).1 = a at *
  rcases a with ⟨q, o, m⟩
  simp only [cA] at hA hR hb
  refine goK_pure hA ?_
  simp (disch := first | omega | assumption) only [go_sem, ↓reduceIte]
  refine goA_intro fun b1 hb1 => ?_
  simp (disch := first | omega | assumption) only [go_sem, ↓reduceIte]
  refine goK_pure hR ?_
  simp (disch := first | omega | assumption) only [go_sem, ↓reduceIte]
  refine goA_intro fun b2 hb2 => ?_
  have n12 : b1 ≠ b2 := fun e => by subst e; simp [Heap.upd] at hb2
  have hl := bMs_len m
  simp (disch := first | omega | assumption) only [n12, go_sem, ↓reduceIte]
  refine goK_pure (membersR m m (by simp only [Lim]; omega) fun t v ht u => sameR v (by have := bMs_in ht; simp only [Lim]; omega) u) ?_
  rw [eqd_true rfl]
  simp (disch := first | omega | assumption) only [go_sem, ↓reduceIte]
  refine goK_pure awakeA ?_
  simp (disch := first | omega | assumption) only [go_sem, ↓reduceIte]
  exact hQ _ _ _ _ nofun rfl (by simp [tupOf, envOf, AV.strip, AV.strip1])
end Go.Proofs.YtpjafglhdlfnbaaGreatDoor
namespace Go.Proofs.YtpjafglhdlfnbaaGreatDoor
open Go.Ab Go.Lib
open Go.ChangeShapes Go.WideShapes Go.ChangeAt Go.RowKit Go.WideElems
theorem AskReads_contract (H : Type) (enc : TypeId × Value → H) (W : World) (base : Nat) (args : Array Value) (ds gs : List (DataW H)) (before : List MemPlace)
    (hval : ∀ (j : Nat) t v, Tryz.f3.params[j]? = some t → args[j]? = some v → Value.okWide Tryz.prog W .any base t v)
    (hW : DataW.Whole enc Tryz.prog Tryz.f3.params.toList Rows.askReadsSpec.vars false W args.toList ds gs before) (hc : blkAll (ds ++ gs) ≤ 1048576)
    (hz : (DataW.weightsEach Tryz.prog (Tryz.f3.params.toList ++ (Rows.OpenSpec.upto Rows.askReadsSpec).bare.plain.varTypes Tryz.prog) (ds ++ gs)).all (· ≤ reachBytes) = true)
    (hL : laidMetH Tryz.prog laidL W) (hS : W.ShapedOpen Tryz.prog) :
    Calls Tryz.prog 3 args W fun e W' => ∃ v, e = .returned v ∧ Rows.askReadsSpec.post enc Tryz.prog Tryz.f3 false true false false W args v W' := by
  have hW' := hW
  obtain ⟨p, q, hA0, hV, rfl, hfz, hnd⟩ := hW
  have hA : DataW.TrodAll enc Tryz.prog W 0 (fun _ => true) true Tryz.f3.params.toList args.toList ds p := hA0
  obtain ⟨rfl, rfl⟩ := trodVars_none hV
  rw [Tryz.params3] at hA hval hz
  obtain ⟨v0, vs0, d0, ds0, p0, q0, hargs, rfl, rfl, h0, hA⟩ := trodAll_cons hA
  obtain ⟨rfl, rfl, rfl⟩ := trodAll_nil hA
  obtain rfl : args = #[v0] := by cases args; simp_all
  obtain ⟨a0, ok0, b0, g0⟩ := DecB.arg (P := Tryz.prog) (f := fun s => .str s) (fun m => DecB.str Tryz.underlying9) h0 (sized hz (j := 0) rfl rfl) (plain_str Tryz.underlying9 (hval 0 9 v0 rfl rfl))
  simp only [List.append_nil, blkAll] at hc
  refine law_contract (P := Tryz.prog) (fn := Tryz.f3) (tb := 4) laidOut rfl ?_ (by kernel_rfl) Tryz.underlying4 hW' rfl (tabs_ok hL hS) (RepAll.cons g0 RepAll.nil) (askReads a0 (by simp only [maxLen]; omega))
  rw [Tryz.params3]
  intro t ht
  simp only [List.mem_cons, List.not_mem_nil, or_false] at ht
  rcases ht with rfl <;> exact ⟨by kernel_rfl, by decide +kernel⟩
theorem AskReads_reads (os : Os) {H : Type} (enc : TypeId × Value → H) : ∃ places, DataW.whole enc Tryz.prog ((laidWorld os).forCall (fun _ _ => 0) ⟨#[], #[.string ⟨#[]⟩], []⟩).memory Tryz.f3.params.toList Rows.askReadsSpec.vars false #[.string ⟨#[]⟩].toList 8 = some ([.lit (.string [])], [], places) :=
  ⟨[], by kernel_rfl⟩
theorem AskReads_lifted (os : Os) (started : os.Started) (H : Type) (enc : TypeId × Value → H) (F : Stop.Interp) :
    ReturnsInHanded {} Tryz.checked os 3 .any ((Rows.OpenSpec.upto Rows.askReadsSpec).preRow enc Tryz.prog Tryz.f3 Rows.askReadsUptoRow.domain false Rows.askReadsUptoRow.laid) (((Rows.OpenSpec.upto Rows.askReadsSpec).at F).post enc Tryz.prog Tryz.f3 false true false false) := by
  obtain ⟨places, hx⟩ := AskReads_reads os enc
  refine returnsInHanded_of_row (C := Tryz.checked) (s := Rows.OpenSpec.upto Rows.askReadsSpec) own started (by kernel_rfl) Tryz.func3
    (witness_row_atRef (enc := enc) (C := Tryz.checked) false (laidWorld os) #[.string ⟨#[]⟩] rfl (by kernel_rfl) (by kernel_rfl) (by kernel_rfl)
      (OpenSpec.preRow_of_cond 8 hx (by kernel_rfl) (fun k hk => by cases hk; kernel_rfl) (by kernel_rfl) (laid_met os _))) ?_
  intro W base args ds gs before hval hW _ hcond hz hL hS _
  exact AskReads_contract H enc W base args ds gs before hval hW (cond_bulk hcond) hz hL hS
theorem AskReads_said : Rows.AskReadsUptoSaid :=
  OpenClaim.holds_of_cond 3 Tryz.f3 rfl rfl rfl rfl rfl rfl rfl ⟨rfl, rfl, rfl, rfl, rfl⟩ rfl rfl rfl rfl rfl (by kernel_rfl) Tryz.func3 (by kernel_rfl)
    (of_decide_eq_true (by kernel_rfl)) (by unfold Func.isWrapper; first | (rw [if_pos (by decide +kernel)]; kernel_rfl) | (rw [if_neg (by decide +kernel)]; exact ⟨rfl, rfl⟩))
    (fun os started H enc _ F => by rw [OpenClaim.pre_eq_preRow]; exact AskReads_lifted os started H enc F)
theorem AskReads_plain (f : FuncId) (fn : Func) (hf : Tryz.pinned.checked.prog.funcNamed "seine/seinelaw22.AskReads" = some f) (hfn : Tryz.pinned.checked.prog.funcs[f]? = some fn) :
    true = Tryz.pinned.checked.prog.looks [] ∧ ∀ (j : Nat) t, fn.params[j]? = some t → Tryz.pinned.checked.prog.wantsStandIn t = false := by
  obtain rfl : f = 3 := Option.some.inj ((show Tryz.prog.funcNamed "seine/seinelaw22.AskReads" = some 3 by kernel_rfl).symm.trans hf) |>.symm
  obtain rfl : fn = Tryz.f3 := (Option.some.inj (Tryz.func3.symm.trans hfn)).symm
  refine ⟨by kernel_rfl, fun j t ht => ?_⟩
  rw [Tryz.params3] at ht
  have hm := Array.mem_of_getElem? ht
  simp only [List.mem_toArray, List.mem_cons, List.not_mem_nil, or_false] at hm
  rcases hm with rfl <;> exact (show Tryz.prog.wantsStandIn _ = false by kernel_rfl)
theorem AskReads_card : Rows.AskReadsUptoCardSaid :=
  Claim7.holds_tied_plain_at .later [] _ _ _ _ AskReads_said (fun _ h => by cases h) (by kernel_rfl) (fun _ h => by cases h) askReadsUpto_row_tie rfl ⟨rfl, rfl⟩ (by kernel_rfl) rfl AskReads_plain (by kernel_rfl)
end Go.Proofs.YtpjafglhdlfnbaaGreatDoor
