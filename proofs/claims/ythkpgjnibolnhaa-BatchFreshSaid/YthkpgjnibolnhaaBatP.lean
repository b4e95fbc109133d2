/- Batches: batch.Plan. -/
import Derived.Test.YthkpgjnibolnhaaBat
set_option maxRecDepth 100000
set_option linter.unusedSimpArgs false
set_option linter.unusedVariables false
namespace Go.Proofs.Ythkpgjnibolnhaa
open Go.Ab

def keysOf (t : List UInt8) (l : List Need) : List (List UInt8) := (l.filter fun n => decide (n.t = t)).map (·.k)
def clampS (n : Int) : Nat := (min (max n 1) 64).toNat
def planP (s : Nat) (l : List Need) : List Batch := (dd [] ((dd [] l).map (·.t))).flatMap fun t => (chunks s (keysOf t (dd [] l))).map fun c => ⟨t, c⟩

theorem keysOf_app (t : List UInt8) (l : List Need) (x : Need) : keysOf t (l ++ [x]) = keysOf t l ++ if x.t = t then [x.k] else [] := by
  simp only [keysOf, List.filter_append, List.map_append, List.filter_cons, List.filter_nil, decide_eq_true_eq]
  split <;> rfl
theorem keysOf_len (t : List UInt8) (l : List Need) : (keysOf t l).length ≤ l.length := by
  simp only [keysOf, List.length_map]; exact List.length_filter_le _ _
theorem keysOf_nil (t : List UInt8) (l : List Need) (h : t ∉ l.map (·.t)) : keysOf t l = [] := by
  simp only [keysOf, List.map_eq_nil_iff, List.filter_eq_nil_iff, decide_eq_true_eq]
  intro n hn e
  exact h (List.mem_map.2 ⟨n, hn, e⟩)

theorem dd_mem {α : Type} [DecidableEq α] (x : α) : ∀ (l out : List α), x ∈ dd out l ↔ x ∈ out ∨ x ∈ l
  | [], out => by simp [dd]
  | n :: r, out => by
    simp only [dd]
    split
    · rename_i h
      rw [dd_mem x r out]
      simp only [List.mem_cons]
      constructor
      · rintro (h1 | h1) <;> simp [h1]
      · rintro (h1 | rfl | h1)
        · exact .inl h1
        · exact .inl h
        · exact .inr h1
    · rw [dd_mem x r]; simp [or_assoc]
theorem dd_app {α : Type} [DecidableEq α] : ∀ (l out : List α) (x : α), dd out (l ++ [x]) = if x ∈ dd out l then dd out l else dd out l ++ [x]
  | [], out, x => by simp only [List.nil_append, dd]; by_cases h : x ∈ out <;> simp [h]
  | n :: r, out, x => by
    simp only [List.cons_append, dd]
    split
    · exact dd_app r out x
    · exact dd_app r _ x

/-! slices of one's own, side by side -/

def tipOf : Own → Option Nat
  | .tip b _ => some b
  | _ => none
structure Sep (H : Heap) (l : List (Own × Nat × Nat)) : Prop where
  own : ∀ x ∈ l, Owned H x.1 x.2.1 x.2.2
  nd : (l.filterMap fun x => tipOf x.1).Nodup

theorem tipOf_some {o : Own} {b : Nat} (h : tipOf o = some b) : ∃ d, o = .tip b d := by
  cases o <;> simp [tipOf] at h
  rename_i c d; subst h; exact ⟨d, rfl⟩

theorem Owned.ofKept {H H' : Heap} {o o2 : Own} {n sz : Nat} (h : Owned H o n sz) (hk : Kept H o2 H') (hne : ∀ b d d2, o = .tip b d → o2 ≠ .tip b d2) : Owned H' o n sz := by
  cases o with
  | tip b d => exact hk b _ h fun d2 e => hne b d d2 rfl e
  | no => exact h
  | nil => exact h
  | full => exact h

theorem Sep.step {H H' : Heap} {a b : List (Own × Nat × Nat)} {o o' : Own} {n n' sz : Nat} (h : Sep H (a ++ (o, n, sz) :: b)) (h' : OwnS H o H' o' n' sz) : Sep H' (a ++ (o', n', sz) :: b) := by
  have hnd := h.nd
  simp only [List.filterMap_append, List.filterMap_cons] at hnd
  have hother : ∀ x, x ∈ a ∨ x ∈ b → ∀ c d d2, x.1 = .tip c d → o ≠ .tip c d2 := fun x hx c d d2 hxe e => by
    subst e
    simp only [tipOf] at hnd
    rw [List.nodup_append] at hnd
    obtain ⟨_, hb, hab⟩ := hnd
    rcases hx with hx | hx
    · exact hab c (List.mem_filterMap.2 ⟨x, hx, by rw [hxe]⟩) c (List.mem_cons_self ..) rfl
    · exact (List.nodup_cons.1 hb).1 (List.mem_filterMap.2 ⟨x, hx, by rw [hxe]⟩)
  refine ⟨fun x hx => ?_, ?_⟩
  · rcases List.mem_append.1 hx with hx | hx
    · exact Owned.ofKept (h.own x (by simp [hx])) h'.kept fun c d d2 => hother x (.inl hx) c d d2
    · rcases List.mem_cons.1 hx with rfl | hx
      · exact h'.own
      · exact Owned.ofKept (h.own x (by simp [hx])) h'.kept fun c d d2 => hother x (.inr hx) c d d2
  · simp only [List.filterMap_append, List.filterMap_cons]
    have hsub : ∀ c, c ∈ a.filterMap (fun x => tipOf x.1) ∨ c ∈ b.filterMap (fun x => tipOf x.1) → tipOf o' ≠ some c := fun c hc e => by
      obtain ⟨d', e⟩ := tipOf_some e
      have hH : H c ≠ none ∧ ∀ d0, o ≠ .tip c d0 := by
        rcases hc with hc | hc <;> obtain ⟨x, hx, hxe⟩ := List.mem_filterMap.1 hc <;> obtain ⟨d, hxe⟩ := tipOf_some hxe
        · have := h.own x (by simp [hx]); rw [hxe] at this
          have h2 : H c = some _ := this
          exact ⟨by simp [h2], fun d0 => hother x (.inl hx) c d d0 hxe⟩
        · have := h.own x (by simp [hx]); rw [hxe] at this
          have h2 : H c = some _ := this
          exact ⟨by simp [h2], fun d0 => hother x (.inr hx) c d d0 hxe⟩
      rcases h'.new c d' e with h1 | ⟨d0, h1⟩
      · exact hH.1 h1
      · exact hH.2 d0 h1
    have hnd2 : (a.filterMap (fun x => tipOf x.1) ++ b.filterMap (fun x => tipOf x.1)).Nodup := by
      cases ho : tipOf o with
      | none => rw [ho] at hnd; exact hnd
      | some c =>
        rw [ho] at hnd
        rw [List.nodup_append] at hnd ⊢
        exact ⟨hnd.1, (List.nodup_cons.1 hnd.2.1).2, fun x hx y hy => hnd.2.2 x hx y (List.mem_cons_of_mem _ hy)⟩
    cases ho : tipOf o' with
    | none => exact hnd2
    | some c =>
      have hc := hsub c
      rw [List.nodup_append] at hnd2 ⊢
      refine ⟨hnd2.1, List.nodup_cons.2 ⟨fun hm => hc (.inr hm) ho, hnd2.2.1⟩, fun x hx y hy => ?_⟩
      rcases List.mem_cons.1 hy with rfl | hy
      · exact fun e => hc (.inl (e ▸ hx)) ho
      · exact hnd2.2.2 x hx y hy

/-- A new block, or another object that turns, is none of theirs. -/
theorem Sep.mono {H H' : Heap} {l : List (Own × Nat × Nat)} (h : Sep H l) (hk : ∀ c n sz, H c = some (.tip n sz) → H' c = some (.tip n sz)) : Sep H' l :=
  ⟨fun x hx => by
    have := h.own x hx
    obtain ⟨o, n, sz⟩ := x
    cases o with
    | tip c d => exact hk c _ _ this
    | no => exact this
    | nil => exact this
    | full => exact this, h.nd⟩

/-! the map of the tables' keys -/

def eM (e : List (List UInt8 × Own)) (l : List Need) : List (AV × AV) := e.map fun p => (.str p.1, .sl p.2 1 (cT (keysOf p.1 l)))
theorem keq_str (a b : List UInt8) : (AV.str a).keq (.str b) = decide (a = b) := by simp only [AV.keq, AV.keq1, sbeq]
theorem mget_eM0 (t : List UInt8) (l : List Need) : ∀ e, t ∉ e.map (·.1) → mget (eM e l) (.str t) = none
  | [], _ => rfl
  | (u, w) :: r, h => by
    simp only [List.map_cons, List.mem_cons, not_or] at h
    have := mget_eM0 t l r h.2
    simp only [eM] at this
    simp only [eM, List.map_cons, mget, keq_str, h.1, decide_false, Bool.false_eq_true, if_false, this]
theorem mget_eM1 (t : List UInt8) (w : Own) (l : List Need) (b : List (List UInt8 × Own)) : ∀ a, t ∉ a.map (·.1) → mget (eM (a ++ (t, w) :: b) l) (.str t) = some (.sl w 1 (cT (keysOf t l)))
  | [], _ => by simp [eM, mget, keq_str]
  | (u, w') :: r, h => by
    simp only [List.map_cons, List.mem_cons, not_or] at h
    have := mget_eM1 t w l b r h.2
    simp only [eM] at this
    simp only [eM, List.cons_append, List.map_cons, mget, keq_str, h.1, decide_false, Bool.false_eq_true, if_false, this]
theorem eM_other {l : List Need} {x : Need} (e : List (List UInt8 × Own)) (h : x.t ∉ e.map (·.1)) : eM e (l ++ [x]) = eM e l := by
  refine List.map_congr_left fun p hp => ?_
  have : x.t ≠ p.1 := fun e' => h (e' ▸ List.mem_map.2 ⟨p, hp, rfl⟩)
  rw [keysOf_app]; simp [this]
theorem mset_eM0 (x : Need) (w : Own) (l : List Need) : ∀ e, x.t ∉ e.map (·.1) → mset (eM e l) (.str x.t) (.sl w 1 (cT (keysOf x.t l ++ [x.k]))) = eM (e ++ [(x.t, w)]) (l ++ [x])
  | [], _ => by simp [eM, mset, keysOf_app]
  | (u, w') :: r, h => by
    simp only [List.map_cons, List.mem_cons, not_or] at h
    have := mset_eM0 x w l r h.2
    simp only [eM] at this
    simp only [eM, List.cons_append, List.map_cons, mset, keq_str, h.1, decide_false, Bool.false_eq_true, if_false, this]
    rw [keysOf_app]; simp [h.1]
theorem mset_eM1 (x : Need) (w w' : Own) (l : List Need) (b : List (List UInt8 × Own)) (hb : x.t ∉ b.map (·.1)) : ∀ a, x.t ∉ a.map (·.1) → mset (eM (a ++ (x.t, w) :: b) l) (.str x.t) (.sl w' 1 (cT (keysOf x.t l ++ [x.k]))) = eM (a ++ (x.t, w') :: b) (l ++ [x])
  | [], _ => by
    have := eM_other (l := l) b hb
    simp only [eM] at this
    simp only [eM, List.nil_append, List.map_cons, mset, keq_str, decide_true, if_true, this, keysOf_app (t := x.t)]
  | (u, v) :: r, h => by
    simp only [List.map_cons, List.mem_cons, not_or] at h
    have := mset_eM1 x w w' l b hb r h.2
    simp only [eM] at this
    simp only [eM, List.cons_append, List.map_cons, mset, keq_str, h.1, decide_false, Bool.false_eq_true, if_false, this]
    rw [keysOf_app]; simp [h.1]

theorem dd_nodup {α : Type} [DecidableEq α] : ∀ (l out : List α), out.Nodup → (dd out l).Nodup
  | [], out, h => h
  | n :: r, out, h => by
    simp only [dd]
    split
    · exact dd_nodup r out h
    · rename_i hn
      refine dd_nodup r _ ?_
      rw [List.nodup_append]
      exact ⟨h, by simp, fun a ha b hb => by simp at hb; subst hb; exact fun e => hn (e ▸ ha)⟩

theorem flatMap_len {α β : Type} (f : α → List β) (c : Nat) : ∀ l : List α, (∀ t ∈ l, (f t).length ≤ c) → (l.flatMap f).length ≤ l.length * c
  | [], _ => by simp
  | t :: r, h => by
    have h1 := h t (List.mem_cons_self ..)
    have h2 := flatMap_len f c r fun x hx => h x (List.mem_cons_of_mem _ hx)
    simp only [List.flatMap_cons, List.length_append, List.length_cons, Nat.succ_mul]
    omega

theorem chunks_le (n : Nat) (hn : 0 < n) (xs : List (List UInt8)) : (chunks n xs).length ≤ xs.length := by
  rw [chunks_len]
  have : xs.length + n - 1 < (xs.length + 1) * n := by
    have h1 : (xs.length + 1) * n = xs.length * n + n := Nat.succ_mul _ _
    have h2 : xs.length * 1 ≤ xs.length * n := Nat.mul_le_mul_left _ hn
    omega
  have := (Nat.div_lt_iff_lt_mul hn).2 this
  omega

theorem mmS (n : Int) : mm2 false (mm2 true n 1) 64 = (clampS n : Int) := by
  simp only [mm2, clampS, if_true, Bool.false_eq_true, if_false]
  split <;> split <;> omega
theorem clamp_pos (n : Int) : 0 < clampS n ∧ clampS n ≤ 64 := by simp only [clampS]; omega
end Go.Proofs.Ythkpgjnibolnhaa
