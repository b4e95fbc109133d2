/- Batches: the plain laws of a plan. -/
import Derived.Test.YthkpgjnibolnhaaBatS
set_option maxRecDepth 100000
set_option linter.unusedSimpArgs false
set_option linter.unusedVariables false
namespace Go.Proofs.Ythkpgjnibolnhaa
open Go.Ab

theorem dd_filter {α : Type} [DecidableEq α] (p : α → Bool) : ∀ (l out : List α), dd (out.filter p) (l.filter p) = (dd out l).filter p
  | [], out => rfl
  | n :: r, out => by
    by_cases hp : p n = true
    · simp only [List.filter_cons, hp, if_true, dd]
      by_cases hn : n ∈ out
      · rw [if_pos hn, if_pos (List.mem_filter.2 ⟨hn, hp⟩)]
        exact dd_filter p r out
      · rw [if_neg hn, if_neg (fun h => hn (List.mem_filter.1 h).1)]
        have := dd_filter p r (out ++ [n])
        rw [List.filter_append] at this
        simpa [List.filter_cons, hp] using this
    · simp only [List.filter_cons, hp, Bool.false_eq_true, if_false, dd]
      by_cases hn : n ∈ out
      · rw [if_pos hn]; exact dd_filter p r out
      · rw [if_neg hn]
        have := dd_filter p r (out ++ [n])
        rw [List.filter_append] at this
        simpa [List.filter_cons, hp] using this

theorem dd_map {α β : Type} [DecidableEq α] [DecidableEq β] (f : α → β) : ∀ (l out : List α), dd [] ((dd out l).map f) = dd (dd [] (out.map f)) (l.map f)
  | [], out => rfl
  | n :: r, out => by
    simp only [dd, List.map_cons]
    by_cases hn : n ∈ out
    · have hf : f n ∈ dd [] (out.map f) := (dd_mem _ _ _).2 (.inr (List.mem_map.2 ⟨n, hn, rfl⟩))
      rw [if_pos hn, if_pos hf]; exact dd_map f r out
    · rw [if_neg hn, dd_map f r, List.map_append, List.map_cons, List.map_nil, dd_app]
      by_cases hf : f n ∈ dd [] (out.map f)
      · rw [if_pos hf, if_pos hf]
      · rw [if_neg hf, if_neg hf]

theorem dd_id {α : Type} [DecidableEq α] : ∀ (l out : List α), (out ++ l).Nodup → dd out l = out ++ l
  | [], out, _ => by simp [dd]
  | n :: r, out, h => by
    have hn : n ∉ out := fun hm => by
      rw [List.nodup_append] at h
      exact h.2.2 n hm n (List.mem_cons_self ..) rfl
    simp only [dd]
    rw [if_neg hn, dd_id r (out ++ [n]) (by simpa using h)]
    simp

theorem tabs_dd (l : List Need) : dd [] ((dd [] l).map (·.t)) = dd [] (l.map (·.t)) := dd_map (·.t) l []

theorem map_nodup {α β : Type} (f : α → β) : ∀ l : List α, l.Nodup → (∀ x ∈ l, ∀ y ∈ l, f x = f y → x = y) → (l.map f).Nodup
  | [], _, _ => List.nodup_nil
  | x :: r, h, hi => by
    obtain ⟨h1, h2⟩ := List.nodup_cons.1 h
    rw [List.map_cons]
    refine List.nodup_cons.2 ⟨fun hm => ?_, map_nodup f r h2 fun a ha b hb => hi a (List.mem_cons_of_mem _ ha) b (List.mem_cons_of_mem _ hb)⟩
    obtain ⟨y, hy, he⟩ := List.mem_map.1 hm
    have := hi y (List.mem_cons_of_mem _ hy) x (List.mem_cons_self ..) he
    subst this
    exact h1 hy

theorem keys_nodup (t : List UInt8) (l : List Need) (h : l.Nodup) : (keysOf t l).Nodup := by
  refine map_nodup _ _ (h.sublist List.filter_sublist) fun x hx y hy e => ?_
  have h1 := (List.mem_filter.1 hx).2
  have h2 := (List.mem_filter.1 hy).2
  simp only [decide_eq_true_eq] at h1 h2
  cases x; cases y
  simp_all

/-- The keys of a table, each once. -/
theorem keys_dd (t : List UInt8) (l : List Need) : dd [] ((l.filter fun n => decide (n.t = t)).map (·.k)) = keysOf t (dd [] l) := by
  have h1 := dd_map (·.k) (l.filter fun n => decide (n.t = t)) []
  have h2 := dd_filter (fun n : Need => decide (n.t = t)) l []
  simp only [List.filter_nil] at h2
  simp only [List.map_nil, dd] at h1
  rw [h2] at h1
  rw [← h1]
  exact dd_id _ [] (by rw [List.nil_append]; exact keys_nodup t _ (dd_nodup l [] List.nodup_nil))

theorem flat_range (n : Nat) (xs : List (List UInt8)) : ∀ m, (List.range m).flatMap (fun k => (xs.drop (k * n)).take n) = xs.take (m * n)
  | 0 => by simp
  | m + 1 => by rw [List.range_succ, List.flatMap_append, flat_range n xs m, Nat.succ_mul, List.take_add]; simp

theorem chunks_flat (n : Nat) (hn : 0 < n) (xs : List (List UInt8)) : (chunks n xs).flatMap id = xs := by
  rw [chunks, List.flatMap_map]
  have := flat_range n xs ((xs.length + n - 1) / n)
  simp only [id]
  rw [this, List.take_of_length_le (div_ge hn rfl)]

theorem chunk_size (n : Nat) (hn : 0 < n) (xs : List (List UInt8)) : ∀ c ∈ chunks n xs, 1 ≤ c.length ∧ c.length ≤ n := fun c hc => by
  obtain ⟨k, hk, rfl⟩ := List.mem_map.1 hc
  have := div_lt hn (List.mem_range.1 hk)
  simp; omega

def needsOf (p : List Batch) : List Need := p.flatMap fun b => b.keys.map fun k => ⟨b.table, k⟩

theorem needs_plan (s : Nat) (hs : 0 < s) (l : List Need) : needsOf (planP s l) = (dd [] (l.map (·.t))).flatMap fun t => (keysOf t (dd [] l)).map fun k => ⟨t, k⟩ := by
  simp only [needsOf, planP, tabs_dd, List.flatMap_assoc]
  congr 1
  funext t
  rw [List.flatMap_map]
  have := congrArg (List.map fun k => (⟨t, k⟩ : Need)) (chunks_flat s hs (keysOf t (dd [] l)))
  rw [List.map_flatMap] at this
  exact this

theorem needs_mem (s : Nat) (hs : 0 < s) (l : List Need) (x : Need) : x ∈ needsOf (planP s l) ↔ x ∈ l := by
  rw [needs_plan s hs, List.mem_flatMap]
  constructor
  · rintro ⟨t, _, hx⟩
    obtain ⟨k, hk, rfl⟩ := List.mem_map.1 hx
    obtain ⟨n, hn, rfl⟩ := List.mem_map.1 hk
    have h2 := List.mem_filter.1 hn
    have ht : n.t = t := by simpa using h2.2
    subst ht
    have h3 := ((dd_mem _ _ _).1 h2.1).resolve_left (by simp)
    cases n; exact h3
  · intro hx
    refine ⟨x.t, (dd_mem _ _ _).2 (.inr (List.mem_map.2 ⟨x, hx, rfl⟩)), List.mem_map.2 ⟨x.k, List.mem_map.2 ⟨x, List.mem_filter.2 ⟨(dd_mem _ _ _).2 (.inr hx), by simp⟩, rfl⟩, rfl⟩⟩

theorem needs_nodup (s : Nat) (hs : 0 < s) (l : List Need) : (needsOf (planP s l)).Nodup := by
  rw [needs_plan s hs]
  have hk := fun t => keys_nodup t _ (dd_nodup l [] List.nodup_nil)
  have ht := dd_nodup (l.map (·.t)) [] List.nodup_nil
  revert ht
  generalize dd [] (l.map (·.t)) = ts
  intro ht
  induction ts with
  | nil => exact List.nodup_nil
  | cons t r ih =>
    obtain ⟨h1, h2⟩ := List.nodup_cons.1 ht
    rw [List.flatMap_cons, List.nodup_append]
    refine ⟨map_nodup _ _ (hk t) fun x _ y _ e => by cases e; rfl, ih h2, fun a ha b hb e => ?_⟩
    obtain ⟨k, _, rfl⟩ := List.mem_map.1 ha
    obtain ⟨t', ht', hb⟩ := List.mem_flatMap.1 hb
    obtain ⟨k', _, rfl⟩ := List.mem_map.1 hb
    cases e
    exact h1 ht'

theorem plan_sizes (s : Nat) (hs : 0 < s) (l : List Need) : ∀ b ∈ planP s l, 1 ≤ b.keys.length ∧ b.keys.length ≤ s := fun b hb => by
  obtain ⟨t, _, hb⟩ := List.mem_flatMap.1 hb
  obtain ⟨c, hc, rfl⟩ := List.mem_map.1 hb
  exact chunk_size s hs _ c hc

/-- What is planned table by table. -/
theorem plan_split (s : Nat) (l : List Need) : ((dd [] (l.map (·.t))).flatMap fun t => planP s (l.filter fun n => decide (n.t = t))) = planP s l := by
  simp only [planP, tabs_dd]
  rw [List.flatMap_def, List.flatMap_def]
  congr 1
  refine List.map_congr_left fun t ht => ?_
  have h2 := dd_filter (fun n : Need => decide (n.t = t)) l []
  simp only [List.filter_nil] at h2
  rw [h2]
  have hin := ((dd_mem _ _ _).1 ht).resolve_left (by simp)
  have htabs : dd [] ((l.filter fun n => decide (n.t = t)).map (·.t)) = [t] := by
    have hall : ∀ x ∈ (l.filter fun n => decide (n.t = t)).map (·.t), x = t := fun x hx => by
      obtain ⟨n, hn, rfl⟩ := List.mem_map.1 hx
      simpa using (List.mem_filter.1 hn).2
    have hne : (l.filter fun n => decide (n.t = t)).map (·.t) ≠ [] := fun e => by
      obtain ⟨n, hn, rfl⟩ := List.mem_map.1 hin
      have : n.t ∈ (l.filter fun m => decide (m.t = n.t)).map (·.t) := List.mem_map.2 ⟨n, List.mem_filter.2 ⟨hn, by simp⟩, rfl⟩
      rw [e] at this; cases this
    revert hall hne
    generalize (l.filter fun n => decide (n.t = t)).map (·.t) = xs
    intro hall hne
    cases xs with
    | nil => exact absurd rfl hne
    | cons x r =>
      obtain rfl := hall x (List.mem_cons_self ..)
      have : ∀ r : List (List UInt8), (∀ y ∈ r, y = x) → dd [x] r = [x] := by
        intro r
        induction r with
        | nil => intro _; rfl
        | cons y r ih =>
          intro h
          obtain rfl := h y (List.mem_cons_self ..)
          simp only [dd, List.mem_singleton, if_true]
          exact ih fun z hz => h z (List.mem_cons_of_mem _ hz)
      simpa [dd] using this r fun y hy => hall y (List.mem_cons_of_mem _ hy)
  rw [htabs]
  simp only [List.flatMap_cons, List.flatMap_nil, List.append_nil]
  congr 2
  simp only [keysOf, List.filter_filter, Bool.and_self]

/-- How many batches, and how many runs of one table. -/
def wantN (s : Nat) (l : List Need) (ts : List (List UInt8)) : Nat := (ts.map fun t => ((keysOf t (dd [] l)).length + s - 1) / s).sum
theorem plan_count (s : Nat) (l : List Need) : (planP s l).length = wantN s l (dd [] (l.map (·.t))) := by
  simp only [planP, tabs_dd, wantN, List.length_flatMap]
  congr 1
  refine List.map_congr_left fun t _ => ?_
  rw [List.length_map, chunks_len]

def rnS (p : Nat × List UInt8 × Bool) (x : List UInt8) : Nat × List UInt8 × Bool := (if p.2.2 = true ∨ x ≠ p.2.1 then p.1 + 1 else p.1, x, false)
theorem rn_same (t : List UInt8) : ∀ (l : List (List UInt8)) (c : Nat), (∀ x ∈ l, x = t) → l.foldl rnS (c, t, false) = (c, t, false)
  | [], _, _ => rfl
  | x :: r, c, h => by
    obtain rfl := h x (List.mem_cons_self ..)
    simp only [List.foldl_cons, rnS, Bool.false_eq_true, ne_eq, not_true_eq_false, or_self, if_false]
    exact rn_same x r c fun y hy => h y (List.mem_cons_of_mem _ hy)
theorem rn_groups (g : List UInt8 → List (List UInt8)) (hg : ∀ t, ∀ x ∈ g t, x = t) : ∀ (ts : List (List UInt8)) (c : Nat) (was : List UInt8) (f : Bool), ts.Nodup → (∀ t ∈ ts, g t ≠ []) → (f = true ∨ was ∉ ts) → ((ts.flatMap g).foldl rnS (c, was, f)).1 = c + ts.length
  | [], _, _, _, _, _, _ => rfl
  | t :: r, c, was, f, hn, hne, hw => by
    obtain ⟨h1, h2⟩ := List.nodup_cons.1 hn
    rw [List.flatMap_cons, List.foldl_append]
    have hgt := hne t (List.mem_cons_self ..)
    have hg' := hg t
    revert hgt hg'
    generalize g t = xs
    intro hgt hg'
    cases xs with
    | nil => exact absurd rfl hgt
    | cons x xs =>
      obtain rfl := hg' x (List.mem_cons_self ..)
      have hc : f = true ∨ x ≠ was := hw.imp id fun h e => h (e ▸ List.mem_cons_self ..)
      simp only [List.foldl_cons]
      rw [show rnS (c, was, f) x = (c + 1, x, false) by simp only [rnS]; rw [if_pos hc], rn_same x xs _ fun y hy => hg' y (List.mem_cons_of_mem _ hy), rn_groups g hg r (c + 1) x false h2 (fun t ht => hne t (List.mem_cons_of_mem _ ht)) (.inr h1)]
      simp; omega

theorem plan_runs (s : Nat) (hs : 0 < s) (l : List Need) : (((planP s l).map (·.table)).foldl rnS (0, [], true)).1 = (dd [] (l.map (·.t))).length := by
  have e : (planP s l).map (·.table) = (dd [] (l.map (·.t))).flatMap fun t => (chunks s (keysOf t (dd [] l))).map fun _ => t := by
    simp only [planP, tabs_dd, List.map_flatMap, List.map_map]; rfl
  rw [e, rn_groups (fun t => (chunks s (keysOf t (dd [] l))).map fun _ => t) (fun t x hx => by obtain ⟨_, _, rfl⟩ := List.mem_map.1 hx; rfl) _ _ _ _ (dd_nodup _ [] List.nodup_nil) (fun t ht h => ?_) (.inl rfl)]
  · simp
  · have hin := ((dd_mem _ _ _).1 ht).resolve_left (by simp)
    obtain ⟨n, hn, rfl⟩ := List.mem_map.1 hin
    have h0 : chunks s (keysOf n.t (dd [] l)) = [] := by simpa using h
    have h1 := chunks_flat s hs (keysOf n.t (dd [] l))
    rw [h0] at h1
    have h2 : n.k ∈ keysOf n.t (dd [] l) := List.mem_map.2 ⟨n, List.mem_filter.2 ⟨(dd_mem _ _ _).2 (.inr hn), by simp⟩, rfl⟩
    rw [← h1] at h2
    cases h2
end Go.Proofs.Ythkpgjnibolnhaa
