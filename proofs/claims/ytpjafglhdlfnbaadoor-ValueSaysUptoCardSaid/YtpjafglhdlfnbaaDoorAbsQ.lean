/- The entry, with how much the arguments hold: for statements that speak of inputs up to a bound, and of variables that the program's text lays. -/
import Derived.Test.YtpjafglhdlfnbaaDoorAbsP
set_option linter.unusedSimpArgs false
set_option linter.unusedVariables false
namespace Go.Ab
open Go.ChangeShapes Go.WideShapes Go.ChangeAt Go.RowKit Go.WideElems

/-! how much a datum holds -/
mutual
def blk {H : Type} : DataW H → Nat
  | .lit (.string bytes) => bytes.length + 1
  | .lit _ => 1
  | .nil => 1
  | .ptr d => blk d + 1
  | .slice elems spare => blkAll elems + blkAll spare + 1
  | .agg parts => blkAll parts + 1
  | .iface _ d => blk d + 1
  | .map entries => blkEs entries + 1
  | .held _ => 1
def blkAll {H : Type} : List (DataW H) → Nat
  | [] => 0
  | d :: r => blk d + blkAll r
def blkEs {H : Type} : List (Lit × DataW H) → Nat
  | [] => 0
  | x :: r => blkE x + blkEs r
def blkE {H : Type} : Lit × DataW H → Nat
  | (.string bytes, d) => bytes.length + blk d + 1
  | (_, d) => blk d + 1
end

theorem blk_pos {H : Type} (d : DataW H) : 1 ≤ blk d := by
  cases d with
  | lit l => cases l <;> simp [blk]
  | nil => simp [blk]
  | ptr d => simp [blk]
  | slice elems spare => simp [blk]
  | agg parts => simp [blk]
  | iface t d => simp [blk]
  | map entries => simp [blk]
  | held h => simp [blk]

theorem blk_take_succ {H : Type} (l : List (DataW H)) (k : Nat) (h : k < l.length) : blkAll (l.take (k + 1)) = blkAll (l.take k) + blk (l.getD k .nil) := by
  induction l generalizing k with
  | nil => simp at h
  | cons d r ih =>
    cases k with
    | zero => simp [blkAll]
    | succ k =>
      simp only [List.take_succ_cons, blkAll, List.getD_cons_succ]
      rw [ih k (by simpa using h)]
      omega

theorem blk_mem {H : Type} {l : List (DataW H)} {d : DataW H} (h : d ∈ l) : blk d ≤ blkAll l := by
  induction l with
  | nil => cases h
  | cons x r ih =>
    simp only [blkAll]
    rcases List.mem_cons.1 h with e | e
    · subst e; omega
    · have := ih e; omega

/-- What is read at a type, with fuel m, stands for data. -/
def DecB (P : Program) (m : Nat) (t : TypeId) (sz : Nat) {α : Type} (f : α → List AV) (ok : α → Prop) (g : α → Nat) : Prop :=
  ∀ {H : Type} (enc : TypeId × Value → H) (W : World) (cs : List Value) (d : DataW H) (ps : List MemPlace), DataW.trod enc P W 0 (fun _ => true) true m t cs = some (d, ps) →
    (∀ n ∈ d.weights P t, n ≤ reachBytes) → ∃ a, ok a ∧ g a ≤ blk d ∧ (f a).length = sz ∧ fillRel immG W (f a) cs

section
variable {P : Program} {m : Nat} {t : TypeId}

theorem DecB.zero {sz : Nat} {α : Type} {f : α → List AV} {ok : α → Prop} {g : α → Nat} : DecB P 0 t sz f ok g := fun enc W cs d ps h _ => by simp [DataW.trod] at h

theorem DecB.int {k : IntKind} (ht : P.underlying t = some (.int k)) : DecB P m t 1 (fun n : Int => [.int k n]) (fun n => (Lit.int k n).wf = true) (fun _ => 1) := by
  intro H enc W cs d ps h _
  obtain ⟨n, rfl, hx, hw⟩ := DataW.trod_int ht h
  simp only [Prod.mk.injEq] at hx
  obtain ⟨rfl, rfl⟩ := hx
  exact ⟨n, hw, Nat.le_refl _, rfl, fill_one (.int k n) rfl⟩

theorem DecB.bool (ht : P.underlying t = some .bool) : DecB P m t 1 (fun b : Bool => [.bool b]) (fun _ => True) (fun _ => 1) := by
  intro H enc W cs d ps h _
  obtain ⟨b, rfl, hx⟩ := DataW.trod_bool ht h
  simp only [Prod.mk.injEq] at hx
  obtain ⟨rfl, rfl⟩ := hx
  exact ⟨b, trivial, Nat.le_refl _, rfl, fill_one (.bool b) rfl⟩

theorem DecB.str (ht : P.underlying t = some .string) : DecB P m t 1 (fun s : List UInt8 => [.str s]) (fun s => s.length ≤ reachBytes) (fun s => s.length + 1) := by
  intro H enc W cs d ps h hw
  obtain ⟨s, rfl, hx, hs⟩ := DataW.trod_string ht h
  simp only [Prod.mk.injEq] at hx
  obtain ⟨rfl, rfl⟩ := hx
  refine ⟨s.data.toList, hw _ (by simp [DataW.weights]), Nat.le_refl _, rfl, fill_one ?_ rfl⟩
  exact .str _

theorem DecB.slice {e : TypeId} {sz B : Nat} {α : Type} {f : α → List AV} {ok : α → Prop} {g : α → Nat} (ht : P.underlying t = some (.slice e)) (hB : P.bytesOf e = B) (hsz : P.cellsOf e = sz) (hpos : 0 < sz) (he : DecB P m e sz f ok g) :
    DecB P (m + 1) t 1 (fun l : List α => [.sl .no sz (l.map f)]) (fun l => l.length * B ≤ reachBytes ∧ l.length ≤ maxLen ∧ ∀ x ∈ l, ok x) (fun l => (l.map g).sum + 1) := by
  intro H enc W cs d ps h hw
  rcases DataW.trod_slice ht h with ⟨rfl, _⟩ | ⟨a, len, cap, elems, rest, n, hm, rfl, hx, hb, hlc, hcm, hel, hread, hspare, _⟩
  · exact ⟨[], ⟨by simp, by simp, by simp⟩, by simp [blk_pos], rfl, fill_one (.slnil .no sz (by simp)) rfl⟩
  · cases hm
    simp only [Prod.mk.injEq] at hx
    obtain ⟨rfl, rfl⟩ := hx
    obtain ⟨hrest, hreadr⟩ := hspare rfl
    subst hsz
    have hwt : ∀ y ∈ elems, ∀ n ∈ y.1.weights P e, n ≤ reachBytes := fun y hy n hn => hw n (by
      simp only [DataW.weights, ht, List.mem_cons, List.mem_append]
      exact .inr (.inl (weights_all (List.mem_map_of_mem hy) n hn)))
    have hlenB : len * P.bytesOf e ≤ reachBytes := by
      have := hw ((elems.length + rest.length) * P.bytesOf e) (by simp [DataW.weights, ht])
      rw [hel] at this
      exact Nat.le_trans (Nat.mul_le_mul_right _ (Nat.le_add_right _ _)) this
    -- each element
    have each : ∀ i, i < len → ∃ (x : α) (us : List Value), ok x ∧ g x ≤ blk ((elems.map (·.1)).getD i .nil) ∧ (f x).length = P.cellsOf e ∧ fillRel immG W (f x) us ∧ (∀ j, j < P.cellsOf e → W.cell? (a.add (i * P.cellsOf e + j)) = us[j]?) ∧ us.length = P.cellsOf e := by
      intro i hi
      have h1 := hread i hi
      have hi' : i < elems.length := by omega
      rw [List.getElem?_eq_getElem hi', Option.bind_eq_some_iff] at h1
      obtain ⟨us, hus, hd⟩ := h1
      obtain ⟨x, hx1, hxg, hx2, hx3⟩ := he enc W us elems[i].1 elems[i].2 hd (hwt _ (List.getElem_mem hi'))
      obtain ⟨_, hl, hc⟩ := World.cells?_some hus
      refine ⟨x, us, hx1, by simpa [hi'] using hxg, hx2, hx3, fun j hj => ?_, hl⟩
      have := hc j hj
      rwa [addr_add_add] at this
    rcases Nat.eq_zero_or_pos cap with hc0 | hcpos
    · have hl0 : len = 0 := by omega
      subst hl0; subst hc0
      exact ⟨[], ⟨by simp, by simp, by simp⟩, by simp [blk_pos], rfl, fill_one (.sl0 .no _ a (.inl rfl)) rfl⟩
    · -- some cell is read: the address is plain
      have hspot : a.spot = none := by
        have h1 : ∃ us, W.cells? 0 (a.add 0) (P.cellsOf e) = some us := by
          rcases Nat.eq_zero_or_pos len with hl0 | hlpos
          · have h2 := hreadr 0 (by omega)
            rw [List.getElem?_eq_getElem (by omega), Option.bind_eq_some_iff] at h2
            obtain ⟨us, h3, _⟩ := h2
            rw [hl0] at h3
            simp only [Nat.add_zero, Nat.zero_mul] at h3
            exact ⟨us, h3⟩
          · have h2 := hread 0 hlpos
            rw [List.getElem?_eq_getElem (by omega), Option.bind_eq_some_iff] at h2
            obtain ⟨us, h3, _⟩ := h2
            simp only [Nat.zero_mul] at h3
            exact ⟨us, h3⟩
        obtain ⟨us, h1⟩ := h1
        obtain ⟨_, hl, hc⟩ := World.cells?_some h1
        have h3 := hc 0 hpos
        have e0 : (a.add 0).add 0 = a := rfl
        rw [e0] at h3
        have h4 : (W.cell? a).isSome = true := by rw [h3, List.getElem?_eq_getElem (by omega)]; rfl
        unfold World.cell? at h4
        split at h4
        · split at h4
          · cases h4
          · rename_i hs
            cases h5 : a.spot with
            | none => rfl
            | some s => simp [h5] at hs
        · cases h4
      obtain ⟨b, off, spot⟩ := a
      simp only at hspot
      subst hspot
      -- choose the elements
      have hchoose : ∀ k, k ≤ len → ∃ l : List α, l.length = k ∧ (l.map g).sum ≤ blkAll ((elems.map (·.1)).take k) ∧ ∀ i x, l[i]? = some x → ok x ∧ (f x).length = P.cellsOf e ∧ ∃ us : List Value, fillRel immG W (f x) us ∧ (∀ j, j < P.cellsOf e → W.cell? (Addr.add ⟨b, off, none⟩ (i * P.cellsOf e + j)) = us[j]?) ∧ us.length = P.cellsOf e := by
        intro k
        induction k with
        | zero => intro _; exact ⟨[], rfl, by simp, by simp⟩
        | succ k ih =>
          intro hk
          obtain ⟨l, hl, hsum, hp⟩ := ih (by omega)
          obtain ⟨x, us, h1, hgx, h2, h3, h4, h5⟩ := each k (by omega)
          refine ⟨l ++ [x], by simp [hl], ?_, fun i y hy => ?_⟩
          · rw [List.map_append, List.sum_append, blk_take_succ _ k (by simp; omega)]
            simp only [List.map_cons, List.map_nil, List.sum_cons, List.sum_nil]
            omega
          rcases Nat.lt_or_ge i l.length with hi | hi
          · rw [List.getElem?_append_left hi] at hy; exact hp i y hy
          · rw [List.getElem?_append_right hi] at hy
            have : i = l.length := by
              rcases Nat.lt_or_ge 0 (i - l.length) with h | h
              · rw [List.getElem?_eq_none (by simp; omega)] at hy; cases hy
              · omega
            subst this
            simp at hy
            subst hy
            exact ⟨h1, h2, us, h3, by rw [hl]; exact h4, h5⟩
      obtain ⟨l, hl, hsum, hp⟩ := hchoose len (Nat.le_refl _)
      refine ⟨l, ⟨by rw [hl, ← hB]; exact hlenB, by omega, fun x hx => ?_⟩, ?_, rfl, fill_one ?_ rfl⟩
      · obtain ⟨i, hi⟩ := List.mem_iff_getElem?.1 hx
        exact (hp i x hi).1
      · rw [List.take_of_length_le (by simp; omega)] at hsum
        simp only [blk]; omega
      · have hml : (l.map f).length = len := by simp [hl]
        rw [← hml]
        refine .sl .no _ (l.map f) b off cap (fun i j => (W.cell? ⟨b, off + (i * P.cellsOf e + j), none⟩).getD undef) (by omega) hcm (fun x hx => ?_) (fun i x hx j hj => ?_) (fun i x hx j c hj => ?_) trivial
        · obtain ⟨y, hy, rfl⟩ := List.mem_map.1 hx
          obtain ⟨i, hi⟩ := List.mem_iff_getElem?.1 hy
          exact (hp i y hi).2.1
        · simp only [List.getElem?_map, Option.map_eq_some_iff] at hx
          obtain ⟨y, hy, rfl⟩ := hx
          obtain ⟨_, h2, us, h3, h4, h5⟩ := hp i y hy
          have h6 := h4 j hj
          have h7 : us[j]? = some us[j] := List.getElem?_eq_getElem (by omega)
          have h8 : W.cell? ⟨b, off + (i * P.cellsOf e + j), none⟩ = some us[j] := by rw [← h7, ← h6, addr_add]
          refine ⟨by rw [h8]; rfl, trivial, ?_⟩
          rw [h8]
          exact h3.2.1 j _ h7
        · simp only [List.getElem?_map, Option.map_eq_some_iff] at hx
          obtain ⟨y, hy, rfl⟩ := hx
          obtain ⟨_, h2, us, h3, h4, h5⟩ := hp i y hy
          have hj' : j < P.cellsOf e := by have := (List.getElem?_eq_some_iff.1 hj).1; omega
          have h6 := h4 j hj'
          have h7 : us[j]? = some us[j] := List.getElem?_eq_getElem (by omega)
          have h8 : W.cell? ⟨b, off + (i * P.cellsOf e + j), none⟩ = some us[j] := by rw [← h7, ← h6, addr_add]
          show Rep immG W c ((W.cell? ⟨b, off + (i * P.cellsOf e + j), none⟩).getD undef)
          rw [h8]
          exact h3.2.2 j c _ hj h7

/-- The fields of a struct from one on (place, type): their cells lie one behind the other from 'off' on. -/
def DecFsB (P : Program) (m : Nat) (off : Nat) (fs : List (Nat × TypeId)) (sz : Nat) {α : Type} (f : α → List AV) (ok : α → Prop) (gg : α → Nat) : Prop :=
  ∀ {H : Type} (enc : TypeId × Value → H) (W : World) (cs : List Value) (xs : List (DataW H × List MemPlace)),
    (∀ (i : Nat) (g : Nat × TypeId), fs[i]? = some g → DataW.trod enc P W 0 (fun _ => true) true m g.2 ((cs.drop g.1).take (P.cellsOf g.2)) = xs[i]?) → xs.length = fs.length →
    (∀ n ∈ DataW.weightsEach P (fs.map (·.2)) (xs.map (·.1)), n ≤ reachBytes) → off + sz ≤ cs.length → ∃ a, ok a ∧ gg a ≤ blkAll (xs.map (·.1)) ∧ (f a).length = sz ∧ fillRel immG W (f a) ((cs.drop off).take sz)

theorem DecFsB.nil {off : Nat} : DecFsB P m off [] 0 (fun _ : Unit => []) (fun _ => True) (fun _ => 0) := by
  intro H enc W cs xs _ _ _ _
  exact ⟨(), trivial, Nat.zero_le _, rfl, rfl, by simp, by simp⟩

theorem DecFsB.cons {off sz sz' : Nat} {u : TypeId} {fs : List (Nat × TypeId)} {α β : Type} {f : α → List AV} {ok : α → Prop} {f' : β → List AV} {ok' : β → Prop} {g : α → Nat} {g' : β → Nat} (hsz : P.cellsOf u = sz) (h : DecB P m u sz f ok g) (h' : DecFsB P m (off + sz) fs sz' f' ok' g') :
    DecFsB P m off ((off, u) :: fs) (sz + sz') (fun x : α × β => f x.1 ++ f' x.2) (fun x => ok x.1 ∧ ok' x.2) (fun x => g x.1 + g' x.2) := by
  intro H enc W cs xs hx hl hw hle
  cases xs with
  | nil => simp at hl
  | cons y ys =>
    have h0 := hx 0 (off, u) rfl
    rw [hsz] at h0
    simp only [List.getElem?_cons_zero] at h0
    obtain ⟨a, ha1, hag, ha2, ha3⟩ := h enc W _ y.1 y.2 h0 (fun n hn => hw n (by simp only [List.map_cons, DataW.weightsEach, List.mem_append]; exact .inl hn))
    obtain ⟨b, hb1, hbg, hb2, hb3⟩ := h' enc W cs ys (fun i g' hg => by have := hx (i + 1) g' (by simpa using hg); simpa using this) (by simpa using hl)
      (fun n hn => hw n (by simp only [List.map_cons, DataW.weightsEach, List.mem_append]; exact .inr hn)) (by omega)
    refine ⟨(a, b), ⟨ha1, hb1⟩, by simp only [List.map_cons, blkAll]; omega, by simp [ha2, hb2], ?_⟩
    have e : (cs.drop off).take (sz + sz') = (cs.drop off).take sz ++ (cs.drop (off + sz)).take sz' := by
      rw [List.take_add, List.drop_drop]
    rw [e]
    exact ha3.append hb3

theorem DecB.struct {fs : List (Nat × TypeId)} {sz : Nat} {α β : Type} {f : α → List AV} {ok : α → Prop} {gg : α → Nat} (h : DecFsB P m 0 fs sz f ok gg) (ht : flds P t = some fs) (hsz : P.cellsOf t = sz) (g : β → List AV) (ok' : β → Prop) (g' : β → Nat) (k : α → β) (hg : ∀ a, g (k a) = f a) (hok : ∀ a, ok a → ok' (k a)) (hgg : ∀ a, g' (k a) ≤ gg a + 1) :
    DecB P (m + 1) t sz g ok' g' := by
  intro H enc W cs d ps hd hw
  obtain ⟨gs, hgs, hfs⟩ := flds_some ht
  obtain ⟨xs, n, hm, hx, hl, hlen, hf⟩ := DataW.trod_struct hgs hd
  cases hm
  simp only [Prod.mk.injEq] at hx
  obtain ⟨rfl, rfl⟩ := hx
  obtain ⟨a, h1, hag, h2, h3⟩ := h enc W cs xs (fun i g' hg' => by
      rw [← hfs, List.getElem?_map] at hg'
      cases hi : gs.toList[i]? with
      | none => simp [hi] at hg'
      | some z => simp only [hi, Option.map_some, Option.some.injEq] at hg'; subst hg'; exact hf i z (by simpa using hi)) (by rw [← hfs]; simpa using hlen) (fun n hn => hw n (by
      rw [← hfs, List.map_map] at hn
      simpa [DataW.weights, hgs, Function.comp_def] using hn)) (by omega)
  refine ⟨k a, hok a h1, by have := hgg a; simp only [blk]; omega, by rw [hg]; exact h2, ?_⟩
  rw [hg]
  simp only [List.drop_zero] at h3
  rw [List.take_of_length_le (by omega)] at h3
  exact h3

theorem DecB.up {sz : Nat} {α : Type} {f : α → List AV} {ok : α → Prop} {g : α → Nat} (h : ∀ m, DecB P (m + 1) t sz f ok g) : ∀ m, DecB P m t sz f ok g
  | 0 => DecB.zero
  | m + 1 => h m

/-- An argument of one cell. -/
theorem DecB.arg {α : Type} {f : α → AV} {ok : α → Prop} {g : α → Nat} (h : ∀ m, DecB P m t 1 (fun a => [f a]) ok g) {H : Type} {enc : TypeId × Value → H} {W : World} {v : Value} {d : DataW H} {ps : List MemPlace} (hd : DataW.Trod enc P W 0 (fun _ => true) true t v d ps)
    (hw : ∀ n ∈ d.weights P t, n ≤ reachBytes) (hv : ∀ cs, v ≠ .agg cs) : ∃ a, ok a ∧ g a ≤ blk d ∧ Rep immG W (f a) v := by
  obtain ⟨n, hn⟩ := hd
  obtain ⟨a, h1, hag, h2, h3⟩ := h n enc W _ d ps hn hw
  have hc : v.cells = #[v] := by cases v <;> first | rfl | exact absurd rfl (hv _)
  rw [hc] at h3
  exact ⟨a, h1, hag, h3.2.2 0 _ _ rfl rfl⟩

/-- An argument that is a struct. -/
theorem DecB.argS {sz : Nat} {α : Type} {f : α → List AV} {ok : α → Prop} {g : α → Nat} (h : ∀ m, DecB P m t sz f ok g) {H : Type} {enc : TypeId × Value → H} {W : World} {cs : Array Value} {d : DataW H} {ps : List MemPlace} (hd : DataW.Trod enc P W 0 (fun _ => true) true t (.agg cs) d ps)
    (hw : ∀ n ∈ d.weights P t, n ≤ reachBytes) : ∃ a, ok a ∧ g a ≤ blk d ∧ Rep immG W (.agg (f a)) (.agg cs) := by
  obtain ⟨n, hn⟩ := hd
  obtain ⟨a, h1, hag, h2, h3⟩ := h n enc W _ d ps hn hw
  simp only [Value.cells] at h3
  have := Rep.agg (f a) cs.toList h3.1 h3.2.1 h3.2.2
  exact ⟨a, h1, hag, by simpa using this⟩

end


end Go.Ab
