/- The entry: what a statement's arguments are, as abstract values; from a contract to the row. -/
import Derived.Test.YthkpgjnibolnhaaAbsM
import Derived.ProofKit
import Derived.SizedLaws
import Derived.WideKeyArgs
set_option linter.unusedSimpArgs false
set_option linter.unusedVariables false
namespace Go.Ab
open Go.ChangeShapes Go.WideShapes Go.ChangeAt Go.RowKit Go.WideElems

def immG : Gh := fun _ => .imm

/-- What is read at a type, with fuel m, stands for data. -/
def Dec (P : Program) (m : Nat) (t : TypeId) (sz : Nat) {α : Type} (f : α → List AV) (ok : α → Prop) : Prop :=
  ∀ {H : Type} (enc : TypeId × Value → H) (W : World) (cs : List Value) (d : DataW H) (ps : List MemPlace), DataW.trod enc P W 0 (fun _ => true) true m t cs = some (d, ps) →
    (∀ n ∈ d.weights P t, n ≤ reachBytes) → ∃ a, ok a ∧ (f a).length = sz ∧ fillRel immG W (f a) cs

section
variable {P : Program} {m : Nat} {t : TypeId}

theorem fill_one {γ : Gh} {w : World} {c : AV} {v : Value} (h : Rep γ w c v) (h1 : v.oneCell' = true) : fillRel γ w [c] [v] :=
  ⟨rfl, fun i u hu => by cases i <;> simp at hu; subst hu; exact h1, fun i d u hd hu => by cases i <;> simp at hd hu; subst hd; subst hu; exact h⟩

theorem Dec.zero {sz : Nat} {α : Type} {f : α → List AV} {ok : α → Prop} : Dec P 0 t sz f ok := fun enc W cs d ps h _ => by simp [DataW.trod] at h

theorem Dec.int {k : IntKind} (ht : P.underlying t = some (.int k)) : Dec P m t 1 (fun n : Int => [.int k n]) (fun n => (Lit.int k n).wf = true) := by
  intro H enc W cs d ps h _
  obtain ⟨n, rfl, _, hw⟩ := DataW.trod_int ht h
  exact ⟨n, hw, rfl, fill_one (.int k n) rfl⟩

theorem Dec.bool (ht : P.underlying t = some .bool) : Dec P m t 1 (fun b : Bool => [.bool b]) (fun _ => True) := by
  intro H enc W cs d ps h _
  obtain ⟨b, rfl, _⟩ := DataW.trod_bool ht h
  exact ⟨b, trivial, rfl, fill_one (.bool b) rfl⟩

theorem Dec.str (ht : P.underlying t = some .string) : Dec P m t 1 (fun s : List UInt8 => [.str s]) (fun s => s.length ≤ reachBytes) := by
  intro H enc W cs d ps h hw
  obtain ⟨s, rfl, hx, hs⟩ := DataW.trod_string ht h
  simp only [Prod.mk.injEq] at hx
  obtain ⟨rfl, rfl⟩ := hx
  refine ⟨s.data.toList, hw _ (by simp [DataW.weights]), rfl, fill_one ?_ rfl⟩
  exact .str _

theorem addr_add_add (a : Addr) (x y : Nat) : (a.add x).add y = a.add (x + y) := by
  unfold Addr.add
  by_cases hx : x = 0
  · subst hx; simp
  · by_cases hy : y = 0
    · subst hy; simp [hx]
    · simp [hx, hy, Nat.add_assoc]

theorem weights_all {H : Type} {e : TypeId} : ∀ {ds : List (DataW H)} {d : DataW H}, d ∈ ds → ∀ n ∈ d.weights P e, n ∈ DataW.weightsAll P e ds
  | x :: ds, d, hd, n, hn => by
    simp only [DataW.weightsAll, List.mem_append]
    rcases List.mem_cons.1 hd with rfl | hd
    · exact .inl hn
    · exact .inr (weights_all hd n hn)

theorem Dec.slice {e : TypeId} {sz B : Nat} {α : Type} {f : α → List AV} {ok : α → Prop} (ht : P.underlying t = some (.slice e)) (hB : P.bytesOf e = B) (hsz : P.cellsOf e = sz) (hpos : 0 < sz) (he : Dec P m e sz f ok) :
    Dec P (m + 1) t 1 (fun l : List α => [.sl .no sz (l.map f)]) (fun l => l.length * B ≤ reachBytes ∧ l.length ≤ maxLen ∧ ∀ x ∈ l, ok x) := by
  intro H enc W cs d ps h hw
  rcases DataW.trod_slice ht h with ⟨rfl, _⟩ | ⟨a, len, cap, elems, rest, n, hm, rfl, hx, hb, hlc, hcm, hel, hread, hspare, _⟩
  · exact ⟨[], ⟨by simp, by simp, by simp⟩, rfl, fill_one (.slnil .no sz (by simp)) rfl⟩
  · cases hm
    simp only [Prod.mk.injEq] at hx
    obtain ⟨rfl, rfl⟩ := hx
    obtain ⟨hrest, hreadr⟩ := hspare rfl
    subst hsz
    have hwt : ∀ y ∈ elems, ∀ n ∈ y.1.weights P e, n ≤ reachBytes := fun y hy n hn => hw n (by
      simp only [DataW.weights, ht, List.mem_cons, List.mem_append]
      exact .inr (.inl (weights_all (List.mem_map_of_mem hy) n hn)))
    have hlenB : len * P.bytesOf e ≤ reachBytes := by
      have := hw ((elems.length + rest.length) * P.bytesOf e) (by simp [DataW.weights, ht])
      rw [hel] at this
      exact Nat.le_trans (Nat.mul_le_mul_right _ (Nat.le_add_right _ _)) this
    -- each element
    have each : ∀ i, i < len → ∃ (x : α) (us : List Value), ok x ∧ (f x).length = P.cellsOf e ∧ fillRel immG W (f x) us ∧ (∀ j, j < P.cellsOf e → W.cell? (a.add (i * P.cellsOf e + j)) = us[j]?) ∧ us.length = P.cellsOf e := by
      intro i hi
      have h1 := hread i hi
      have hi' : i < elems.length := by omega
      rw [List.getElem?_eq_getElem hi', Option.bind_eq_some_iff] at h1
      obtain ⟨us, hus, hd⟩ := h1
      obtain ⟨x, hx1, hx2, hx3⟩ := he enc W us elems[i].1 elems[i].2 hd (hwt _ (List.getElem_mem hi'))
      obtain ⟨_, hl, hc⟩ := World.cells?_some hus
      refine ⟨x, us, hx1, hx2, hx3, fun j hj => ?_, hl⟩
      have := hc j hj
      rwa [addr_add_add] at this
    rcases Nat.eq_zero_or_pos cap with hc0 | hcpos
    · have hl0 : len = 0 := by omega
      subst hl0; subst hc0
      exact ⟨[], ⟨by simp, by simp, by simp⟩, rfl, fill_one (.sl0 .no _ a (.inl rfl)) rfl⟩
    · -- some cell is read: the address is plain
      have hspot : a.spot = none := by
        have h1 : ∃ us, W.cells? 0 (a.add 0) (P.cellsOf e) = some us := by
          rcases Nat.eq_zero_or_pos len with hl0 | hlpos
          · have h2 := hreadr 0 (by omega)
            rw [List.getElem?_eq_getElem (by omega), Option.bind_eq_some_iff] at h2
            obtain ⟨us, h3, _⟩ := h2
            rw [hl0] at h3
            simp only [Nat.add_zero, Nat.zero_mul] at h3
            exact ⟨us, h3⟩
          · have h2 := hread 0 hlpos
            rw [List.getElem?_eq_getElem (by omega), Option.bind_eq_some_iff] at h2
            obtain ⟨us, h3, _⟩ := h2
            simp only [Nat.zero_mul] at h3
            exact ⟨us, h3⟩
        obtain ⟨us, h1⟩ := h1
        obtain ⟨_, hl, hc⟩ := World.cells?_some h1
        have h3 := hc 0 hpos
        have e0 : (a.add 0).add 0 = a := rfl
        rw [e0] at h3
        have h4 : (W.cell? a).isSome = true := by rw [h3, List.getElem?_eq_getElem (by omega)]; rfl
        unfold World.cell? at h4
        split at h4
        · split at h4
          · cases h4
          · rename_i hs
            cases h5 : a.spot with
            | none => rfl
            | some s => simp [h5] at hs
        · cases h4
      obtain ⟨b, off, spot⟩ := a
      simp only at hspot
      subst hspot
      -- choose the elements
      have hchoose : ∀ k, k ≤ len → ∃ l : List α, l.length = k ∧ ∀ i x, l[i]? = some x → ok x ∧ (f x).length = P.cellsOf e ∧ ∃ us : List Value, fillRel immG W (f x) us ∧ (∀ j, j < P.cellsOf e → W.cell? (Addr.add ⟨b, off, none⟩ (i * P.cellsOf e + j)) = us[j]?) ∧ us.length = P.cellsOf e := by
        intro k
        induction k with
        | zero => intro _; exact ⟨[], rfl, by simp⟩
        | succ k ih =>
          intro hk
          obtain ⟨l, hl, hp⟩ := ih (by omega)
          obtain ⟨x, us, h1, h2, h3, h4, h5⟩ := each k (by omega)
          refine ⟨l ++ [x], by simp [hl], fun i y hy => ?_⟩
          rcases Nat.lt_or_ge i l.length with hi | hi
          · rw [List.getElem?_append_left hi] at hy; exact hp i y hy
          · rw [List.getElem?_append_right hi] at hy
            have : i = l.length := by
              rcases Nat.lt_or_ge 0 (i - l.length) with h | h
              · rw [List.getElem?_eq_none (by simp; omega)] at hy; cases hy
              · omega
            subst this
            simp at hy
            subst hy
            exact ⟨h1, h2, us, h3, by rw [hl]; exact h4, h5⟩
      obtain ⟨l, hl, hp⟩ := hchoose len (Nat.le_refl _)
      refine ⟨l, ⟨by rw [hl, ← hB]; exact hlenB, by omega, fun x hx => ?_⟩, rfl, fill_one ?_ rfl⟩
      · obtain ⟨i, hi⟩ := List.mem_iff_getElem?.1 hx
        exact (hp i x hi).1
      · have hml : (l.map f).length = len := by simp [hl]
        rw [← hml]
        refine .sl .no _ (l.map f) b off cap (fun i j => (W.cell? ⟨b, off + (i * P.cellsOf e + j), none⟩).getD undef) (by omega) hcm (fun x hx => ?_) (fun i x hx j hj => ?_) (fun i x hx j c hj => ?_) trivial
        · obtain ⟨y, hy, rfl⟩ := List.mem_map.1 hx
          obtain ⟨i, hi⟩ := List.mem_iff_getElem?.1 hy
          exact (hp i y hi).2.1
        · simp only [List.getElem?_map, Option.map_eq_some_iff] at hx
          obtain ⟨y, hy, rfl⟩ := hx
          obtain ⟨_, h2, us, h3, h4, h5⟩ := hp i y hy
          have h6 := h4 j hj
          have h7 : us[j]? = some us[j] := List.getElem?_eq_getElem (by omega)
          have h8 : W.cell? ⟨b, off + (i * P.cellsOf e + j), none⟩ = some us[j] := by rw [← h7, ← h6, addr_add]
          refine ⟨by rw [h8]; rfl, trivial, ?_⟩
          rw [h8]
          exact h3.2.1 j _ h7
        · simp only [List.getElem?_map, Option.map_eq_some_iff] at hx
          obtain ⟨y, hy, rfl⟩ := hx
          obtain ⟨_, h2, us, h3, h4, h5⟩ := hp i y hy
          have hj' : j < P.cellsOf e := by have := (List.getElem?_eq_some_iff.1 hj).1; omega
          have h6 := h4 j hj'
          have h7 : us[j]? = some us[j] := List.getElem?_eq_getElem (by omega)
          have h8 : W.cell? ⟨b, off + (i * P.cellsOf e + j), none⟩ = some us[j] := by rw [← h7, ← h6, addr_add]
          show Rep immG W c ((W.cell? ⟨b, off + (i * P.cellsOf e + j), none⟩).getD undef)
          rw [h8]
          exact h3.2.2 j c _ hj h7

def flds (P : Program) (t : TypeId) : Option (List (Nat × TypeId)) :=
  match P.underlying t with
  | some (.struct fs) => some (fs.toList.map fun f => (f.offset, f.type))
  | _ => none

theorem flds_some {P : Program} {t : TypeId} {l : List (Nat × TypeId)} (h : flds P t = some l) : ∃ fs : Array Field, P.underlying t = some (.struct fs) ∧ fs.toList.map (fun f => (f.offset, f.type)) = l := by
  unfold flds at h
  split at h
  · rename_i fs hf; simp only [Option.some.injEq] at h; exact ⟨fs, hf, h⟩
  · cases h

/-- The fields of a struct from one on (place, type): their cells lie one behind the other from 'off' on. -/
def DecFs (P : Program) (m : Nat) (off : Nat) (fs : List (Nat × TypeId)) (sz : Nat) {α : Type} (f : α → List AV) (ok : α → Prop) : Prop :=
  ∀ {H : Type} (enc : TypeId × Value → H) (W : World) (cs : List Value) (xs : List (DataW H × List MemPlace)),
    (∀ (i : Nat) (g : Nat × TypeId), fs[i]? = some g → DataW.trod enc P W 0 (fun _ => true) true m g.2 ((cs.drop g.1).take (P.cellsOf g.2)) = xs[i]?) → xs.length = fs.length →
    (∀ n ∈ DataW.weightsEach P (fs.map (·.2)) (xs.map (·.1)), n ≤ reachBytes) → off + sz ≤ cs.length → ∃ a, ok a ∧ (f a).length = sz ∧ fillRel immG W (f a) ((cs.drop off).take sz)

theorem DecFs.nil {off : Nat} : DecFs P m off [] 0 (fun _ : Unit => []) (fun _ => True) := by
  intro H enc W cs xs _ _ _ _
  exact ⟨(), trivial, rfl, rfl, by simp, by simp⟩

theorem DecFs.cons {off sz sz' : Nat} {u : TypeId} {fs : List (Nat × TypeId)} {α β : Type} {f : α → List AV} {ok : α → Prop} {f' : β → List AV} {ok' : β → Prop} (hsz : P.cellsOf u = sz) (h : Dec P m u sz f ok) (h' : DecFs P m (off + sz) fs sz' f' ok') :
    DecFs P m off ((off, u) :: fs) (sz + sz') (fun x : α × β => f x.1 ++ f' x.2) (fun x => ok x.1 ∧ ok' x.2) := by
  intro H enc W cs xs hx hl hw hle
  cases xs with
  | nil => simp at hl
  | cons y ys =>
    have h0 := hx 0 (off, u) rfl
    rw [hsz] at h0
    simp only [List.getElem?_cons_zero] at h0
    obtain ⟨a, ha1, ha2, ha3⟩ := h enc W _ y.1 y.2 h0 (fun n hn => hw n (by simp only [List.map_cons, DataW.weightsEach, List.mem_append]; exact .inl hn))
    obtain ⟨b, hb1, hb2, hb3⟩ := h' enc W cs ys (fun i g' hg => by have := hx (i + 1) g' (by simpa using hg); simpa using this) (by simpa using hl)
      (fun n hn => hw n (by simp only [List.map_cons, DataW.weightsEach, List.mem_append]; exact .inr hn)) (by omega)
    refine ⟨(a, b), ⟨ha1, hb1⟩, by simp [ha2, hb2], ?_⟩
    have e : (cs.drop off).take (sz + sz') = (cs.drop off).take sz ++ (cs.drop (off + sz)).take sz' := by
      rw [List.take_add, List.drop_drop]
    rw [e]
    exact ha3.append hb3

theorem Dec.struct {fs : List (Nat × TypeId)} {sz : Nat} {α β : Type} {f : α → List AV} {ok : α → Prop} (h : DecFs P m 0 fs sz f ok) (ht : flds P t = some fs) (hsz : P.cellsOf t = sz) (g : β → List AV) (ok' : β → Prop) (k : α → β) (hg : ∀ a, g (k a) = f a) (hok : ∀ a, ok a → ok' (k a)) :
    Dec P (m + 1) t sz g ok' := by
  intro H enc W cs d ps hd hw
  obtain ⟨gs, hgs, hfs⟩ := flds_some ht
  obtain ⟨xs, n, hm, hx, hl, hlen, hf⟩ := DataW.trod_struct hgs hd
  cases hm
  simp only [Prod.mk.injEq] at hx
  obtain ⟨rfl, rfl⟩ := hx
  obtain ⟨a, h1, h2, h3⟩ := h enc W cs xs (fun i g' hg' => by
      rw [← hfs, List.getElem?_map] at hg'
      cases hi : gs.toList[i]? with
      | none => simp [hi] at hg'
      | some z => simp only [hi, Option.map_some, Option.some.injEq] at hg'; subst hg'; exact hf i z (by simpa using hi)) (by rw [← hfs]; simpa using hlen) (fun n hn => hw n (by
      rw [← hfs, List.map_map] at hn
      simpa [DataW.weights, hgs, Function.comp_def] using hn)) (by omega)
  refine ⟨k a, hok a h1, by rw [hg]; exact h2, ?_⟩
  rw [hg]
  simp only [List.drop_zero] at h3
  rw [List.take_of_length_le (by omega)] at h3
  exact h3

theorem Dec.up {sz : Nat} {α : Type} {f : α → List AV} {ok : α → Prop} (h : ∀ m, Dec P (m + 1) t sz f ok) : ∀ m, Dec P m t sz f ok
  | 0 => Dec.zero
  | m + 1 => h m

/-- An argument of one cell. -/
theorem Dec.arg {α : Type} {f : α → AV} {ok : α → Prop} (h : ∀ m, Dec P m t 1 (fun a => [f a]) ok) {H : Type} {enc : TypeId × Value → H} {W : World} {v : Value} {d : DataW H} {ps : List MemPlace} (hd : DataW.Trod enc P W 0 (fun _ => true) true t v d ps)
    (hw : ∀ n ∈ d.weights P t, n ≤ reachBytes) (hv : ∀ cs, v ≠ .agg cs) : ∃ a, ok a ∧ Rep immG W (f a) v := by
  obtain ⟨n, hn⟩ := hd
  obtain ⟨a, h1, h2, h3⟩ := h n enc W _ d ps hn hw
  have hc : v.cells = #[v] := by cases v <;> first | rfl | exact absurd rfl (hv _)
  rw [hc] at h3
  exact ⟨a, h1, h3.2.2 0 _ _ rfl rfl⟩

/-- An argument that is a struct. -/
theorem Dec.argS {sz : Nat} {α : Type} {f : α → List AV} {ok : α → Prop} (h : ∀ m, Dec P m t sz f ok) {H : Type} {enc : TypeId × Value → H} {W : World} {cs : Array Value} {d : DataW H} {ps : List MemPlace} (hd : DataW.Trod enc P W 0 (fun _ => true) true t (.agg cs) d ps)
    (hw : ∀ n ∈ d.weights P t, n ≤ reachBytes) : ∃ a, ok a ∧ Rep immG W (.agg (f a)) (.agg cs) := by
  obtain ⟨n, hn⟩ := hd
  obtain ⟨a, h1, h2, h3⟩ := h n enc W _ d ps hn hw
  simp only [Value.cells] at h3
  have := Rep.agg (f a) cs.toList h3.1 h3.2.1 h3.2.2
  exact ⟨a, h1, by simpa using this⟩

end

/-- A value of a type that is no struct and no array is one cell. -/
theorem plain_int {P : Program} {W : World} {r : Reach} {b : Nat} {t : TypeId} {k : IntKind} {v : Value} (ht : P.underlying t = some (.int k)) (h : Value.okWide P W r b t v) : ∀ cs, v ≠ .agg cs := fun cs e => by
  subst e; simp [Value.okWide, Cell.okWide, Cell.ok, ht] at h
theorem plain_bool {P : Program} {W : World} {r : Reach} {b : Nat} {t : TypeId} {v : Value} (ht : P.underlying t = some .bool) (h : Value.okWide P W r b t v) : ∀ cs, v ≠ .agg cs := fun cs e => by
  subst e; simp [Value.okWide, Cell.okWide, Cell.ok, ht] at h
theorem plain_str {P : Program} {W : World} {r : Reach} {b : Nat} {t : TypeId} {v : Value} (ht : P.underlying t = some .string) (h : Value.okWide P W r b t v) : ∀ cs, v ≠ .agg cs := fun cs e => by
  subst e; simp [Value.okWide, Cell.okWide, Cell.ok, ht] at h
theorem plain_slice {P : Program} {W : World} {r : Reach} {b : Nat} {t u : TypeId} {v : Value} (ht : P.underlying t = some (.slice u)) (h : Value.okWide P W r b t v) : ∀ cs, v ≠ .agg cs := fun cs e => by
  subst e; simp [Value.okWide, Cell.okWide, Cell.ok, ht] at h
theorem isAgg {P : Program} {W : World} {r : Reach} {b : Nat} {t : TypeId} {v : Value} {l : List (Nat × TypeId)} (ht : flds P t = some l) (h : Value.okWide P W r b t v) : ∃ cs, v = .agg cs := by
  obtain ⟨fs, hf, _⟩ := flds_some ht
  simp only [Value.okWide, hf] at h
  obtain ⟨cs, rfl, _⟩ := h
  exact ⟨cs, rfl⟩

theorem sized {P : Program} {H : Type} {ts : List TypeId} {ds : List (DataW H)} (h : (DataW.weightsEach P ts ds).all (· ≤ reachBytes) = true) {j : Nat} {t : TypeId} {d : DataW H} (ht : ts[j]? = some t) (hd : ds[j]? = some d) : ∀ n ∈ d.weights P t, n ≤ reachBytes := fun n hn => by
  have := List.all_eq_true.1 h n (DataW.weights_mem_each ht hd n hn)
  simpa using this

/-! ### from a contract to the row -/

theorem trodAll_stays {P : Program} {H : Type} {enc : TypeId × Value → H} (hl : laidOutB P = true) {W W' : World} {sp' : Nat → Bool} : ∀ {ts : List TypeId} {vs : List Value} {ds : List (DataW H)} {ps : List MemPlace},
    (∀ t ∈ ts, P.readableRec t = true ∧ t < P.types.size) → DataW.TrodAll enc P W 0 (fun _ => true) true ts vs ds ps → (∀ p ∈ ps, W.sameAt W' p) → (∀ p ∈ ps, sp' p.block = true) → DataW.TrodAll enc P W' 0 sp' true ts vs ds ps
  | [], _, _, _, _, h, _, _ => by
    obtain ⟨rfl, rfl, rfl⟩ := trodAll_nil h
    exact rfl
  | t :: ts, _, _, _, hr, h, hs, hsp => by
    obtain ⟨v, vs1, d, ds1, a, b, rfl, rfl, rfl, h1, h2⟩ := trodAll_cons h
    exact ⟨a, b, Trod_stays hl (hr t (List.mem_cons_self ..)).1 (hr t (List.mem_cons_self ..)).2 h1 (fun p hp => hs p (List.mem_append_left _ hp)) (fun p hp => hsp p (List.mem_append_left _ hp)),
      trodAll_stays hl (fun t ht => hr t (List.mem_cons_of_mem _ ht)) h2 (fun p hp => hs p (List.mem_append_right _ hp)) (fun p hp => hsp p (List.mem_append_right _ hp)), rfl⟩

theorem post_of_same_old {P : Program} {H : Type} {enc : TypeId × Value → H} {f : Func} {s : ChangeSpec} {apart fresh handsOn again : Bool} {W W' : World} {args : Array Value} {v : Value} {ds gs : List (DataW H)} {before pa pv : List MemPlace}
    (hW : DataW.Whole enc P f.params.toList s.vars apart W args.toList ds gs before)
    (hres : ∀ (b : Nat) (sp : Nat → Bool) (hd : Bool), DataW.TrodAll enc P W' b sp hd f.resultTypes.toList (v.resultList f.resultTypes.size) (s.fn H (ds ++ gs)).results [])
    (hargs : ∀ sp : Nat → Bool, (∀ p ∈ before, sp p.block = true) → DataW.TrodAll enc P W' 0 sp true f.params.toList args.toList (s.fn H (ds ++ gs)).args pa)
    (hvars : ∀ sp : Nat → Bool, (∀ p ∈ before, sp p.block = true) → DataW.TrodVars enc P W' sp s.vars (s.fn H (ds ++ gs)).vars pv)
    (hps : before = pa ++ pv) (hk : W.keptBut W' (· ∈ before)) (hfz : ∀ a, a.block < W.heap.size → W'.frozen? a = W.frozen? a)
    (hok : ∀ (j : Nat) (t : TypeId) (r : Value), f.resultTypes[j]? = some t → (v.resultList f.resultTypes.size)[j]? = some r → Value.okWide P W' .any 0 t r) :
    s.post enc P f apart fresh handsOn again W args v W' := by
  have hlt : ∀ p ∈ before, p.block < W.heap.size := fun p hp => hW.lt p hp
  have hold : ∀ p ∈ before, (fun b => decide (b < W.heap.size)) p.block = true := fun p hp => by simpa using hlt p hp
  refine ⟨ds, gs, before, [], pa, pv, hW, hres _ _ _, hargs _ hold, hvars _ hold, World.keptBut_mono (fun p hp => ⟨hp, ?_⟩) hk, fun _ => ?_⟩
  · rw [hps, List.mem_append] at hp
    exact Or.inr hp
  · obtain ⟨_, _, _, _, _, hz, hn⟩ := hW
    refine ⟨hok, _, _, ([] ++ pa) ++ pv, ⟨[] ++ pa, pv, trodAll_append (hargs _ (fun _ _ => rfl)) (hres _ _ _), hvars _ (fun _ _ => rfl), rfl, ?_, ?_⟩, ?_⟩
    · intro b off hp
      have hp' : MemPlace.cell b off ∈ before := by rw [hps]; simpa using hp
      rw [hfz _ (hlt _ hp')]
      exact hz b off hp'
    · intro ha
      have := hn ha
      rw [hps] at this
      simpa using this
    · intro p hp _
      rw [hps]
      simpa using hp

/-- A LAW'S ROW OUT OF A CONTRACT: it returns true, and all is as it was. -/
theorem law_contract {P : Program} {f : FuncId} {fn : Func} {s : ChangeSpec} {apart fresh handsOn again : Bool} {H : Type} {enc : TypeId × Value → H} {W : World} {args : Array Value} {ds gs : List (DataW H)} {before : List MemPlace} {tb : TypeId}
    (hl : laidOutB P = true) (hvars : s.vars = []) (hr : ∀ t ∈ fn.params.toList, P.readableRec t = true ∧ t < P.types.size) (hres : fn.resultTypes = #[tb]) (htb : P.underlying tb = some .bool)
    (hW : DataW.Whole enc P fn.params.toList s.vars apart W args.toList ds gs before) (hs : s.fn H (ds ++ gs) = { results := [.lit (.bool true)], args := ds })
    {avs : List AV} (htab : TabOk immG W) (hrep : RepAll immG W avs args.toList) (hp : Pure P f avs (.bool true)) :
    Calls P f args W fun e W' => ∃ v, e = .returned v ∧ s.post enc P fn apart fresh handsOn again W args v W' := by
  have h := hp immG W args.toList htab (fun b o hb => by simp [Heap.emp] at hb) hrep
  have ha : args.toList.toArray = args := by simp
  rw [ha] at h
  refine h.mono fun e W' ⟨γ', H', r, hext, _, _, hend, hq, _⟩ => ?_
  subst hq
  cases e with
  | panicked ch => exact hend.elim
  | outgrown => exact hend.elim
  | returned v =>
    have hv : Rep γ' W' (.bool true) v := hend
    cases hv
    refine ⟨_, rfl, ?_⟩
    have hframe : ∀ b, b < W.heap.size → W'.heap[b]? = W.heap[b]? := fun b hb => (hext.frame b hb (by simp [Heap.emp])).2
    obtain ⟨p, q, hA, hV, rfl, hfz, hnd⟩ := id hW
    rw [hvars] at hV
    obtain ⟨rfl, rfl⟩ := trodVars_none hV
    have hlt : ∀ x ∈ p, x.block < W.heap.size := fun x hx => hW.lt x (List.mem_append_left _ hx)
    have hsame : ∀ x ∈ p, W.sameAt W' x := fun x hx => by
      have h1 := hframe _ (hlt x hx)
      cases x with
      | cell b off =>
        simp only [MemPlace.block] at h1
        simp only [World.sameAt, World.cell?, h1]
      | map b => exact h1
    refine post_of_same_old (pa := p) (pv := []) hW (fun b sp hd => ?_) (fun sp hsp => ?_) (fun sp hsp => ?_) rfl ⟨hext.os, hext.output, fun i hi => ?_⟩ hext.frozen ?_
    · rw [hres, hs]
      exact trodAll_mk1 (shut_bool htb true)
    · rw [hs]
      exact trodAll_stays hl hr hA hsame fun x hx => hsp x (List.mem_append_left _ hx)
    · rw [hs, hvars]
      exact rfl
    · rw [hframe i hi]
      cases W.heap[i]? with
      | none => rfl
      | some o => cases o <;> first | exact ⟨rfl, rfl, rfl, fun _ _ => rfl⟩ | exact .inr ⟨rfl, rfl⟩ | rfl
    · exact ok_one hres rfl (okWide_bool_mk htb true)

end Go.Ab
