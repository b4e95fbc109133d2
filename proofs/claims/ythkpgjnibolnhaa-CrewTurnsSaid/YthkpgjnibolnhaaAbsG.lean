/- append, and maps. -/
import Derived.Test.YthkpgjnibolnhaaAbsF
import Derived.Deep.AppendSrc
set_option linter.unusedSimpArgs false
set_option linter.unusedVariables false
namespace Go.Ab

theorem src_of_rep {P : Program} {γ : Gh} {w : World} {o : Own} {sz : Nat} {ys : List (List AV)} {v : Value} {tx e' : TypeId} (hk : P.underlying tx = some (.slice e')) (h : Rep γ w (.sl o sz ys) v) :
    ∃ news, Src P sz tx v ys.length news w ∧ fillRel γ w ys.flatten news ∧ (ys ≠ [] → ∀ y ∈ ys, y.length = sz) := by
  obtain ⟨ad, cap, hv, hcap⟩ := h.slice_form
  subst hv
  cases h with
  | slnil _ _ _ => exact ⟨[], Src.ofNil w hk 0, ⟨rfl, by simp, by simp⟩, by simp⟩
  | sl0 _ _ ad _ => exact ⟨[], Src.ofSlice w hk ad 0 0 [] (by simp) (by simp) (by simp), ⟨rfl, by simp, by simp⟩, by simp⟩
  | sl _ _ _ b off _ cv hc hm hu hcell hr ho =>
    obtain ⟨_, _, _, _, _, us, hul, hrow, hrel⟩ := (Rep.sl o sz ys b off cap cv hc hm hu hcell hr ho).flat
    refine ⟨us, Src.ofSlice w hk _ _ _ us (by rw [← hul, flatten_length sz ys hu]) (fun j u hj => by rw [addr_add]; exact (hrow j u hj).1) (fun u hu' => ?_), ⟨hul, fun i u hi => (hrow i u hi).2.2, hrel⟩, fun _ => hu⟩
    obtain ⟨i, hi⟩ := List.mem_iff_getElem?.1 hu'
    exact (hrow i u hi).2.2

theorem src_of_str {P : Program} {γ : Gh} {w : World} {tx : TypeId} (hk : P.underlying tx = some .string) (s : List UInt8) :
    ∃ news, Src P 1 tx (.string ⟨s.toArray⟩) (bytesOf s).length news w ∧ fillRel γ w (bytesOf s).flatten news ∧ (bytesOf s ≠ [] → ∀ y ∈ bytesOf s, y.length = 1) := by
  have hl : (bytesOf s).length = s.length := by simp [bytesOf]
  have hfl : (bytesOf s).flatten = s.map fun c => AV.int .u8 c.toNat := by
    clear hl
    unfold bytesOf
    induction s with
    | nil => rfl
    | cons x s ih => rw [List.map_cons, List.flatten_cons, ih]; rfl
  have hb : byteCells ⟨s.toArray⟩ = s.map fun c => Value.int .u8 c.toNat := by simp [byteCells]
  have hsrc := Src.ofString (P := P) w hk ⟨s.toArray⟩
  rw [size_of, hb] at hsrc
  refine ⟨_, by rw [hl]; exact hsrc, ⟨by rw [hfl, List.length_map, List.length_map], fun i u hu => ?_, fun i c u hc hu => ?_⟩, fun _ y hy => ?_⟩
  · simp only [List.getElem?_map, Option.map_eq_some_iff] at hu
    obtain ⟨k, _, rfl⟩ := hu
    rfl
  · rw [hfl] at hc
    simp only [List.getElem?_map, Option.map_eq_some_iff] at hc hu
    obtain ⟨k, hk1, rfl⟩ := hc
    obtain ⟨k', hk2, rfl⟩ := hu
    rw [hk1] at hk2
    cases hk2
    exact .int _ _
  · simp only [bytesOf, List.mem_map] at hy
    obtain ⟨_, _, rfl⟩ := hy
    rfl

theorem strip_flatten (ys : List (List AV)) : (ys.map (·.map AV.strip1)).flatten = ys.flatten.map AV.strip1 := by
  induction ys with
  | nil => rfl
  | cons y ys ih => rw [List.map_cons, List.flatten_cons, List.flatten_cons, List.map_append, ih]

section
variable {P : Program} {w : World}

/-- Nothing is appended, or there is room in a row that is known whole. -/
theorem run_append_none (t tx ty e : TypeId) (i : TypeInfo) (ht : P.underlying t = some (.slice e)) (hi : P.info? e = some i) (x : Value) (news : List Value) (hs : Src P i.size tx x 0 news w) :
    (Builtin.append_ #[t, tx] ty #[.slice none 0 0, x]).run P w = .ok (.slice none 0 0) w := by
  rcases hs.kind with ⟨e', hk⟩ | hk <;> simp [Builtin.append_, run_underlying ht, run_underlying hk, sizeOf, typeInfo, hi, hs.len, hs.cells]

theorem run_append_row (t tx ty e : TypeId) (i : TypeInfo) (ht : P.underlying t = some (.slice e)) (hi : P.info? e = some i) (b off sLen sCap : Nat) (cur : Array Value) (E : TypeId) (hb : w.heap[b]? = some (.cells cur E (0, 0)))
    (x : Value) (n : Nat) (news : List Value) (hs : Src P i.size tx x n news w) (hroom : sLen + n ≤ sCap) (hfit : off + sLen * i.size + news.length ≤ cur.size) :
    (Builtin.append_ #[t, tx] ty #[.slice (some ⟨b, off, none⟩) sLen sCap, x]).run P w =
      .ok (.slice (some ⟨b, off, none⟩) (sLen + n) sCap) (w.setRow b (cur.toList.take (off + sLen * i.size) ++ news ++ cur.toList.drop (off + sLen * i.size + news.length)).toArray) := by
  have hst := run_storeCells_at P b (off + sLen * i.size) E news 0 cur w hb (by simpa using hfit) hs.one
  simp only [Nat.add_zero] at hst
  rcases hs.kind with ⟨e', hk⟩ | hk <;> simp [Builtin.append_, run_underlying ht, run_underlying hk, sizeOf, typeInfo, hi, hs.len, hroom, hs.cells, Addr.add_lit, hst]

theorem run_append_zero (t tx ty e : TypeId) (i : TypeInfo) (ht : P.underlying t = some (.slice e)) (hi : P.info? e = some i) (ad : Addr) (sLen : Nat)
    (x : Value) (news : List Value) (hs : Src P i.size tx x 0 news w) (hnews : news = []) :
    (Builtin.append_ #[t, tx] ty #[.slice (some ad) sLen sLen, x]).run P w = .ok (.slice (some ad) sLen sLen) w := by
  have h1 := hs.cells
  rw [hnews] at h1
  rcases hs.kind with ⟨e', hk⟩ | hk <;> simp [Builtin.append_, run_underlying ht, run_underlying hk, sizeOf, typeInfo, hi, hs.len, h1, storeCells]
end

theorem newKeys_del {H : Heap} {w : World} {b : Nat} {x : AObj} (hb : (H b).isSome = true) {b' : Nat} (h' : b' = b ∨ w.heap.size ≤ b') : NewKeys H w ((H.del b).upd b' x) := by
  intro c hc
  unfold Heap.upd at hc
  split at hc
  · rename_i e
    subst e
    rcases h' with rfl | h'
    · exact .inl hb
    · exact .inr h'
  · unfold Heap.del at hc
    split at hc
    · cases hc
    · exact .inl hc

theorem state_del {γ : Gh} {w : World} {H : Heap} (hs : StateRel γ w H) (b : Nat) : StateRel γ w (H.del b) := hs.sub fun c o hc => by
  unfold Heap.del at hc
  split at hc
  · cases hc
  · exact hc

/-- THE LAW OF append. -/
theorem append_law {P : Program} {o : Oper} {a : Act} {γ : Gh} {w : World} {H : Heap} {K : AV → Heap → Prop} {next : Act → World → Prop} {Q : Exit → Act → World → Prop}
    {t tx e : TypeId} {i : TypeInfo} {z : Value} {sz bytes : Nat} (ht : P.underlying t = some (.slice e)) (hi : P.info? e = some i) (hz : i.zero = some z) (hsz : i.size = sz) (hby : i.bytes = bytes) (hzs : z.cells.size = sz) (hpos : 0 < sz)
    {own own' : Own} {s1 s2 : Nat} {xs ys : List (List AV)} {v x : Value} (hx : Rep γ w (.sl own s1 xs) v) {news : List Value} (hsrc : Src P sz tx x ys.length news w) (hnews : fillRel γ w ys.flatten news) (hys : ys ≠ [] → ∀ y ∈ ys, y.length = sz)
    (hs : StateRel γ w H) (hop : appK sz bytes (.sl own s1 xs) (.sl own' s2 ys) H K)
    (hexec : ∀ r w', (Builtin.append_ #[t, tx] o.type #[v, x]).run P w = .ok r w' → (execOp a.eval o).run P w = .ok (.value r) w')
    (hn : ∀ γ' w' H' c v, Ext (keysOf H) γ w γ' w' → StateRel γ' w' H' → NewKeys H w H' → Rep γ' w' c v → K c H' → next (a.put o.dst v) w') : o.wp P a w next Q := by
  obtain ⟨e1, e2, hbytes, hmax, hK⟩ := hop
  subst e2
  subst e1
  have hys' : ∀ y ∈ ys.map (·.map AV.strip1), y.length = s1 := by
    intro y hy
    simp only [List.mem_map] at hy
    obtain ⟨y', hy', rfl⟩ := hy
    rw [List.length_map]
    exact hys (List.ne_nil_of_mem hy') y' hy'
  have hnews' : fillRel γ w (ys.map (·.map AV.strip1)).flatten news := by rw [strip_flatten]; exact strip1_rel hnews
  have hnl : news.length = ys.length * s1 := by rw [hsrc.newsLen]
  have hsrc' : Src P i.size tx x ys.length news w := by rw [hsz]; exact hsrc
  -- a new row
  have grown : ∀ (base : Option Addr) (cap : Nat) (olds : List Value) (H' : Heap), v = .slice base xs.length cap → (Builtin.firstCells i.size xs.length (.slice base xs.length cap)).run P w.drew = .ok olds.toArray w.drew →
      fillRel γ w xs.flatten olds → olds.length = xs.length * s1 → (∀ y ∈ xs, y.length = s1) → cap < xs.length + ys.length → StateRel γ w H' →
      NewKeys H w (H'.upd w.heap.size (.tip (xs.length + ys.length) s1)) →
      K (.sl (.tip w.heap.size 0) s1 (xs ++ ys.map (·.map AV.strip1))) (H'.upd w.heap.size (.tip (xs.length + ys.length) s1)) → o.wp P a w next Q := by
    intro base cap olds H' hv hold hfr holen hux hlt hs' hkeys hk
    have hr := run_append_grow_src (P := P) w t tx o.type e i z ht hi hz base xs.length cap olds hold x ys.length news hsrc' hlt (by simp only [maxLen] at hmax; omega) (growslice_fits hlt (by rw [hby]; exact hbytes))
    rw [← hv] at hr
    generalize hcap : grownCap w (xs.length + ys.length) cap e = cap' at hr
    have hge : xs.length + ys.length ≤ cap' := hcap ▸ grownCap_ge w _ cap e
    have hle : cap' ≤ maxLen := hcap ▸ grownCap_le_maxLen w _ cap e hmax
    generalize harr : (olds ++ news).toArray ++ Builtin.zeroCells z.cells (cap' - (xs.length + ys.length)) = arr at hr
    have harrsz : arr.size = cap' * s1 := by
      rw [← harr]
      simp only [Array.size_append, List.size_toArray, List.length_append, size_zeroCells, hzs, holen, hnl, ← Nat.add_mul]
      congr 1
      omega
    have hext : Ext (fun _ => False) γ w (fun b => if b = w.heap.size then .buf ((xs.length + ys.length) * s1) else γ b) (w.drew.alloc (.cells arr e)) :=
      (ext_drew (fun _ => False) γ w).trans (ext_alloc (fun _ => False) γ w.drew (.buf ((xs.length + ys.length) * s1)) arr e) (fun _ _ f => f)
    have hnewb : (w.drew.alloc (.cells arr e)).heap[w.heap.size]? = some (.cells arr e (0, 0)) := heap_alloc_new w.drew _
    have hrel : fillRel (fun b => if b = w.heap.size then .buf ((xs.length + ys.length) * s1) else γ b) (w.drew.alloc (.cells arr e)) (xs ++ ys.map (·.map AV.strip1)).flatten (olds ++ news) := by
      rw [List.flatten_append]
      have h0 := fillRel.append hfr hnews'
      exact ⟨h0.1, h0.2.1, fun i c u hc hu => (h0.2.2 i c u hc hu).mono hext.mono⟩
    have hlen : (xs ++ ys.map (·.map AV.strip1)).length = xs.length + ys.length := by simp
    have huni : ∀ y ∈ xs ++ ys.map (·.map AV.strip1), y.length = s1 := fun y hy => by
      rcases List.mem_append.1 hy with h | h
      · exact hux y h
      · exact hys' y h
    refine ok_of_value (hexec _ _ hr) (hn _ _ _ _ _ (hext.weaken fun _ f => f.elim) (state_alloc (F := fun _ => False) hs' hext (.tip _ _ arr e (by simp) hnewb (by rw [harrsz]; exact Nat.mul_le_mul_right _ hge))) hkeys ?_ hk)
    rw [show (Value.slice (some ⟨w.heap.size, 0, none⟩) (xs.length + ys.length) cap') = Value.slice (some ⟨w.heap.size, 0, none⟩) (xs ++ ys.map (·.map AV.strip1)).length cap' from by rw [hlen]]
    refine Rep.sl_flat huni hrel.1 (fun k u hk => ?_) hrel.2.2 (by rw [hlen]; exact hge) hle (.inr ⟨by rw [Nat.zero_mul], arr, e, hnewb, by rw [harrsz, Nat.zero_add]⟩)
    have hkl : k < (olds ++ news).length := (List.getElem?_eq_some_iff.1 hk).1
    refine ⟨?_, ?_, hrel.2.1 k u hk⟩
    · rw [Nat.zero_add, cell_of_row _ _ _ _ _ _ hnewb, ← harr]
      rw [Array.getElem?_append_left (by simpa using hkl)]
      simpa using hk
    · simp only [Prot, if_true, Nat.zero_add]
      rw [List.length_append, holen, hnl, ← Nat.add_mul] at hkl
      exact hkl
  obtain ⟨ad, cap, hv, hcap⟩ := hx.slice_form
  cases own with
  | no => exact hK.elim
  | nil =>
    obtain ⟨hK1, hK2⟩ := hK
    rw [hv] at hx
    cases hx with
    | sl _ _ _ b off _ cv hc hm hu hcell hr ho => exact ho.elim
    | sl0 _ _ _ ho => simp at ho
    | slnil _ _ _ =>
      by_cases hy : ys = []
      · subst hy
        have hr := run_append_none (P := P) t tx o.type e i ht hi x news hsrc'
        rw [hv] at hexec
        exact ok_of_value (hexec _ _ hr) (hn γ w H _ _ (.refl _ _ _) hs (NewKeys.refl _ _) (.slnil .nil _ (by simp)) (hK1 rfl))
      · have hp : 0 < ys.length := List.length_pos_iff.2 hy
        refine grown none 0 [] H hv (run_firstCells_none _ _ _ _ _) ⟨rfl, by simp, by simp⟩ (by simp) (by simp) (by simpa using hp) hs newKeys_upd (hK2 hy _ (fresh_none hs))
  | full =>
    obtain ⟨hK1, hK2⟩ := hK
    have hx0 := hx
    rw [hv] at hx
    cases hx with
    | slnil _ _ _ =>
      by_cases hy : ys = []
      · subst hy
        have hr := run_append_none (P := P) t tx o.type e i ht hi x news hsrc'
        rw [hv] at hexec
        exact ok_of_value (hexec _ _ hr) (hn γ w H _ _ (.refl _ _ _) hs (NewKeys.refl _ _) (.slnil .full _ (by simp)) (hK1 rfl))
      · have hp : 0 < ys.length := List.length_pos_iff.2 hy
        refine grown none 0 [] H hv (run_firstCells_none _ _ _ _ _) ⟨rfl, by simp, by simp⟩ (by simp) (by simp) (by simpa using hp) hs newKeys_upd (hK2 hy _ (fresh_none hs))
    | sl0 _ _ ad _ =>
      by_cases hy : ys = []
      · subst hy
        have hnil : news = [] := List.eq_nil_of_length_eq_zero (by rw [hnl]; simp)
        have hr := run_append_zero (P := P) t tx o.type e i ht hi ad 0 x news hsrc' hnil
        rw [hv] at hexec hx0
        exact ok_of_value (hexec _ _ hr) (hn γ w H _ _ (.refl _ _ _) hs (NewKeys.refl _ _) hx0 (hK1 rfl))
      · have hp : 0 < ys.length := List.length_pos_iff.2 hy
        refine grown (some ad) 0 [] H hv ?_ ⟨rfl, by simp, by simp⟩ (by simp) (by simp) (by simpa using hp) hs newKeys_upd (hK2 hy _ (fresh_none hs))
        exact run_firstCells_some w.drew i.size 0 ad 0 0 [] (by simp) (by simp)
    | sl _ _ _ b off _ cv hc hm hu hcell hr ho =>
      have hfull : xs.length = cap := ho
      by_cases hy : ys = []
      · subst hy
        have hnil : news = [] := List.eq_nil_of_length_eq_zero (by rw [hnl]; simp)
        have hr := run_append_zero (P := P) t tx o.type e i ht hi ⟨b, off, none⟩ xs.length x news hsrc' hnil
        rw [hv, ← hfull] at hexec
        rw [hv, ← hfull] at hx0
        exact ok_of_value (hexec _ _ hr) (hn γ w H _ _ (.refl _ _ _) hs (NewKeys.refl _ _) hx0 (hK1 rfl))
      · have hp : 0 < ys.length := List.length_pos_iff.2 hy
        rw [hv] at hx0
        obtain ⟨_, _, _, _, _, us, hul, hrow, hrel⟩ := hx0.flat
        have hulen : us.length = xs.length * s1 := by rw [← hul, flatten_length s1 xs hu]
        refine grown (some ⟨b, off, none⟩) cap us H hv ?_ ⟨hul, fun i u hi => (hrow i u hi).2.2, hrel⟩ hulen hu (by omega) hs newKeys_upd (hK2 hy _ (fresh_none hs))
        exact run_firstCells_some w.drew i.size xs.length ⟨b, off, none⟩ xs.length cap us (by rw [hsz]; exact hulen) (fun j u hj => by rw [addr_add]; exact (hrow j u hj).1)
  | tip b d =>
    obtain ⟨hHb, hK2⟩ := hK
    have hx0 := hx
    rw [hv] at hx
    cases hx with
    | slnil _ _ hno => exact absurd rfl (hno b d)
    | sl0 _ _ _ ho => simp at ho
    | sl _ _ _ b1 off _ cv hc hm hu hcell hr ho =>
      rw [hv] at hx0
      have hx1 := hx0
      obtain ⟨_, _, _, _, _, us, hul, hrow, hrel⟩ := hx0.flat
      have hulen : us.length = xs.length * s1 := by rw [← hul, flatten_length s1 xs hu]
      by_cases hroom : xs.length + ys.length ≤ cap
      · rcases ho with hcap0 | ⟨hadr, arr, E, hb, hasz⟩
        · -- nothing there, nothing new
          have hx00 : xs.length = 0 := by omega
          have hy00 : ys.length = 0 := by omega
          have hye : ys = [] := List.eq_nil_of_length_eq_zero hy00
          have hxe : xs = [] := List.eq_nil_of_length_eq_zero hx00
          subst hye
          subst hxe
          subst hcap0
          have hnil : news = [] := List.eq_nil_of_length_eq_zero (by rw [hnl]; simp)
          have hr := run_append_zero (P := P) t tx o.type e i ht hi ⟨b1, off, none⟩ 0 x news hsrc' hnil
          rw [hv] at hexec
          have hup : (H.del b).upd b (.tip (d + (([] : List (List AV)).length + ([] : List (List AV)).length)) s1) = H := by
            funext c
            simp only [Heap.upd, Heap.del]
            split
            · rename_i e; subst e; rw [hHb]; simp
            · rfl
          have hk := hK2 b d (by simp [Heap.del])
          rw [hup] at hk
          exact ok_of_value (hexec _ _ hr) (hn γ w H _ _ (.refl _ _ _) hs (NewKeys.refl _ _) (by simpa using hx1) hk)
        simp only [Addr.mk.injEq] at hadr
        obtain ⟨rfl, rfl, _⟩ := hadr
        have hfit : d * s1 + xs.length * i.size + news.length ≤ arr.size := by
          rw [hsz, hnl, hasz, ← Nat.add_mul, ← Nat.add_mul]
          exact Nat.mul_le_mul_right _ (by omega)
        have hrun := run_append_row (P := P) t tx o.type e i ht hi b1 (d * s1) xs.length cap arr E hb x ys.length news hsrc' hroom hfit
        rw [hv] at hexec
        rw [hsz] at hrun
        rw [hsz] at hfit
        generalize hoff : d * s1 + xs.length * s1 = off at hrun hfit
        generalize hrow' : (arr.toList.take off ++ news ++ arr.toList.drop (off + news.length)).toArray = arr' at hrun
        have htl : (arr.toList.take off).length = off := by simp; omega
        have hsz' : arr'.size = arr.size := by
          rw [← hrow']
          simp
          omega
        have hlow : ∀ k, k < off → arr'[k]? = arr[k]? := by
          intro k hk
          rw [← hrow', List.getElem?_toArray, List.append_assoc, List.getElem?_append_left (by omega), List.getElem?_take, if_pos hk]
          simp
        have hpre : ∀ k, k < (us ++ news).length → arr'[d * s1 + k]? = (us ++ news)[k]? := by
          intro k hk
          rcases Nat.lt_or_ge k us.length with hku | hku
          · rw [List.getElem?_append_left hku, hlow _ (by omega)]
            have := (hrow k us[k] (List.getElem?_eq_getElem hku)).1
            rw [cell_of_row w b1 _ arr E _ hb] at this
            rw [List.getElem?_eq_getElem hku, ← this]
          · rw [List.length_append] at hk
            rw [List.getElem?_append_right hku, ← hrow', List.getElem?_toArray, List.append_assoc, List.getElem?_append_right (by omega), htl, List.getElem?_append_left (by omega)]
            congr 1
            omega
        have hk : γ b1 = .buf ((d + xs.length) * s1) := by
          cases hs b1 _ hHb with
          | tip _ _ _ _ hk _ _ => exact hk
        have hext : Ext (fun c => c = b1) γ w (fun c => if c = b1 then .buf ((d + (xs.length + ys.length)) * s1) else γ c) (w.setRow b1 arr') :=
          ext_setRow hb hsz' rfl (fun q hq => by
            simp only [Prot, hk] at hq
            rw [Nat.add_mul, hoff] at hq
            refine ⟨?_, hlow q hq⟩
            simp only [Prot, if_true]
            rw [Nat.add_mul, Nat.add_mul]; omega) (fun c hc => by simp [hc])
        have hself := setRow_get w b1 arr' arr E _ hb
        have hrel' : fillRel (fun c => if c = b1 then .buf ((d + (xs.length + ys.length)) * s1) else γ c) (w.setRow b1 arr') (xs ++ ys.map (·.map AV.strip1)).flatten (us ++ news) := by
          rw [List.flatten_append]
          have h0 := fillRel.append (γ := γ) (w := w) ⟨hul, fun i u hi => (hrow i u hi).2.2, hrel⟩ hnews'
          exact ⟨h0.1, h0.2.1, fun i c u hc hu => (h0.2.2 i c u hc hu).mono hext.mono⟩
        have hlen : (xs ++ ys.map (·.map AV.strip1)).length = xs.length + ys.length := by simp
        have huni : ∀ y ∈ xs ++ ys.map (·.map AV.strip1), y.length = s1 := fun y hy => by
          rcases List.mem_append.1 hy with h | h
          · exact hu y h
          · exact hys' y h
        refine ok_of_value (hexec _ _ hrun) (hn _ _ _ _ _ (hext.weaken fun c e => by subst e; simp [keysOf, hHb])
          (state_upd (state_del hs b1) hext (.tip _ _ arr' E (by simp) hself (by rw [hsz', hasz]; exact Nat.mul_le_mul_right _ (by omega)))) (newKeys_del (by simp [hHb]) (.inl rfl)) ?_ (hK2 b1 d (by simp [Heap.del])))
        rw [show (Value.slice (some ⟨b1, d * s1, none⟩) (xs.length + ys.length) cap) = Value.slice (some ⟨b1, d * s1, none⟩) (xs ++ ys.map (·.map AV.strip1)).length cap from by rw [hlen]]
        refine Rep.sl_flat huni hrel'.1 (fun k u hk' => ?_) hrel'.2.2 (by rw [hlen]; exact hroom) hm (.inr ⟨rfl, arr', E, hself, by rw [hsz', hasz]⟩)
        have hkl : k < (us ++ news).length := (List.getElem?_eq_some_iff.1 hk').1
        refine ⟨?_, ?_, hrel'.2.1 k u hk'⟩
        · rw [cell_of_row _ _ _ _ _ _ hself, hpre k hkl]
          exact hk'
        · simp only [Prot, if_true]
          rw [List.length_append, hulen, hnl, ← Nat.add_mul] at hkl
          rw [Nat.add_mul]
          omega
      · have hk3 := hK2 w.heap.size 0 (by
          unfold Heap.del; split
          · rfl
          · exact fresh_none hs)
        rw [Nat.zero_add] at hk3
        refine grown (some ⟨b1, off, none⟩) cap us (H.del b) hv ?_ ⟨hul, fun i u hi => (hrow i u hi).2.2, hrel⟩ hulen hu (by omega) (state_del hs b) (newKeys_del (by simp [hHb]) (.inr (Nat.le_refl _))) hk3
        exact run_firstCells_some w.drew i.size xs.length ⟨b1, off, none⟩ xs.length cap us (by rw [hsz]; exact hulen) (fun j u hj => by rw [addr_add]; exact (hrow j u hj).1)

theorem app_ok {P : Program} {o : Oper} {t tx e ex : TypeId} {x y : Operand} {x' y' : Opd} {i : TypeInfo} {z : Value} {sz bytes : Nat} (ho : o.op = .call { callee := .builtin .append, args := #[x, y], argTypes := #[t, tx] }) (h : chkO x x' = true) (h2 : chkO y y' = true)
    (ht : P.underlying t = some (.slice e)) (htx : P.underlying tx = some (.slice ex)) (hi : P.info? e = some i) (hz : i.zero = some z) (hsz : i.size = sz) (hby : i.bytes = bytes) (hzs : z.cells.size = sz) (hpos : 0 < sz) : OpOk P o (.app sz bytes x' y') := by
  intro γ w H ρ a K KP next Q he hs hop hn hp
  simp only [aop, AOp.cls, eff] at hop
  have r1 := chkO_rep h he
  have r2 := chkO_rep h2 he
  cases hx : x'.ev ρ <;> rw [hx] at hop r1 <;> try (exact False.elim hop)
  cases hy : y'.ev ρ <;> rw [hy] at hop r2 <;> try (exact False.elim hop)
  rename_i own s1 xs own' s2 ys
  have hs2 : s2 = sz := hop.2.1
  subst hs2
  obtain ⟨news, hsrc, hnews, hys⟩ := src_of_rep (P := P) htx r2
  refine append_law ht hi hz hsz hby hzs hpos r1 hsrc hnews hys hs hop (fun r w' hr => ?_) hn
  simp [execOp, ho, resolve, invoke, builtin, hr]

theorem apps_ok {P : Program} {o : Oper} {t tx e : TypeId} {x y : Operand} {x' y' : Opd} {i : TypeInfo} {z : Value} (ho : o.op = .call { callee := .builtin .append, args := #[x, y], argTypes := #[t, tx] }) (h : chkO x x' = true) (h2 : chkO y y' = true)
    (ht : P.underlying t = some (.slice e)) (htx : P.underlying tx = some .string) (hi : P.info? e = some i) (hz : i.zero = some z) (hsz : i.size = 1) (hby : i.bytes = 1) (hzs : z.cells.size = 1) : OpOk P o (.apps x' y') := by
  intro γ w H ρ a K KP next Q he hs hop hn hp
  simp only [aop, AOp.cls, eff] at hop
  have r1 := chkO_rep h he
  have r2 := chkO_rep h2 he
  cases hy : y'.ev ρ <;> rw [hy] at hop r2 <;> try (exact False.elim hop)
  rename_i s
  simp only [] at hop
  generalize hv : a.eval y = v at r2
  cases r2
  cases hx : x'.ev ρ <;> rw [hx] at hop r1 <;> try (exact False.elim hop)
  rename_i own s1 xs
  obtain ⟨news, hsrc, hnews, hys⟩ := src_of_str (P := P) (γ := γ) (w := w) htx s
  refine append_law ht hi hz hsz hby hzs (by omega) r1 hsrc hnews hys hs hop (fun r w' hr => ?_) hn
  simp [execOp, ho, resolve, invoke, builtin, hv, hr]

/-! ## maps -/

/-- The type of a map's keys. -/
def keyTy (P : Program) (t : TypeId) (kt : KT) : Bool :=
  match kt with
  | .one k => k.isTy P t
  | .agg ks => match P.underlying t with
    | some (.struct fs) => flatKs P fs.toList 0 ks && !P.stoodInHeld t
    | _ => false

theorem conc1_rep {c : AV} {v : Value} (h : c.conc1 = some v) (γ : Gh) (w : World) : Rep γ w c v := by
  cases c <;> simp only [AV.conc1, Option.some.injEq] at h <;> try (cases h; done)
  · subst h; exact .bool _
  · subst h; exact .int _ _
  · subst h; exact .str _

theorem conc1_one {c : AV} {v : Value} (h : c.conc1 = some v) : v.oneCell' = true := by
  cases c <;> simp only [AV.conc1, Option.some.injEq] at h <;> first | (cases h; done) | (subst h; rfl)

theorem concs_rep : ∀ {cs : List AV} {vs : List Value}, concs cs = some vs → ∀ (γ : Gh) (w : World), fillRel γ w cs vs
  | [], vs, h, γ, w => by simp only [concs, Option.some.injEq] at h; subst h; exact ⟨rfl, by simp, by simp⟩
  | c :: cs, vs, h, γ, w => by
    unfold concs at h
    cases h1 : c.conc1 with
    | none => simp [h1] at h
    | some v =>
      cases h2 : concs cs with
      | none => simp [h1, h2] at h
      | some us =>
        simp only [h1, h2, Option.some.injEq] at h
        subst h
        have ih := concs_rep h2 γ w
        have hone : fillRel γ w [c] [v] := ⟨rfl, fun i u hu => by
          cases i with
          | zero => simp at hu; subst hu; exact conc1_one h1
          | succ i => simp at hu, fun i d u hd hu => by
          cases i with
          | zero => simp at hd hu; subst hd; subst hu; exact conc1_rep h1 γ w
          | succ i => simp at hd⟩
        exact hone.append ih

theorem conc_rep {c : AV} {v : Value} (h : c.conc = some v) (γ : Gh) (w : World) : Rep γ w c v := by
  cases c with
  | agg cs =>
    simp only [AV.conc, Option.map_eq_some_iff] at h
    obtain ⟨vs, hvs, rfl⟩ := h
    have := concs_rep hvs γ w
    exact .agg _ _ this.1 this.2.1 this.2.2
  | _ => (simp only [AV.conc] at h; exact conc1_rep h γ w)

theorem rep_conc1 {c : AV} {v : Value} {k : K1} {γ : Gh} {w : World} (hf : k.fits c = true) (h : Rep γ w c v) : c.conc1 = some v := by
  cases k <;> cases c <;> simp [K1.fits] at hf <;> cases h <;> rfl

theorem rep_concs {γ : Gh} {w : World} : ∀ {ks : List K1} {cs : List AV} {vs : List Value}, fitsAll ks cs = true → cs.length = vs.length → (∀ (i : Nat) (c : AV) (v : Value), cs[i]? = some c → vs[i]? = some v → Rep γ w c v) → concs cs = some vs
  | _, [], [], _, _, _ => rfl
  | _, [], _ :: _, _, h, _ => by simp at h
  | _, _ :: _, [], _, h, _ => by simp at h
  | [], _ :: _, _ :: _, h, _, _ => by simp [fitsAll] at h
  | k :: ks, c :: cs, v :: vs, hf, hl, hr => by
    simp only [fitsAll, Bool.and_eq_true] at hf
    have h1 := rep_conc1 hf.1 (hr 0 c v rfl rfl)
    have h2 := rep_concs hf.2 (by simpa using hl) (fun i c v hc hv => hr (i + 1) c v (by simpa using hc) (by simpa using hv))
    simp [concs, h1, h2]

theorem rep_conc {c : AV} {v : Value} {kt : KT} {γ : Gh} {w : World} (hf : kt.fits c = true) (h : Rep γ w c v) : c.conc = some v := by
  cases kt with
  | one k =>
    have := rep_conc1 (k := k) hf h
    cases c <;> first | exact this | (cases k <;> simp [KT.fits, K1.fits] at hf)
  | agg ks =>
    cases c <;> simp [KT.fits] at hf
    cases h with
    | agg _ vs hl h1 hr => simp [AV.conc, rep_concs hf hl hr]

theorem keq_one {c d : AV} {k : K1} (h : k.fits c = true) : c.keq d = c.keq1 d := by
  cases k <;> cases c <;> simp [K1.fits] at h <;> cases d <;> rfl

/-- Two keys held against each other. -/
theorem keq_run {P : Program} {w : World} {kt : KT} {t : TypeId} {c d : AV} {u v : Value} (hk : keyTy P t kt = true) (hc : kt.fits c = true) (hd : kt.fits d = true) (hu : c.conc = some u) (hv : d.conc = some v) :
    (Op.equal t u v).run P w = .ok (c.keq d) w := by
  have γ : Gh := fun _ => .imm
  have rc := conc_rep hu γ w
  have rd := conc_rep hv γ w
  unfold Op.equal Op.maxDepth
  cases kt with
  | one k => rw [keq_one (k := k) hc]; exact keq1_run hk hc hd rc rd 9999
  | agg ks =>
    cases c <;> simp [KT.fits] at hc
    cases d <;> simp [KT.fits] at hd
    rename_i as bs
    unfold keyTy at hk
    simp only at hk
    cases hd' : P.underlying t with
    | none => simp [hd'] at hk
    | some ds =>
      cases ds <;> simp only [hd'] at hk <;> try (cases hk; done)
      rename_i fs
      simp only [Bool.and_eq_true, Bool.not_eq_true'] at hk
      cases rc with
      | agg _ vs hl h1 hr =>
        cases rd with
        | agg _ us hl' h1' hr' =>
          have hfo : P.fieldsOf t = fs := by simp [Program.fieldsOf, hd']
          rw [run_equalIn_struct w 9999 t _ _ (by rw [hfo]; exact hd') hk.2, hfo]
          exact eqFields_run (γ := γ) 9998 _ _ fs.toList 0 ks as bs hk.1 hc hd
            (fun i c hc => by
              have hi : i < vs.length := by rw [← hl]; exact (List.getElem?_eq_some_iff.1 hc).1
              exact ⟨vs[i], by simp [hi], hr i c _ hc (List.getElem?_eq_getElem hi)⟩)
            (fun i c hc => by
              have hi : i < us.length := by rw [← hl']; exact (List.getElem?_eq_some_iff.1 hc).1
              exact ⟨us[i], by simp [hi], hr' i c _ hc (List.getElem?_eq_getElem hi)⟩)

/-- Where a key stands. -/
def mfind (es : List (AV × AV)) (k : AV) : Option Nat :=
  match es with
  | [] => none
  | (a, _) :: r => if k.keq a then some 0 else (mfind r k).map (· + 1)

theorem findAsking_run {P : Program} {w : World} {γ : Gh} {kt : KT} {t : TypeId} {k : AV} {kv : Value} (hk : keyTy P t kt = true) (hf : kt.fits k = true) (hkv : k.conc = some kv) : ∀ (es : List (AV × AV)) (cs : List MapEntry) (n : Nat),
    es.length = cs.length → (∀ x ∈ es, kt.fits x.1 = true) → (∀ (i : Nat) (x : AV × AV) (e : MapEntry), es[i]? = some x → cs[i]? = some e → EntryRel γ w x e) →
    (Instr.findAsking t kv cs n).run P w = .ok ((mfind es k).map fun i => (n + i, (cs.getD i default).val)) w
  | [], [], n, _, _, _ => rfl
  | [], _ :: _, _, h, _, _ => by simp at h
  | _ :: _, [], _, h, _, _ => by simp at h
  | x :: es, e :: cs, n, hl, hfit, hr => by
    have hx := hr 0 x e rfl rfl
    have he := keq_run (w := w) hk hf (hfit x (List.mem_cons_self ..)) hkv hx.key
    have ih := findAsking_run hk hf hkv es cs (n + 1) (by simpa using hl) (fun y hy => hfit y (List.mem_cons_of_mem _ hy)) (fun i y e' hy he' => hr (i + 1) y e' (by simpa using hy) (by simpa using he'))
    simp only [Instr.findAsking, Sem.run_bind, he, Result.andThen_ok, mfind]
    cases hq : k.keq x.1
    · simp only [Bool.false_eq_true, if_false, ih]
      cases mfind es k with
      | none => rfl
      | some i => simp; omega
    · simp

theorem sameNow_run {P : Program} {w : World} {t : TypeId} {d : TypeDesc} (hd : P.underlying t = some d) {u v : Value} {b : Bool} (hb : Instr.sameNow d u v = some b) : (Op.equal t u v).run P w = .ok b w := by
  unfold Instr.sameNow at hb
  unfold Op.equal Op.maxDepth
  rw [Op.equalIn]
  split at hb
  · split at hb
    · rename_i hkk
      simp only [Option.some.injEq] at hb
      simp [run_underlying hd, hkk, hb]
    · cases hb
  · simp only [Option.some.injEq] at hb
    simp [run_underlying hd, hb]
  · simp only [Option.some.injEq] at hb
    simp [run_underlying hd, hb]
  · cases hb

theorem findNow_run {P : Program} {w : World} {γ : Gh} {kt : KT} {t : TypeId} {d : TypeDesc} {k : AV} {kv : Value} (hd : P.underlying t = some d) (hk : keyTy P t kt = true) (hf : kt.fits k = true) (hkv : k.conc = some kv) : ∀ (es : List (AV × AV)) (cs : List MapEntry) (n : Nat) (r : Option (Nat × Value)),
    es.length = cs.length → (∀ x ∈ es, kt.fits x.1 = true) → (∀ (i : Nat) (x : AV × AV) (e : MapEntry), es[i]? = some x → cs[i]? = some e → EntryRel γ w x e) →
    Instr.findNow d kv cs n = some r → r = (mfind es k).map fun i => (n + i, (cs.getD i default).val)
  | [], [], n, r, _, _, _, h => by simp only [Instr.findNow, Option.some.injEq] at h; subst h; rfl
  | [], _ :: _, _, _, h, _, _, _ => by simp at h
  | _ :: _, [], _, _, h, _, _, _ => by simp at h
  | x :: es, e :: cs, n, r, hl, hfit, hr, h => by
    have hx := hr 0 x e rfl rfl
    have he := keq_run (w := w) hk hf (hfit x (List.mem_cons_self ..)) hkv hx.key
    simp only [Instr.findNow] at h
    have hsame : ∀ b, Instr.sameNow d kv e.key = some b → k.keq x.1 = b := by
      intro b hb
      have h2 := sameNow_run (P := P) (w := w) hd hb
      rw [he] at h2
      simpa using h2
    cases hs : Instr.sameNow d kv e.key with
    | none => simp [hs] at h
    | some b =>
      have hq := hsame b hs
      cases b
      · simp only [hs] at h
        have ih := findNow_run hd hk hf hkv es cs (n + 1) r (by simpa using hl) (fun y hy => hfit y (List.mem_cons_of_mem _ hy)) (fun i y e' hy he' => hr (i + 1) y e' (by simpa using hy) (by simpa using he')) h
        rw [ih]
        simp only [mfind, hq, Bool.false_eq_true, if_false]
        cases mfind es k with
        | none => rfl
        | some i => simp; omega
      · simp only [hs, Option.some.injEq] at h
        subst h
        simp [mfind, hq]

theorem findKey_run {P : Program} {w : World} {γ : Gh} {kt : KT} {t : TypeId} {d : TypeDesc} {k : AV} {kv : Value} (hd : P.underlying t = some d) (hk : keyTy P t kt = true) (hf : kt.fits k = true) (hkv : k.conc = some kv) (es : List (AV × AV)) (cs : List MapEntry)
    (hl : es.length = cs.length) (hfit : ∀ x ∈ es, kt.fits x.1 = true) (hr : ∀ (i : Nat) (x : AV × AV) (e : MapEntry), es[i]? = some x → cs[i]? = some e → EntryRel γ w x e) :
    (Instr.findKey t kv cs).run P w = .ok ((mfind es k).map fun i => (i, (cs.getD i default).val)) w := by
  unfold Instr.findKey
  rw [Sem.run_bind, run_underlying hd w]
  simp only [Result.andThen_ok]
  cases h : Instr.findNow d kv cs 0 with
  | some r =>
    have := findNow_run (γ := γ) (w := w) hd hk hf hkv es cs 0 r hl hfit hr h
    simp [this]
  | none =>
    have := findAsking_run (P := P) (w := w) (γ := γ) hk hf hkv es cs 0 hl hfit hr
    simpa using this

theorem mfind_none : ∀ {es : List (AV × AV)} {k : AV}, mfind es k = none → mget es k = none ∧ ∀ v, mset es k v = es ++ [(k, v)]
  | [], _, _ => ⟨rfl, fun _ => rfl⟩
  | (a, u) :: es, k, h => by
    unfold mfind at h
    split at h
    · cases h
    · rename_i hq
      have ih := mfind_none (es := es) (k := k) (by simpa using h)
      exact ⟨by unfold mget; simp [hq, ih.1], fun v => by unfold mset; simp [hq, ih.2 v]⟩

theorem mfind_some : ∀ {es : List (AV × AV)} {k : AV} {i : Nat}, mfind es k = some i → ∃ x, es[i]? = some x ∧ mget es k = some x.2 ∧ k.keq x.1 = true ∧ ∀ v, mset es k v = es.set i (k, v)
  | [], _, _, h => by simp [mfind] at h
  | (a, u) :: es, k, i, h => by
    unfold mfind at h
    split at h
    · rename_i hq
      simp only [Option.some.injEq] at h
      subst h
      exact ⟨(a, u), rfl, by unfold mget; simp [hq], hq, fun v => by unfold mset; simp [hq]⟩
    · rename_i hq
      simp only [Option.map_eq_some_iff] at h
      obtain ⟨j, hj, rfl⟩ := h
      obtain ⟨x, h1, h2, h3, h4⟩ := mfind_some (es := es) (k := k) hj
      exact ⟨x, by simpa using h1, by unfold mget; simp [hq, h2], h3, fun v => by unfold mset; simp [hq, h4 v]⟩

theorem isTy_checkKey {P : Program} {k : K1} {t : TypeId} (h : k.isTy P t = true) (empty : Bool) (n : Nat) (v : Value) (w : World) : (Instr.checkKey empty (n + 1) t v).run P w = .ok () w := by
  cases hd : P.underlying t with
  | none => cases k <;> simp [K1.isTy, hd] at h
  | some d =>
    unfold Instr.checkKey
    rw [Sem.run_bind, run_underlying hd w]
    cases k <;> cases d <;> simp_all [K1.isTy]

theorem checkKey_fields {P : Program} {w : World} {empty : Bool} (n : Nat) (xs : Array Value) : ∀ (fs : List Field) (off : Nat) (ks : List K1), flatKs P fs off ks = true → off + ks.length ≤ xs.size →
    (forIn fs PUnit.unit fun f _ => (if f.name ≠ "_" then do
        let __do_lift ← part f.type xs f.offset
        Instr.checkKey empty (n + 1) f.type __do_lift
        pure (ForInStep.yield PUnit.unit)
      else pure (ForInStep.yield PUnit.unit) : Sem (ForInStep PUnit))).run P w = .ok PUnit.unit w
  | [], _, _, _, _ => by simp
  | _ :: _, _, [], h, _ => by simp [flatKs] at h
  | f :: fs, off, k :: ks, hf, hl => by
    simp only [flatKs, Bool.and_eq_true, bne_iff_ne, ne_eq, beq_iff_eq] at hf
    obtain ⟨⟨⟨hname, hoff⟩, hty⟩, hrest⟩ := hf
    simp only [List.length_cons] at hl
    have ih := checkKey_fields (P := P) (w := w) (empty := empty) n xs fs (off + 1) ks hrest (by omega)
    have hlt : off < xs.size := by omega
    have p1 : (part f.type xs f.offset).run P w = .ok xs[off] w := by simp [part, isTy_isAgg hty, hoff, hlt]
    simp only [List.forIn_cons, ne_eq, hname, not_false_eq_true, if_true, Sem.run_bind, p1, Result.andThen_ok, isTy_checkKey hty empty n _ w, Sem.run_pure]
    simpa using ih

theorem fitsAll_length : ∀ {ks : List K1} {cs : List AV}, fitsAll ks cs = true → cs.length = ks.length
  | [], [], _ => rfl
  | [], _ :: _, h => by simp [fitsAll] at h
  | _ :: _, [], h => by simp [fitsAll] at h
  | _ :: ks, _ :: cs, h => by simp only [fitsAll, Bool.and_eq_true] at h; simp [fitsAll_length h.2]

theorem checkKey_run {P : Program} {w : World} {γ : Gh} {kt : KT} {t : TypeId} {k : AV} {kv : Value} (hk : keyTy P t kt = true) (hf : kt.fits k = true) (hkv : Rep γ w k kv) (empty : Bool) : (Instr.checkKey empty 10000 t kv).run P w = .ok () w := by
  cases kt with
  | one k1 => exact isTy_checkKey hk empty 9999 kv w
  | agg ks =>
    cases k <;> simp [KT.fits] at hf
    unfold keyTy at hk
    simp only at hk
    cases hd : P.underlying t with
    | none => simp [hd] at hk
    | some ds =>
      cases ds <;> simp only [hd] at hk <;> try (cases hk; done)
      rename_i cs fs
      simp only [Bool.and_eq_true, Bool.not_eq_true'] at hk
      cases hkv with
      | agg _ vs hl h1 hr =>
        unfold Instr.checkKey
        rw [Sem.run_bind, run_underlying hd w]
        simp only [Result.andThen_ok]
        have := checkKey_fields (P := P) (w := w) (empty := empty) 9998 vs.toArray fs.toList 0 ks hk.1 (by simp [← hl, fitsAll_length hf])
        rw [← Array.forIn_toList]
        simpa using this

theorem rep_of_chkC {v : Value} {c : AV} (h : chkC v c = true) (γ : Gh) (w : World) : Rep γ w c v := chkC_rep h γ w

theorem lkp_ok {P : Program} {o : Oper} {t key elem : TypeId} {m k : Operand} {m' k' : Opd} {ok : Bool} {kt : KT} {d : TypeDesc} {ei : TypeInfo} {z : Value} {zero : AV} (ho : o.op = .lookup t m k ok) (hm : chkO m m' = true) (hk : chkO k k' = true)
    (ht : P.underlying t = some (.map key elem)) (hkt : keyTy P key kt = true) (hd : P.underlying key = some d) (hei : P.info? elem = some ei) (hz : ei.zero = some z) (hzero : chkC z zero = true) : ReadOk P o (.lkp kt zero ok m' k') := by
  intro γ w H ρ a c he hs hc
  have r1 := chkO_rep hm he
  have r2 := chkO_rep hk he
  simp only [rev] at hc
  split at hc
  · rename_i hfit
    have hck := fun empty => checkKey_run (P := P) hkt hfit r2 empty
    have hzr := chkC_rep hzero γ w
    cases hx : m'.ev ρ <;> simp only [hx] at hc r1 <;> try (cases hc; done)
    · simp only [Option.some.injEq] at hc
      subst hc
      generalize hv : a.eval m = v at r1
      cases r1
      have hfk : (Instr.findKey key (a.eval k) []).run P w = .ok none w := findKey_run (γ := γ) hd hkt hfit (rep_conc hfit r2) [] [] rfl (by simp) (by simp)
      cases ok with
      | true =>
        refine ⟨.tuple #[z, .bool false], ?_, ?_⟩
        · simp [execOp, ho, hv, Instr.lookup, run_underlying ht, hck, hfk, zeroValue, typeInfo, hei, hz]
        · simp only [lkres, if_true, Option.getD_none, Option.isSome_none]
          exact .tup _ [z, .bool false] rfl (RepAll.cons hzr (RepAll.cons (.bool _) RepAll.nil)).2
      | false =>
        refine ⟨z, ?_, ?_⟩
        · simp [execOp, ho, hv, Instr.lookup, run_underlying ht, hck, hfk, zeroValue, typeInfo, hei, hz]
        · simpa [lkres] using hzr
    · rename_i b
      cases hb : H b with
      | none => simp [hb] at hc
      | some ob =>
        cases ob <;> simp only [hb] at hc <;> try (cases hc; done)
        rename_i kt' es
        split at hc
        · rename_i hkk
          subst hkk
          simp only [Option.some.injEq] at hc
          subst hc
          generalize hv : a.eval m = v at r1
          cases r1
          cases hs b _ hb with
          | map _ _ cs clock hff hgk hbb hl hr =>
            have hfk := findKey_run (P := P) (w := w) (γ := γ) hd hkt hfit (rep_conc hfit r2) es cs hl hff hr
            have hobj : (getObj b).run P w = .ok (.map cs.toArray clock) w := by simp [getObj, Sem.run, hbb]
            cases hmf : mfind es (k'.ev ρ) with
            | none =>
              have hg := (mfind_none hmf).1
              rw [hmf] at hfk
              simp only [Option.map_none] at hfk
              rw [hg]
              cases ok with
              | true =>
                refine ⟨.tuple #[z, .bool false], ?_, ?_⟩
                · simp [execOp, ho, hv, Instr.lookup, run_underlying ht, hobj, hck, hfk, zeroValue, typeInfo, hei, hz]
                · simp only [lkres, if_true, Option.getD_none, Option.isSome_none]
                  exact .tup _ [z, .bool false] rfl (RepAll.cons hzr (RepAll.cons (.bool _) RepAll.nil)).2
              | false =>
                refine ⟨z, ?_, ?_⟩
                · simp [execOp, ho, hv, Instr.lookup, run_underlying ht, hobj, hck, hfk, zeroValue, typeInfo, hei, hz]
                · simpa [lkres] using hzr
            | some i =>
              obtain ⟨x, hxi, hg, _, _⟩ := mfind_some hmf
              rw [hmf] at hfk
              simp only [Option.map_some] at hfk
              rw [hg]
              have hi : i < cs.length := by rw [← hl]; exact (List.getElem?_eq_some_iff.1 hxi).1
              have hci : cs[i]? = some cs[i] := List.getElem?_eq_getElem hi
              have hgd : (cs.getD i default) = cs[i] := by simp [List.getD, hci]
              rw [hgd] at hfk
              have hval := (hr i x _ hxi hci).val
              cases ok with
              | true =>
                refine ⟨.tuple #[cs[i].val, .bool true], ?_, ?_⟩
                · simp [execOp, ho, hv, Instr.lookup, run_underlying ht, hobj, hck, hfk]
                · simp only [lkres, if_true, Option.getD_some, Option.isSome_some]
                  exact .tup _ [cs[i].val, .bool true] rfl (RepAll.cons hval (RepAll.cons (.bool _) RepAll.nil)).2
              | false =>
                refine ⟨cs[i].val, ?_, ?_⟩
                · simp [execOp, ho, hv, Instr.lookup, run_underlying ht, hobj, hck, hfk]
                · simpa [lkres] using hval
        · cases hc
  · cases hc

theorem lenm_ok {P : Program} {o : Oper} {t key elem : TypeId} {ts : Array TypeId} {x : Operand} {x' : Opd} (ho : o.op = .call { callee := .builtin .len, args := #[x], argTypes := ts }) (hts : ts[0]? = some t) (h : chkO x x' = true)
    (ht : P.underlying t = some (.map key elem)) : ReadOk P o (.lenm x') := by
  intro γ w H ρ a c he hs hc
  have r1 := chkO_rep h he
  simp only [rev] at hc
  cases hx : x'.ev ρ <;> simp only [hx] at hc r1 <;> try (cases hc; done)
  · simp only [Option.some.injEq] at hc
    subst hc
    generalize hv : a.eval x = v at r1
    cases r1
    exact ⟨.int .i64 0, len_pre ho hv (by simp [Builtin.len_, hts, run_underlying ht, goInt]), .int _ _⟩
  · rename_i b
    cases hb : H b with
    | none => simp [hb] at hc
    | some ob =>
      cases ob <;> simp only [hb] at hc <;> try (cases hc; done)
      rename_i kt es
      simp only [Option.some.injEq] at hc
      subst hc
      generalize hv : a.eval x = v at r1
      cases r1
      cases hs b _ hb with
      | map _ _ cs clock hff hgk hbb hl hr =>
        have hobj : (getObj b).run P w = .ok (.map cs.toArray clock) w := by simp [getObj, Sem.run, hbb]
        exact ⟨.int .i64 es.length, len_pre ho hv (by simp [Builtin.len_, hts, run_underlying ht, goInt, hobj, hl]), .int _ _⟩

theorem keq1_conc {k : K1} {c d : AV} (hc : k.fits c = true) (hd : k.fits d = true) (h : c.keq1 d = true) : c.conc1 = d.conc1 := by
  cases k <;> cases c <;> simp [K1.fits] at hc <;> cases d <;> simp [K1.fits] at hd <;> simp [AV.keq1] at h
  · subst h; rfl
  · subst h; rfl
  · subst h; subst hc; subst hd; rfl

theorem keqs_concs : ∀ {ks : List K1} {cs ds : List AV}, fitsAll ks cs = true → fitsAll ks ds = true → keqs cs ds = true → concs cs = concs ds
  | [], [], [], _, _, _ => rfl
  | [], _ :: _, _, h, _, _ => by simp [fitsAll] at h
  | [], [], _ :: _, _, h, _ => by simp [fitsAll] at h
  | _ :: _, [], _, h, _, _ => by simp [fitsAll] at h
  | _ :: _, _ :: _, [], _, h, _ => by simp [fitsAll] at h
  | k :: ks, c :: cs, d :: ds, hc, hd, h => by
    simp only [fitsAll, Bool.and_eq_true] at hc hd
    simp only [keqs, Bool.and_eq_true] at h
    unfold concs
    rw [keq1_conc hc.1 hd.1 h.1, keqs_concs hc.2 hd.2 h.2]

theorem keq_conc {kt : KT} {c d : AV} (hc : kt.fits c = true) (hd : kt.fits d = true) (h : c.keq d = true) : c.conc = d.conc := by
  cases kt with
  | one k =>
    rw [keq_one (k := k) hc] at h
    have := keq1_conc (k := k) hc hd h
    cases k <;> cases c <;> simp [KT.fits, K1.fits] at hc <;> cases d <;> simp [KT.fits, K1.fits] at hd <;> exact this
  | agg ks =>
    cases c <;> simp [KT.fits] at hc
    cases d <;> simp [KT.fits] at hd
    simp only [AV.conc]
    rw [keqs_concs hc hd h]

theorem sameBits_conc1 {c : AV} {v : Value} (h : c.conc1 = some v) (n : Nat) : Instr.sameBits n v v = true := by
  cases c <;> simp only [AV.conc1, Option.some.injEq] at h <;> first | (cases h; done) | (subst h; cases n <;> simp [Instr.sameBits, beq_toListBytes])

theorem sameBits_concs : ∀ {cs : List AV} {vs : List Value}, concs cs = some vs → ∀ n, (vs.zip vs).all (fun (x, y) => Instr.sameBits n x y) = true
  | [], vs, h, n => by simp only [concs, Option.some.injEq] at h; subst h; rfl
  | c :: cs, vs, h, n => by
    unfold concs at h
    cases h1 : c.conc1 with
    | none => simp [h1] at h
    | some v =>
      cases h2 : concs cs with
      | none => simp [h1, h2] at h
      | some us =>
        simp only [h1, h2, Option.some.injEq] at h
        subst h
        simp only [List.zip_cons_cons, List.all_cons, sameBits_conc1 h1 n, Bool.true_and]
        exact sameBits_concs h2 n

theorem sameBits_conc {c : AV} {v : Value} (h : c.conc = some v) : Instr.sameBits 10000 v v = true := by
  cases c with
  | agg cs =>
    simp only [AV.conc, Option.map_eq_some_iff] at h
    obtain ⟨vs, hvs, rfl⟩ := h
    have := sameBits_concs hvs 9999
    show (vs.toArray.size == vs.toArray.size && (vs.toArray.toList.zip vs.toArray.toList).all fun (x, y) => Instr.sameBits 9999 x y) = true
    simpa using this
  | _ => (simp only [AV.conc] at h; exact sameBits_conc1 h 10000)

/-- A map is written. -/
theorem ext_setMap {γ : Gh} {w : World} {b : Nat} {es es' : Array MapEntry} {clock clock' : Nat} (hb : w.heap[b]? = some (.map es clock)) :
    Ext (fun c => c = b) γ w γ { w with heap := w.heap.setIfInBounds b (.map es' clock') } ∧ ({ w with heap := w.heap.setIfInBounds b (.map es' clock') } : World).heap[b]? = some (.map es' clock') := by
  have hlt : b < w.heap.size := (Array.getElem?_eq_some_iff.1 hb).1
  have hother : ∀ c, c ≠ b → (w.heap.setIfInBounds b (.map es' clock'))[c]? = w.heap[c]? := fun c hc => by rw [Array.getElem?_setIfInBounds_ne (Ne.symm hc)]
  have hself : (w.heap.setIfInBounds b (.map es' clock'))[b]? = some (.map es' clock') := by simp [hlt]
  refine ⟨⟨⟨by simp, fun c o v hc hp => ⟨hp, ?_⟩, fun c arr E fr hc => ?_⟩, rfl, rfl, fun a _ => ?_, fun c hc hn => ⟨rfl, hother c hn⟩⟩, hself⟩
  · have hcb : c ≠ b := fun e => by subst e; simp [World.cell?, hb] at hc
    simp only [World.cell?] at hc ⊢
    rw [hother c hcb]; exact hc
  · have hcb : c ≠ b := fun e => by subst e; rw [hb] at hc; simp at hc
    exact ⟨arr, (hother c hcb).trans hc, rfl⟩
  · by_cases hcb : a.block = b
    · simp only [World.frozen?, hcb, hself, hb]
    · simp only [World.frozen?, hother _ hcb]

theorem mup_ok {P : Program} {o : Oper} {t key elem : TypeId} {m k x : Operand} {m' k' x' : Opd} {kt : KT} {d : TypeDesc} (ho : o.op = .mapUpdate t m k x ∨ o.op = .insert t m k x) (hm : chkO m m' = true) (hk : chkO k k' = true) (hx' : chkO x x' = true)
    (ht : P.underlying t = some (.map key elem)) (hkt : keyTy P key kt = true) (hd : P.underlying key = some d) : OpOk P o (.mup kt m' k' x') := by
  intro γ w H ρ a K KP next Q he hs hop hn hp
  simp only [aop, AOp.cls, eff] at hop
  have r1 := chkO_rep hm he
  have r2 := chkO_rep hk he
  have r3 := chkO_rep hx' he
  cases hx : m'.ev ρ <;> simp only [hx] at hop r1 <;> try (exact False.elim hop)
  rename_i b
  cases hb : H b with
  | none => simp [hb] at hop
  | some ob =>
    cases ob <;> simp only [hb] at hop <;> try (exact False.elim hop)
    rename_i kt' es
    obtain ⟨rfl, hfit, hK⟩ := hop
    have hck := fun empty => checkKey_run (P := P) hkt hfit r2 empty
    have hconc := rep_conc hfit r2
    generalize hv : a.eval m = v at r1
    cases r1
    cases hs b _ hb with
    | map _ _ cs clock hff hgk hbb hl hr =>
      have hfk := findKey_run (P := P) (w := w) (γ := γ) hd hkt hfit hconc es cs hl hff hr
      have hobj : (getObj b).run P w = .ok (.map cs.toArray clock) w := by simp [getObj, Sem.run, hbb]
      have hset : ∀ es' clock', (setObj b (.map es' clock')).run P w = .ok () { w with heap := w.heap.setIfInBounds b (.map es' clock') } := fun es' clock' => by simp [setObj, Sem.run, hbb]
      have hexec : ∀ w', (Instr.mapUpdate t (.map (some b)) (a.eval k) (a.eval x)).run P w = .ok () w' → (execOp a.eval o).run P w = .ok .skip w' := by
        intro w' hr
        rcases ho with ho | ho <;> simp [execOp, ho, hv, hr]
      cases hmf : mfind es (k'.ev ρ) with
      | none =>
        rw [hmf] at hfk
        simp only [Option.map_none] at hfk
        rw [(mfind_none hmf).2] at hK
        have hrun : (Instr.mapUpdate t (.map (some b)) (a.eval k) (a.eval x)).run P w = .ok () { w with heap := w.heap.setIfInBounds b (.map (cs ++ [(⟨a.eval k, a.eval x, clock⟩ : MapEntry)]).toArray (clock + 1)) } := by
          simp [Instr.mapUpdate, run_underlying ht, hobj, hck, hfk, hset]
        obtain ⟨hext, hself⟩ := ext_setMap (γ := γ) (es' := (cs ++ [(⟨a.eval k, a.eval x, clock⟩ : MapEntry)]).toArray) (clock' := clock + 1) hbb
        refine ok_of_skip (hexec _ hrun) (hn _ _ _ _ _ (hext.weaken fun c e => by subst e; simp [keysOf, hb]) (state_upd hs hext (.map kt' _ _ _ (fun y hy => ?_) hgk hself (by simp [hl]) (fun i y e hy he => ?_))) (newKeys_upd' (by simp [hb])) (.tup [] [] rfl (by simp)) hK)
        · rcases List.mem_append.1 hy with h | h
          · exact hff y h
          · simp at h; subst h; exact hfit
        · rcases Nat.lt_or_ge i es.length with hi | hi
          · rw [List.getElem?_append_left hi] at hy
            rw [List.getElem?_append_left (by omega)] at he
            exact (hr i y e hy he).mono hext.mono
          · rw [List.getElem?_append_right hi] at hy
            rw [List.getElem?_append_right (by omega), ← hl] at he
            cases hj : i - es.length with
            | zero => rw [hj] at hy he; simp at hy he; subst hy; subst he; exact ⟨hconc, r3.mono hext.mono⟩
            | succ j => rw [hj] at hy; simp at hy
      | some i =>
        obtain ⟨y, hyi, _, hq, hms⟩ := mfind_some hmf
        rw [hmf] at hfk
        simp only [Option.map_some] at hfk
        rw [hms] at hK
        have hi : i < cs.length := by rw [← hl]; exact (List.getElem?_eq_some_iff.1 hyi).1
        have hci : cs[i]? = some cs[i] := List.getElem?_eq_getElem hi
        have hkey : cs[i].key = a.eval k := by
          have h1 := (hr i y _ hyi hci).key
          have h2 := keq_conc hfit (hff y (List.mem_of_getElem? hyi)) hq
          rw [hconc, h1] at h2
          exact (Option.some.inj h2).symm
        have hstay : (Instr.keyThatStays (((cs.toArray[i]?).map (·.key)).getD (a.eval k)) (a.eval k)).run P w = .ok (a.eval k) w := by
          have e1 : ((cs.toArray[i]?).map (·.key)).getD (a.eval k) = a.eval k := by simp [hci, hkey]
          rw [e1]
          simp [Instr.keyThatStays, sameBits_conc hconc]
        have hmod : (cs.toArray.modify i fun e => { e with key := a.eval k, val := a.eval x }) = (cs.set i { cs[i] with key := a.eval k, val := a.eval x }).toArray := by
          apply Array.ext'
          apply List.ext_getElem?
          intro j
          simp only [Array.getElem?_toList, Array.getElem?_modify, List.getElem?_set]
          by_cases hij : i = j
          · subst hij; simp [hi]
          · simp [hij]
        have hrun : (Instr.mapUpdate t (.map (some b)) (a.eval k) (a.eval x)).run P w = .ok () { w with heap := w.heap.setIfInBounds b (.map (cs.set i { cs[i] with key := a.eval k, val := a.eval x }).toArray clock) } := by
          simp only [Instr.mapUpdate, Sem.run_bind, run_underlying ht, Result.andThen_ok, hobj, hck, hfk, hstay, hmod, hset]
        obtain ⟨hext, hself⟩ := ext_setMap (γ := γ) (es' := (cs.set i { cs[i] with key := a.eval k, val := a.eval x }).toArray) (clock' := clock) hbb
        refine ok_of_skip (hexec _ hrun) (hn _ _ _ _ _ (hext.weaken fun c e => by subst e; simp [keysOf, hb]) (state_upd hs hext (.map kt' _ _ _ (fun y hy => ?_) hgk hself (by simp [hl]) (fun j y e hy he => ?_))) (newKeys_upd' (by simp [hb])) (.tup [] [] rfl (by simp)) hK)
        · rcases List.mem_or_eq_of_mem_set hy with h | h
          · exact hff y h
          · rw [h]; exact hfit
        · rw [List.getElem?_set] at hy he
          by_cases hij : i = j
          · subst hij
            have hi' : i < es.length := by omega
            simp only [if_true, hi, hi', Option.some.injEq] at hy he
            subst hy; subst he
            exact ⟨hconc, r3.mono hext.mono⟩
          · simp only [hij, if_false] at hy he
            exact (hr j y e hy he).mono hext.mono

/-! make -/

theorem madeA_length (zero : List AV) (n : Nat) : (madeA zero n).length = n * zero.length := by
  induction n with
  | zero => simp [madeA]
  | succ n ih => simp only [madeA, List.length_append, ih, Nat.succ_mul]; omega

theorem madeA_get (zero : List AV) (n i : Nat) (h : i < n * zero.length) : (madeA zero n)[i]? = zero[i % zero.length]? := by
  induction n generalizing i with
  | zero => simp at h
  | succ n ih =>
    simp only [madeA]
    rcases Nat.lt_or_ge i zero.length with hi | hi
    · rw [List.getElem?_append_left hi, Nat.mod_eq_of_lt hi]
    · rw [List.getElem?_append_right hi, ih _ (by rw [Nat.succ_mul] at h; omega)]
      congr 1
      exact (Nat.mod_eq_sub_mod hi).symm

theorem madeCells_get (z : Array Value) (n i : Nat) (h : i < n) (hz : i % z.size < z.size) : (madeCells z n).toList[i]? = z.toList[i % z.size]? := by
  simp only [madeCells, Array.toList_map, Array.toList_range, List.getElem?_map, List.getElem?_range h, Option.map_some]
  rw [Array.getElem?_toList, Array.getElem?_eq_getElem hz]
  simp [hz]

theorem mksn_ok {P : Program} {o : Oper} {t e : TypeId} {x y : Operand} {x' : Opd} {zero : List AV} {i : TypeInfo} {z : Value} (ho : o.op = .makeSlice t x y) (hx : chkO x x' = true) (hy : chkO y x' = true)
    (ht : P.underlying t = some (.slice e)) (hi : P.info? e = some i) (hz : i.zero = some z) (hzero : chkCs z.cells.toList zero = true) (hs0 : z.cells.size = i.size) (h0 : 0 < i.size) : OpOk P o (.mksn zero i.bytes x') := by
  intro γ w H ρ a K KP next Q he hs hop hn hp
  simp only [aop, AOp.cls, oev, optr] at hop
  have r1 := chkO_rep hx he
  have r2 := chkO_rep hy he
  cases hv : x'.ev ρ <;> simp only [hv] at hop r1 r2 <;> try (exact (not_scarce hs hop).elim)
  rename_i k c
  by_cases hcnd : 0 ≤ c ∧ c * (i.bytes : Int) ≤ 140737488355328 ∧ c ≤ 9223372036854775807
  case neg => simp only [hcnd, if_false] at hop; exact (not_scarce hs hop).elim
  simp only [hcnd, and_self, if_true] at hop
  obtain ⟨h1, h2, h3⟩ := hcnd
  generalize hg1 : a.eval x = v1 at r1
  generalize hg2 : a.eval y = v2 at r2
  cases r1
  cases r2
  have hrun := run_make (P := P) w t e i z ht hi hz k k c c h1 (Int.le_refl _) (by rw [Int.mul_comm]; omega) h3
  have hext := ext_alloc (fun _ => False) γ w .own (madeCells z.cells (c.toNat * i.size)) e
  have hf := fillRel_of_chk (γ := fun b => if b = w.heap.size then BK.own else γ b) (w := w.alloc (.cells (madeCells z.cells (c.toNat * i.size)) e)) hzero
  have hzl : zero.length = i.size := by rw [hf.1, ← hs0]; simp
  have hlen : (madeA zero c.toNat).length = (madeCells z.cells (c.toNat * i.size)).toList.length := by
    rw [madeA_length, hzl, Array.length_toList, size_madeCells]
  have hmod : ∀ j, j % z.cells.size < z.cells.size := fun j => Nat.mod_lt _ (by omega)
  refine ok_of_value (v := .slice (some ⟨w.heap.size, 0, none⟩) c.toNat c.toNat) ?_ (hn _ _ _ _ _ (hext.weaken fun _ f => f.elim) (state_alloc (F := fun _ => False) hs hext (.cells _ (madeCells z.cells (c.toNat * i.size)).toList e (by simp) ?_ hlen (fun j v hj => ?_) (fun j d v hd hj => ?_))) newKeys_upd (.ms _ 0 _ _ (by simp) (Nat.le_refl _) (by unfold maxLen; omega)) (hop _ (fresh_none hs)))
  · simp only [execOp, ho, hg1, hg2, Sem.run_bind, hrun, Result.andThen_ok, Sem.run_pure]
  · rw [heap_alloc_new]
  · have hjl : j < c.toNat * i.size := by have := (List.getElem?_eq_some_iff.1 hj).1; rw [Array.length_toList, size_madeCells] at this; exact this
    rw [madeCells_get _ _ _ hjl (hmod j)] at hj
    exact hf.2.1 _ _ hj
  · have hjl : j < c.toNat * i.size := by have := (List.getElem?_eq_some_iff.1 hj).1; rw [Array.length_toList, size_madeCells] at this; exact this
    rw [madeCells_get _ _ _ hjl (hmod j)] at hj
    rw [madeA_get _ _ _ (by rw [hzl]; exact hjl), hzl, ← hs0] at hd
    exact hf.2.2 _ _ _ hd hj

theorem mks_ok {P : Program} {o : Oper} {t e : TypeId} {x y : Operand} {kx : IntKind} {x' : Opd} {i : TypeInfo} {z : Value} (ho : o.op = .makeSlice t x y) (hx : chkO x (.k (.int kx 0)) = true) (hy : chkO y x' = true)
    (ht : P.underlying t = some (.slice e)) (hi : P.info? e = some i) (hz : i.zero = some z) : OpOk P o (.mks i.size i.bytes x') := by
  intro γ w H ρ a K KP next Q he hs hop hn hp
  simp only [aop, AOp.cls, oev, optr] at hop
  have r1 := chkO_rep hx he
  have r2 := chkO_rep hy he
  simp only [Opd.ev] at r1
  cases hv : x'.ev ρ <;> simp only [hv] at hop r2 <;> try (exact (not_scarce hs hop).elim)
  rename_i k c
  by_cases hcnd : 0 ≤ c ∧ c * (i.bytes : Int) ≤ 140737488355328 ∧ c ≤ 9223372036854775807
  case neg => simp only [hcnd, if_false] at hop; exact (not_scarce hs hop).elim
  simp only [hcnd, and_self, if_true] at hop
  obtain ⟨h1, h2, h3⟩ := hcnd
  generalize hg1 : a.eval x = v1 at r1
  generalize hg2 : a.eval y = v2 at r2
  cases r1
  cases r2
  have hrun := run_make (P := P) w t e i z ht hi hz kx k 0 c (Int.le_refl _) h1 (by rw [Int.mul_comm]; omega) h3
  have hext := ext_alloc (fun _ => False) γ w (.buf 0) (madeCells z.cells (c.toNat * i.size)) e
  refine ok_of_value (v := .slice (some ⟨w.heap.size, 0, none⟩) 0 c.toNat) ?_ (hn _ _ _ _ _ (hext.weaken fun _ f => f.elim) (state_alloc (F := fun _ => False) hs hext (.tip 0 i.size _ e (by simp) (by rw [heap_alloc_new]) (by simp))) newKeys_upd
    (.sl (.tip w.heap.size 0) i.size [] w.heap.size 0 c.toNat (fun _ _ => undef) (by simp) (by unfold maxLen; omega) (by simp) (by simp) (by simp) (.inr ⟨by rw [Nat.zero_mul], madeCells z.cells (c.toNat * i.size), e, by rw [heap_alloc_new], by rw [size_madeCells, Nat.zero_add]⟩)) (hop _ (fresh_none hs)))
  simp only [execOp, ho, hg1, hg2, Sem.run_bind, hrun, Result.andThen_ok, Sem.run_pure, Int.toNat_zero]

/-! ### slices that are written to -/

theorem zero_rel {γ : Gh} {w : World} {zero : List AV} {z : Value} (hzero : chkCs z.cells.toList zero = true) (hpos : 0 < z.cells.size) (k : Nat) : fillRel γ w (madeA zero k) (Builtin.zeroCells z.cells k).toList := by
  have hf := fillRel_of_chk (γ := γ) (w := w) hzero
  have hzl : zero.length = z.cells.size := by rw [hf.1]; simp
  have hmc : Builtin.zeroCells z.cells k = madeCells z.cells (k * z.cells.size) := rfl
  have hmod : ∀ j, j % z.cells.size < z.cells.size := fun j => Nat.mod_lt _ hpos
  rw [hmc]
  refine ⟨by rw [madeA_length, hzl, Array.length_toList, size_madeCells], fun j v hj => ?_, fun j d v hd hj => ?_⟩
  · have hjl : j < k * z.cells.size := by have := (List.getElem?_eq_some_iff.1 hj).1; rw [Array.length_toList, size_madeCells] at this; exact this
    rw [madeCells_get _ _ _ hjl (hmod j)] at hj
    exact hf.2.1 _ _ hj
  · have hjl : j < k * z.cells.size := by have := (List.getElem?_eq_some_iff.1 hj).1; rw [Array.length_toList, size_madeCells] at this; exact this
    rw [madeCells_get _ _ _ hjl (hmod j)] at hj
    rw [madeA_get _ _ _ (by rw [hzl]; exact hjl), hzl] at hd
    exact hf.2.2 _ _ _ hd hj

theorem fillRel.mono {γ γ' : Gh} {w w' : World} (m : Mono γ w γ' w') {cs : List AV} {vs : List Value} (h : fillRel γ w cs vs) : fillRel γ' w' cs vs := ⟨h.1, h.2.1, fun i c v hc hv => (h.2.2 i c v hc hv).mono m⟩

theorem appm_ok {P : Program} {o : Oper} {t tx e ex : TypeId} {x y : Operand} {x' y' : Opd} {i : TypeInfo} {z : Value} {sz bytes : Nat} {zero : List AV} (ho : o.op = .call { callee := .builtin .append, args := #[x, y], argTypes := #[t, tx] }) (h : chkO x x' = true) (h2 : chkO y y' = true)
    (ht : P.underlying t = some (.slice e)) (htx : P.underlying tx = some (.slice ex)) (hi : P.info? e = some i) (hz : i.zero = some z) (hsz : i.size = sz) (hby : i.bytes = bytes) (hzs : z.cells.size = sz) (hpos : 0 < sz) (hzero : chkCs z.cells.toList zero = true) : OpOk P o (.appm sz bytes zero x' y') := by
  intro γ w H ρ a K KP next Q he hs hop hn hp
  simp only [aop, AOp.cls, eff] at hop
  have r1 := chkO_rep h he
  have r2 := chkO_rep h2 he
  cases hy : y'.ev ρ <;> rw [hy] at hop r2 <;> try (exact False.elim hop)
  rename_i own' s2 ys
  obtain ⟨rfl, hzl, hop⟩ := hop
  obtain ⟨news, hsrc, hnews, hys⟩ := src_of_rep (P := P) htx r2
  have hnews1 : fillRel γ w (ys.flatten.map AV.strip1) news := strip1_rel hnews
  have hnl : news.length = ys.length * s2 := by rw [hsrc.newsLen]
  have hsrc' : Src P i.size tx (a.eval y) ys.length news w := by rw [hsz]; exact hsrc
  have hexec : ∀ v r w', a.eval x = v → (Builtin.append_ #[t, tx] o.type #[v, a.eval y]).run P w = .ok r w' → (execOp a.eval o).run P w = .ok (.value r) w' := fun v r w' hv hr => by
    rw [← hv] at hr
    simp [execOp, ho, resolve, invoke, builtin, hr]
  -- a new row
  have grown : ∀ (base : Option Addr) (len cap : Nat) (os : List AV) (olds : List Value), a.eval x = .slice base len cap → (Builtin.firstCells i.size len (.slice base len cap)).run P w.drew = .ok olds.toArray w.drew →
      fillRel γ w os olds → olds.length = len * s2 → cap < len + ys.length → (len + ys.length) * bytes ≤ 140737488355328 → len + ys.length ≤ maxLen →
      (∀ b' cap', H b' = none → len + ys.length ≤ cap' → cap' ≤ maxLen → K (.ms b' 0 (len + ys.length) cap') (H.upd b' (.cells (os ++ ys.flatten.map AV.strip1 ++ madeA zero (cap' - (len + ys.length)))))) → o.wp P a w next Q := by
    intro base len cap os olds hv hold hfr holen hlt hbytes hmax hk
    have hr := run_append_grow_src (P := P) w t tx o.type e i z ht hi hz base len cap olds hold (a.eval y) ys.length news hsrc' hlt (by simp only [maxLen] at hmax; omega) (growslice_fits hlt (by rw [hby]; exact hbytes))
    rw [← hv] at hr
    generalize hcap : grownCap w (len + ys.length) cap e = cap' at hr
    have hge : len + ys.length ≤ cap' := hcap ▸ grownCap_ge w _ cap e
    have hle : cap' ≤ maxLen := hcap ▸ grownCap_le_maxLen w _ cap e hmax
    generalize harr : (olds ++ news).toArray ++ Builtin.zeroCells z.cells (cap' - (len + ys.length)) = arr at hr
    have hext : Ext (fun _ => False) γ w (fun b => if b = w.heap.size then .own else γ b) (w.drew.alloc (.cells arr e)) :=
      (ext_drew (fun _ => False) γ w).trans (ext_alloc (fun _ => False) γ w.drew .own arr e) (fun _ _ f => f)
    have hnewb : (w.drew.alloc (.cells arr e)).heap[w.heap.size]? = some (.cells arr e (0, 0)) := heap_alloc_new w.drew _
    have hrel : fillRel (fun b => if b = w.heap.size then .own else γ b) (w.drew.alloc (.cells arr e)) (os ++ ys.flatten.map AV.strip1 ++ madeA zero (cap' - (len + ys.length))) arr.toList := by
      have earr : arr.toList = (olds ++ news) ++ (Builtin.zeroCells z.cells (cap' - (len + ys.length))).toList := by rw [← harr]; simp
      rw [earr]
      exact fillRel.append (fillRel.mono hext.mono (fillRel.append hfr hnews1)) (zero_rel hzero (by omega) _)
    refine ok_of_value (hexec _ _ _ rfl hr) (hn _ _ _ _ _ (hext.weaken fun _ f => f.elim) (state_alloc (F := fun _ => False) hs hext (.cells _ arr.toList e (by simp) (by simpa using hnewb) hrel.1 hrel.2.1 hrel.2.2)) newKeys_upd ?_ (hk _ _ (fresh_none hs) hge hle))
    exact .ms _ 0 _ _ (Array.getElem?_eq_some_iff.1 hnewb).1 hge hle
  cases hx : x'.ev ρ <;> simp only [hx] at hop r1 <;> try (exact False.elim hop)
  · rename_i own s1 xs
    cases own <;> try (exact False.elim hop)
    obtain ⟨rfl, rfl, hbytes, hmax, hK1, hK2⟩ := hop
    generalize hv : a.eval x = v at r1
    cases r1 with
    | sl _ _ _ b off _ cv hc hm hu hcell hr ho => exact ho.elim
    | sl0 _ _ _ ho => simp at ho
    | slnil _ _ _ =>
      by_cases hy0 : ys = []
      · subst hy0
        have hr := run_append_none (P := P) t tx o.type e i ht hi (a.eval y) news hsrc'
        exact ok_of_value (hexec _ _ _ hv hr) (hn γ w H _ _ (.refl _ _ _) hs (NewKeys.refl _ _) (.slnil .nil _ (by simp)) (hK1 rfl))
      · have hp : 0 < ys.length := List.length_pos_iff.2 hy0
        refine grown none 0 0 [] [] hv (run_firstCells_none _ _ _ _ _) ⟨rfl, by simp, by simp⟩ (by simp) (by omega) (by simpa using hbytes) (by simpa using hmax) fun b' cap' hb hc hm => ?_
        have := hK2 hy0 b' cap' hb (by omega) hm
        simpa using this
  · rename_i b off len cap
    obtain ⟨hbytes, hmax, hK⟩ := hop
    cases hb : H b with
    | none => simp [hb] at hK
    | some ob =>
      cases ob <;> simp only [hb] at hK <;> try (exact False.elim hK)
      rename_i cs
      generalize hv : a.eval x = v at r1
      cases r1 with
      | ms _ _ _ _ hlt hc hm =>
        cases hs b _ hb with
        | cells _ vs E hk hbb hl hone hr =>
          by_cases hroom : len + ys.length ≤ cap
          · obtain ⟨hfit, hk2⟩ := hK.1 hroom
            have e1 : (len + ys.length) * s2 = len * s2 + ys.length * s2 := Nat.add_mul _ _ _
            have hrun := run_append_row (P := P) t tx o.type e i ht hi b off len cap vs.toArray E hbb (a.eval y) ys.length news hsrc' hroom (by rw [hsz, hnl]; simp; omega)
            rw [hsz] at hrun
            generalize harr : (vs.toArray.toList.take (off + len * s2) ++ news ++ vs.toArray.toList.drop (off + len * s2 + news.length)) = vs' at hrun
            have harr2 : vs.take (off + len * s2) ++ news ++ vs.drop (off + len * s2 + news.length) = vs' := by rw [← harr]
            have hext : Ext (fun c => c = b) γ w γ (w.setRow b vs'.toArray) :=
              ext_setRow hbb (by rw [← harr2]; simp; omega) rfl (fun q hq => by simp [Prot, hk] at hq) (fun _ _ => rfl)
            have hf : fillRel γ w (splice cs (off + len * s2) (ys.flatten.map AV.strip1)) vs' := by
              rw [← harr2]; exact fillRel.splice ⟨hl, hone, hr⟩ hnews1 _
            exact ok_of_value (hexec _ _ _ hv hrun) (hn γ _ _ _ _ (hext.weaken fun c e => by subst e; simp [keysOf, hb]) (state_upd hs hext (.cells _ _ E hk (setRow_get w b _ _ E _ hbb) hf.1 hf.2.1 fun i c v hc hv => (hf.2.2 i c v hc hv).mono hext.mono))
              (newKeys_upd' (by simp [hb])) (.ms b off _ cap (by simpa using hlt) hroom hm) hk2)
          · obtain ⟨hfit, hk2⟩ := hK.2 (by omega)
            have hlen : ((vs.drop off).take (len * s2)).length = len * s2 := by simp; omega
            refine grown (some ⟨b, off, none⟩) len cap ((cs.drop off).take (len * s2)) ((vs.drop off).take (len * s2)) hv ?_ ?_ hlen (by omega) hbytes hmax hk2
            · refine run_firstCells_some w.drew i.size len ⟨b, off, none⟩ len cap _ (by rw [hsz]; exact hlen) fun j u hj => ?_
              rw [addr_add, cell_of_row w.drew b _ _ E _ hbb]
              rw [List.getElem?_take] at hj
              split at hj
              · rw [List.getElem?_drop] at hj; simpa using hj
              · cases hj
            · refine ⟨by simp [hl], fun j u hj => ?_, fun j c u hc hj => ?_⟩
              · rw [List.getElem?_take] at hj
                split at hj
                · rw [List.getElem?_drop] at hj; exact hone _ _ hj
                · cases hj
              · rw [List.getElem?_take] at hj hc
                split at hj
                · rename_i hlt2
                  rw [if_pos hlt2] at hc
                  rw [List.getElem?_drop] at hj hc; exact hr _ _ _ hc hj
                · cases hj

theorem rowsA_length (sz : Nat) : ∀ (n : Nat) (cs : List AV), (rowsA sz n cs).length = n
  | 0, _ => rfl
  | n + 1, cs => by simp [rowsA, rowsA_length sz n]
theorem rowsA_unit (sz : Nat) : ∀ (n : Nat) (cs : List AV), n * sz ≤ cs.length → ∀ x ∈ rowsA sz n cs, x.length = sz
  | 0, _, _, x, hx => by cases hx
  | n + 1, cs, h, x, hx => by
    rw [Nat.succ_mul] at h
    rcases List.mem_cons.1 hx with rfl | hx
    · simp; omega
    · exact rowsA_unit sz n (cs.drop sz) (by simp; omega) x hx
theorem rowsA_flatten (sz : Nat) : ∀ (n : Nat) (cs : List AV), n * sz ≤ cs.length → (rowsA sz n cs).flatten = (cs.take (n * sz)).map AV.strip1
  | 0, _, _ => by simp [rowsA]
  | n + 1, cs, h => by
    rw [Nat.succ_mul] at h
    rw [rowsA, List.flatten_cons, rowsA_flatten sz n (cs.drop sz) (by simp; omega), ← List.map_append, Nat.succ_mul, Nat.add_comm, List.take_add]

theorem frz_ok {P : Program} {o : Oper} {x : Operand} {x' : Opd} {sz : Nat} (ho : o.op = .move x ∨ o.op = .assign x) (h : chkO x x' = true) : OpOk P o (.frz sz x') := by
  intro γ w H ρ a K KP next Q he hs hop hn hp
  simp only [aop, AOp.cls, eff] at hop
  have r1 := chkO_rep h he
  cases hx : x'.ev ρ <;> simp only [hx] at hop r1 <;> try (exact False.elim hop)
  rename_i b off len cap
  simp only [frzK] at hop
  cases hb : H b with
  | none => simp [hb] at hop
  | some ob =>
    cases ob <;> simp only [hb] at hop <;> try (exact False.elim hop)
    rename_i cs
    obtain ⟨hpos, hfit, hK⟩ := hop
    generalize hv : a.eval x = v at r1
    cases r1 with
    | ms _ _ _ _ hlt hc hm =>
      cases hs b _ hb with
      | cells _ vs E hk hbb hl hone hr =>
        have hext : Ext (fun c => c = b) γ w (fun c => if c = b then .imm else γ c) w := by
          refine ⟨⟨Nat.le_refl _, fun c q u hu hp => ⟨?_, hu⟩, fun c arr E fr hc => ⟨arr, hc, rfl⟩⟩, rfl, rfl, fun _ _ => rfl, fun c _ hc => ⟨by simp [hc], rfl⟩⟩
          by_cases e : c = b
          · simp [Prot, e]
          · simpa [Prot, e] using hp
        have hrun : (execOp a.eval o).run P w = .ok (.value (.slice (some ⟨b, off, none⟩) len cap)) w := by
          rcases ho with ho | ho <;> simp [execOp, ho, hv]
        have hfit2 : len * sz ≤ (cs.drop off).length := by simp; omega
        refine ok_of_value hrun (hn _ _ (H.del b) _ _ (hext.weaken fun c e => by subst e; simp [keysOf, hb]) ((state_del hs b).kept hext fun c oo hc e => by subst e; simp [Heap.del] at hc) (fun c hc => ?_) ?_ hK)
        · unfold Heap.del at hc
          split at hc
          · cases hc
          · exact .inl hc
        · have hrl := rowsA_length sz len (cs.drop off)
          have hfl := rowsA_flatten sz len (cs.drop off) hfit2
          have key : Rep (fun c => if c = b then .imm else γ c) w (.sl .no sz (rowsA sz len (cs.drop off))) (.slice (some ⟨b, off, none⟩) (rowsA sz len (cs.drop off)).length cap) := by
            refine Rep.sl_flat (us := (vs.drop off).take (len * sz)) (rowsA_unit sz len _ hfit2) (by rw [hfl]; simp [hl]) (fun j u hj => ?_) (fun j c u hc hj => ?_) (by rw [hrl]; exact hc) hm trivial
            · rw [List.getElem?_take] at hj
              split at hj
              · rw [List.getElem?_drop] at hj
                refine ⟨?_, by simp [Prot], hone _ _ hj⟩
                rw [cell_of_row w b _ _ E _ hbb]; simpa using hj
              · cases hj
            · rw [hfl, List.getElem?_map] at hc
              rw [List.getElem?_take] at hj hc
              split at hj
              · rename_i hlt2
                rw [if_pos hlt2] at hc
                rw [List.getElem?_drop] at hj hc
                cases hcc : cs[off + j]? with
                | none => simp [hcc] at hc
                | some d => simp only [hcc, Option.map_some, Option.some.injEq] at hc; subst hc; exact ((hr _ _ _ hcc hj).mono hext.mono).strip1
              · cases hj
          rwa [hrl] at key

theorem blsm_ok {P : Program} {o : Oper} {t e : TypeId} {n sz : Nat} {parts : Array (Nat × Operand)} {qs : List (Nat × Opd)} {zero : List AV} {ei : TypeInfo} {z : Value} (ho : o.op = .buildSlice t n parts)
    (ht : P.underlying t = some (.slice e)) (hi : P.info? e = some ei) (hz : ei.zero = some z) (hsz : ei.size = sz) (hpos : 0 < sz) (hsmall : n * sz ≤ 2 ^ 24) (hzero : chkCs z.cells.toList zero = true)
    (hparts : chkPartsS parts.toList qs = true) : OpOk P o (.blsm sz n zero qs) := by
  intro γ w H ρ a K KP next Q he hs hop hn hp
  simp only [aop, AOp.cls, oev, optr] at hop
  by_cases hzl : zero.length = sz
  case neg => simp only [hzl, if_false] at hop; exact (not_scarce hs hop).elim
  simp only [hzl, if_true] at hop
  cases hf : fillS ρ sz (List.replicate n zero) qs with
  | none => simp only [hf, Option.map_none] at hop; exact (not_scarce hs hop).elim
  | some ys =>
    simp only [hf, Option.map_some] at hop
    obtain ⟨hz1, hz2, hz3⟩ := chkCs_rep hzero γ w
    have huni : ∀ x ∈ List.replicate n zero, x.length = sz := fun x hx => by rw [(List.mem_replicate.1 hx).2]; exact hzl
    have hfl : (List.replicate n zero).flatten.length = n * sz := by rw [flatten_length sz _ huni]; simp
    have hzs : z.cells.size = sz := by have := hz1; simp at this; omega
    have hstart : fillRel γ w (List.replicate n zero).flatten ((List.range (n * sz)).map (fun k => z.cells.toList.getD (k % sz) undef)) := by
      refine ⟨by simp [hfl], fun i v hv => ?_, fun i c v hc hv => ?_⟩
      · simp only [List.getElem?_map, Option.map_eq_some_iff] at hv
        obtain ⟨k, _, rfl⟩ := hv
        have hlt : k % sz < z.cells.toList.length := by simp [hzs]; exact Nat.mod_lt _ hpos
        exact hz2 (k % sz) _ (by rw [List.getD, List.getElem?_eq_getElem hlt]; rfl)
      · simp only [List.getElem?_map, Option.map_eq_some_iff] at hv
        obtain ⟨k, hk, rfl⟩ := hv
        obtain ⟨h1, h2⟩ := List.getElem?_eq_some_iff.1 hk
        simp at h1 h2
        subst h2
        rw [replicate_flatten zero n i (by rw [hfl]; exact h1), hzl] at hc
        have hlt : i % sz < z.cells.toList.length := by simp [hzs]; exact Nat.mod_lt _ hpos
        exact hz3 (i % sz) c _ hc (by rw [List.getD, List.getElem?_eq_getElem hlt]; rfl)
    obtain ⟨us, hus, hru, huy, hly⟩ := fillS_run he parts.toList qs _ _ ys hparts hf huni hstart
    have hext := ext_alloc (fun _ => False) γ w .own us.toArray e
    have hcells : ∀ f : Nat → Value, ((List.range (n * sz)).map f).toArray = (Array.range (n * sz)).map f := fun f => by apply Array.ext'; simp
    have hrun : (execOp a.eval o).run P w = .ok (.value (.slice (some ⟨w.heap.size, 0, none⟩) n n)) (w.alloc (.cells us.toArray e)) := by
      have hstart' : (Array.range (n * sz)).map (z.cells[· % z.cells.size]!) = ((List.range (n * sz)).map (fun k => z.cells.toList.getD (k % sz) undef)).toArray := by
        rw [hcells]
        apply Array.map_congr_left
        intro k hk
        have hlt : k % sz < z.cells.size := by rw [hzs]; exact Nat.mod_lt _ hpos
        rw [hzs]
        simp [List.getD, hlt]
      have hmap : (parts.map fun (x : Nat × Operand) => (x.1, a.eval x.2)).toList = parts.toList.map fun (i, x) => (i, a.eval x) := by simp
      have hnot : ¬ n * ei.size > 2 ^ 24 := by rw [hsz]; omega
      simp only [execOp, ho, Instr.buildSlice, Sem.run_bind, run_underlying ht, Result.andThen_ok, sizeOf, typeInfo, run_program, hi, Sem.run_pure, hsz, zeroValue, hz]
      rw [hsz] at hnot
      rw [← hstart'] at hus
      by_cases hn : n * sz = 0
      · have h0 : ∀ f : Nat → Value, (Array.range 0).map f = #[] := fun f => by apply Array.ext'; simp
        rw [hn, h0] at hus
        simp [hn, h0, hus, newRow]
      · simp [hn, hnot, hus, newRow, zeroValue, typeInfo, hi, hz]
    have hnm : n ≤ maxLen := by
      have : n * 1 ≤ n * sz := Nat.mul_le_mul_left _ hpos
      unfold maxLen; omega
    have hru' := fillRel.mono hext.mono hru
    exact ok_of_value hrun (hn _ _ _ _ _ (hext.weaken fun _ f => f.elim) (state_alloc (F := fun _ => False) hs hext (.cells _ us e (by simp) (heap_alloc_new w _) hru'.1 hru'.2.1 hru'.2.2)) newKeys_upd (.ms _ 0 n n (by simp) (Nat.le_refl _) hnm) (hop _ (fresh_none hs)))

end Go.Ab
