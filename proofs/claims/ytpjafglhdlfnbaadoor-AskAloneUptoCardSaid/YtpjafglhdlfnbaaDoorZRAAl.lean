import Derived.Test.YtpjafglhdlfnbaaDoorM1
import Derived.Test.YtpjafglhdlfnbaaDoorM2
import Derived.Test.YtpjafglhdlfnbaaDoorM3
import Derived.Test.YtpjafglhdlfnbaaDoorM4
set_option maxRecDepth 100000
set_option linter.unusedSimpArgs false
set_option linter.unusedVariables false
namespace Go.Proofs.YtpjafglhdlfnbaaDoor
open Go.Ab
structure DirD where
  nm : List UInt8
  args : List Mem
inductive SelD where
  | mk (k : Int) (al nm : List UInt8) (args : List Mem) (dirs : List DirD) (on : List UInt8) (sels : List SelD)
structure TyD where
  nm : List UInt8
  lists : Int
  musts : Int
structure VarD where
  nm : List UInt8
  t : TyD
  has : Bool
  d : Val
structure OpD where
  k : Int
  nm : List UInt8
  vars : List VarD
  dirs : List DirD
  sels : List SelD
structure FragD where
  nm : List UInt8
  on : List UInt8
  dirs : List DirD
  sels : List SelD
structure DocD where
  ops : List OpD
  frags : List FragD
def cD (x : DirD) : List AV := [.str x.nm, .sl .no 6 (cMs x.args)]
def cDs (l : List DirD) : List (List AV) := l.map cD
mutual
def cS : SelD → List AV
  | .mk k al nm args dirs on sels => [.int .i64 k, .str al, .str nm, .sl .no 6 (cMs args), .sl .no 2 (cDs dirs), .str on, .sl .no 7 (cSs sels)]
def cSs : List SelD → List (List AV)
  | [] => []
  | x :: r => cS x :: cSs r
end
def cTy (t : TyD) : List AV := [.str t.nm, .int .i64 t.lists, .int .i64 t.musts]
def cW (x : VarD) : List AV := cTy ⟨x.nm, 0, 0⟩ |>.take 1 |>.append (cTy x.t ++ (.bool x.has :: cV x.d))
def cWs (l : List VarD) : List (List AV) := l.map cW
def cO (x : OpD) : List AV := [.int .i64 x.k, .str x.nm, .sl .no 10 (cWs x.vars), .sl .no 2 (cDs x.dirs), .sl .no 7 (cSs x.sels)]
def cOs (l : List OpD) : List (List AV) := l.map cO
def cF (x : FragD) : List AV := [.str x.nm, .str x.on, .sl .no 2 (cDs x.dirs), .sl .no 7 (cSs x.sels)]
def cFs (l : List FragD) : List (List AV) := l.map cF
def cDoc (d : DocD) : List AV := [.sl .no 5 (cOs d.ops), .sl .no 4 (cFs d.frags)]
theorem cW_mk (nm : List UInt8) (t : TyD) (h : Bool) (d : Val) : cW ⟨nm, t, h, d⟩ = .str nm :: .str t.nm :: .int .i64 t.lists :: .int .i64 t.musts :: .bool h :: cV d := rfl
theorem cSs_map : ∀ l, cSs l = l.map cS
  | [] => rfl
  | v :: r => by rw [cSs, cSs_map r]; rfl
theorem cDs_len (l : List DirD) : (cDs l).length = l.length := by simp [cDs]
theorem cSs_len (l : List SelD) : (cSs l).length = l.length := by rw [cSs_map]; simp
theorem cWs_len (l : List VarD) : (cWs l).length = l.length := by simp [cWs]
theorem cOs_len (l : List OpD) : (cOs l).length = l.length := by simp [cOs]
theorem cFs_len (l : List FragD) : (cFs l).length = l.length := by simp [cFs]
theorem cDs_get {l a : List DirD} {x : DirD} {b : List DirD} (h : l = a ++ x :: b) : (cDs l).getD a.length [] = cD x := getD_mid' h
theorem cSs_get {l a : List SelD} {x : SelD} {b : List SelD} (h : l = a ++ x :: b) : (cSs l).getD a.length [] = cS x := by rw [cSs_map, getD_mid' h]
theorem cWs_get {l a : List VarD} {x : VarD} {b : List VarD} (h : l = a ++ x :: b) : (cWs l).getD a.length [] = cW x := getD_mid' h
theorem cOs_get {l a : List OpD} {x : OpD} {b : List OpD} (h : l = a ++ x :: b) : (cOs l).getD a.length [] = cO x := getD_mid' h
theorem cFs_get {l a : List FragD} {x : FragD} {b : List FragD} (h : l = a ++ x :: b) : (cFs l).getD a.length [] = cF x := getD_mid' h
theorem cS_mk (k : Int) (al nm : List UInt8) (args : List Mem) (dirs : List DirD) (on : List UInt8) (sels : List SelD) : cS (.mk k al nm args dirs on sels) = [.int .i64 k, .str al, .str nm, .sl .no 6 (cMs args), .sl .no 2 (cDs dirs), .str on, .sl .no 7 (cSs sels)] := rfl
def bD (x : DirD) : Nat := 1 + x.nm.length + bMs x.args
def bDs (l : List DirD) : Nat := (l.map bD).sum
mutual
def bS : SelD → Nat
  | .mk _ al nm args dirs on sels => 1 + al.length + nm.length + on.length + bMs args + bDs dirs + bSs sels
def bSs : List SelD → Nat
  | [] => 0
  | x :: r => bS x + bSs r
end
def bW (x : VarD) : Nat := x.nm.length + x.t.nm.length + bV x.d
def bWs (l : List VarD) : Nat := (l.map bW).sum
def bO (x : OpD) : Nat := 1 + x.nm.length + bWs x.vars + bDs x.dirs + bSs x.sels
def bOs (l : List OpD) : Nat := (l.map bO).sum
def bF (x : FragD) : Nat := 1 + x.nm.length + x.on.length + bDs x.dirs + bSs x.sels
def bFs (l : List FragD) : Nat := (l.map bF).sum
def bDoc (d : DocD) : Nat := bOs d.ops + bFs d.frags
theorem sum_len {α : Type} {f : α → Nat} (hf : ∀ x, 1 ≤ f x) : ∀ l : List α, l.length ≤ (l.map f).sum
  | [] => Nat.zero_le _
  | x :: r => by have := sum_len hf r; have := hf x; simp only [List.map_cons, List.sum_cons, List.length_cons]; omega
theorem sum_mid {α : Type} (f : α → Nat) (a : List α) (x : α) (b : List α) : ((a ++ x :: b).map f).sum = (a.map f).sum + f x + (b.map f).sum := by simp; omega
theorem bDs_len (l : List DirD) : l.length ≤ bDs l := sum_len (fun x => by simp only [bD]; omega) l
theorem bWs_len (l : List VarD) : l.length ≤ bWs l := sum_len (fun x => by have := bV_pos x.d; simp only [bW]; omega) l
theorem bOs_len (l : List OpD) : l.length ≤ bOs l := sum_len (fun x => by simp only [bO]; omega) l
theorem bFs_len (l : List FragD) : l.length ≤ bFs l := sum_len (fun x => by simp only [bF]; omega) l
theorem bS_pos (x : SelD) : 1 ≤ bS x := by cases x; simp only [bS]; omega
theorem bSs_len : ∀ l : List SelD, l.length ≤ bSs l
  | [] => by simp
  | v :: r => by have := bSs_len r; have := bS_pos v; simp only [bSs, List.length_cons]; omega
theorem bDs_mid (a : List DirD) (x : DirD) (b : List DirD) : bDs (a ++ x :: b) = bDs a + bD x + bDs b := sum_mid ..
theorem bWs_mid (a : List VarD) (x : VarD) (b : List VarD) : bWs (a ++ x :: b) = bWs a + bW x + bWs b := sum_mid ..
theorem bOs_mid (a : List OpD) (x : OpD) (b : List OpD) : bOs (a ++ x :: b) = bOs a + bO x + bOs b := sum_mid ..
theorem bFs_mid (a : List FragD) (x : FragD) (b : List FragD) : bFs (a ++ x :: b) = bFs a + bF x + bFs b := sum_mid ..
theorem bSs_mid (a : List SelD) (x : SelD) (b : List SelD) : bSs (a ++ x :: b) = bSs a + bS x + bSs b := by
  induction a with
  | nil => simp [bSs]
  | cons y a ih => simp only [List.cons_append, bSs, ih]; omega
mutual
theorem SelD.ind {P : SelD → Prop} (h : ∀ k al nm args dirs on sels, (∀ v ∈ sels, P v) → P (.mk k al nm args dirs on sels)) : ∀ v, P v
  | .mk k al nm args dirs on sels => h k al nm args dirs on sels (SelD.indL h sels)
theorem SelD.indL {P : SelD → Prop} (h : ∀ k al nm args dirs on sels, (∀ v ∈ sels, P v) → P (.mk k al nm args dirs on sels)) : ∀ l : List SelD, ∀ v ∈ l, P v
  | [], _, hv => by cases hv
  | x :: r, v, hv => (List.mem_cons.1 hv).elim (fun e => e ▸ SelD.ind h x) (SelD.indL h r v)
end
theorem bMs_mem {t : List UInt8} {v : Val} {m : List Mem} (h : Mem.mk t v ∈ m) : bV v ≤ bMs m := by
  obtain ⟨a, b, hd⟩ := List.append_of_mem h
  have := bMs_mid a (.mk t v) b
  rw [← hd] at this
  simp only [bM] at this
  omega
theorem membersE (a b : List Mem) (ha : bMs a ≤ Lim) : Pure Tryd.prog 51 [.sl .no 6 (cMs a), .sl .no 6 (cMs b)] (.bool (eqd a b)) :=
  membersR a b (by have := bMs_len a; omega) fun s v hm u => sameR v (by have := bMs_mem hm; omega) u
end Go.Proofs.YtpjafglhdlfnbaaDoor
namespace Go.Proofs.YtpjafglhdlfnbaaDoor
open Go.Ab Go.Lib
open Go.ChangeShapes Go.WideShapes Go.ChangeAt Go.RowKit Go.WideElems
def wfD (x : DirD) : Prop := wfMs x.args
def wfDs (l : List DirD) : Prop := ∀ x ∈ l, wfD x
mutual
def wfS : SelD → Prop
  | .mk _ _ _ args dirs _ sels => wfMs args ∧ wfDs dirs ∧ wfSs sels
def wfSs : List SelD → Prop
  | [] => True
  | x :: r => wfS x ∧ wfSs r
end
theorem wfSs_all : ∀ {l : List SelD}, (∀ v ∈ l, wfS v) → wfSs l
  | [], _ => trivial
  | v :: r, h => ⟨h v (.head _), wfSs_all fun x hx => h x (.tail _ hx)⟩
def wfW (x : VarD) : Prop := inR x.t.lists ∧ inR x.t.musts ∧ wfV x.d
def wfO (x : OpD) : Prop := (∀ y ∈ x.vars, wfW y) ∧ wfDs x.dirs ∧ wfSs x.sels
def wfF (x : FragD) : Prop := wfDs x.dirs ∧ wfSs x.sels
def wfDoc (d : DocD) : Prop := (∀ x ∈ d.ops, wfO x) ∧ ∀ x ∈ d.frags, wfF x
theorem bSs_sum : ∀ l, bSs l = (l.map bS).sum
  | [] => rfl
  | v :: r => by simp [bSs, bSs_sum r]
theorem decD : ∀ m, DecB Tryd.prog m 127 2 cD wfD bD
  | 0 => DecB.zero
  | k + 1 => DecB.struct (DecFsB.cons (by kernel_rfl) (DecB.str Tryd.underlying9) (DecFsB.cons (by kernel_rfl) (decMsA k) DecFsB.nil))
      (by kernel_rfl) (by kernel_rfl) cD wfD bD (fun x => ⟨x.1, x.2.1⟩) (fun a => rfl) (fun a h => h.2.1) (fun a => by simp only [bD]; omega)
theorem decDs : ∀ m, DecB Tryd.prog m 52 1 (fun l : List DirD => [.sl .no 2 (cDs l)]) wfDs (fun l => bDs l + 1)
  | 0 => DecB.zero
  | m + 1 => by
    intro enc W cs d ps h1 h2
    obtain ⟨a, h3, h4, h5, h6⟩ := DecB.slice (t := 52) Tryd.underlying52 (B := 40) (sz := 2) (by kernel_rfl) (by kernel_rfl) (by decide) (decD m) enc W cs d ps h1 h2
    exact ⟨a, h3.2.2, by simp only [bDs]; exact h4, h5, by simp only [cDs]; exact h6⟩
theorem decSs1 {m : Nat} (h : DecB Tryd.prog m 129 7 cS wfS bS) : DecB Tryd.prog (m + 1) 53 1 (fun l : List SelD => [.sl .no 7 (cSs l)]) wfSs (fun l => bSs l + 1) := by
  intro H enc W cs d ps h1 h2
  obtain ⟨a, h3, h4, h5, h6⟩ := DecB.slice (t := 53) Tryd.underlying53 (B := 128) (sz := 7) (by kernel_rfl) (by kernel_rfl) (by decide) h enc W cs d ps h1 h2
  exact ⟨a, wfSs_all h3.2.2, by simp only [bSs_sum]; exact h4, h5, by simp only [cSs_map]; exact h6⟩
theorem decS : ∀ m, DecB Tryd.prog m 129 7 cS wfS bS := by
  intro m
  induction m using Nat.strongRecOn with
  | _ m ih =>
    cases m with
    | zero => exact DecB.zero
    | succ k =>
      have hs : DecB Tryd.prog k 53 1 (fun l : List SelD => [.sl .no 7 (cSs l)]) wfSs (fun l => bSs l + 1) := by
        cases k with
        | zero => exact DecB.zero
        | succ k => exact decSs1 (ih k (by omega))
      intro H
      exact DecB.struct (DecFsB.cons (by kernel_rfl) (DecB.int (k := .i64) Tryd.underlying3) (DecFsB.cons (by kernel_rfl) (DecB.str Tryd.underlying9) (DecFsB.cons (by kernel_rfl) (DecB.str Tryd.underlying9) (DecFsB.cons (by kernel_rfl) (decMsA k) (DecFsB.cons (by kernel_rfl) (decDs k) (DecFsB.cons (by kernel_rfl) (DecB.str Tryd.underlying9) (DecFsB.cons (by kernel_rfl) hs DecFsB.nil)))))))
        (by kernel_rfl) (by kernel_rfl) cS wfS bS (fun x => .mk x.1 x.2.1 x.2.2.1 x.2.2.2.1 x.2.2.2.2.1 x.2.2.2.2.2.1 x.2.2.2.2.2.2.1) (fun a => rfl) (fun a h => ⟨h.2.2.2.1, h.2.2.2.2.1, h.2.2.2.2.2.2.1⟩) (fun a => by simp only [bS]; omega)
theorem decSs : ∀ m, DecB Tryd.prog m 53 1 (fun l : List SelD => [.sl .no 7 (cSs l)]) wfSs (fun l => bSs l + 1)
  | 0 => DecB.zero
  | m + 1 => decSs1 (decS m)
def bTy (t : TyD) : Nat := t.nm.length
theorem decTy : ∀ m, DecB Tryd.prog m 97 3 cTy (fun t => inR t.lists ∧ inR t.musts) bTy
  | 0 => DecB.zero
  | k + 1 => DecB.struct (DecFsB.cons (by kernel_rfl) (DecB.str Tryd.underlying9) (DecFsB.cons (by kernel_rfl) (DecB.int (k := .i64) Tryd.underlying3) (DecFsB.cons (by kernel_rfl) (DecB.int (k := .i64) Tryd.underlying3) DecFsB.nil)))
      (by kernel_rfl) (by kernel_rfl) cTy (fun t => inR t.lists ∧ inR t.musts) bTy (fun x => ⟨x.1, x.2.1, x.2.2.1⟩) (fun a => rfl) (fun a h => ⟨inR_wf h.2.1, inR_wf h.2.2.1⟩) (fun a => by simp only [bTy]; omega)
theorem decW : ∀ m, DecB Tryd.prog m 99 10 cW wfW bW
  | 0 => DecB.zero
  | k + 1 => DecB.struct (DecFsB.cons (by kernel_rfl) (DecB.str Tryd.underlying9) (DecFsB.cons (by kernel_rfl) (decTy k) (DecFsB.cons (by kernel_rfl) (DecB.bool Tryd.underlying4) (DecFsB.cons (by kernel_rfl) (decVA k) DecFsB.nil))))
      (by kernel_rfl) (by kernel_rfl) cW wfW bW (fun x => ⟨x.1, x.2.1, x.2.2.1, x.2.2.2.1⟩) (fun a => by simp [cW_mk, cTy]) (fun a h => ⟨h.2.1.1, h.2.1.2, h.2.2.2.1⟩) (fun a => by simp only [bW, bTy]; omega)
theorem decWs : ∀ m, DecB Tryd.prog m 51 1 (fun l : List VarD => [.sl .no 10 (cWs l)]) (fun l => ∀ x ∈ l, wfW x) (fun l => bWs l + 1)
  | 0 => DecB.zero
  | m + 1 => by
    intro enc W cs d ps h1 h2
    obtain ⟨a, h3, h4, h5, h6⟩ := DecB.slice (t := 51) Tryd.underlying51 (B := 136) (sz := 10) (by kernel_rfl) (by kernel_rfl) (by decide) (decW m) enc W cs d ps h1 h2
    exact ⟨a, h3.2.2, by simp only [bWs]; exact h4, h5, by simp only [cWs]; exact h6⟩
theorem decO : ∀ m, DecB Tryd.prog m 55 5 cO wfO bO
  | 0 => DecB.zero
  | k + 1 => DecB.struct (DecFsB.cons (by kernel_rfl) (DecB.int (k := .i64) Tryd.underlying3) (DecFsB.cons (by kernel_rfl) (DecB.str Tryd.underlying9) (DecFsB.cons (by kernel_rfl) (decWs k) (DecFsB.cons (by kernel_rfl) (decDs k) (DecFsB.cons (by kernel_rfl) (decSs k) DecFsB.nil)))))
      (by kernel_rfl) (by kernel_rfl) cO wfO bO (fun x => ⟨x.1, x.2.1, x.2.2.1, x.2.2.2.1, x.2.2.2.2.1⟩) (fun a => rfl) (fun a h => ⟨h.2.2.1, h.2.2.2.1, h.2.2.2.2.1⟩) (fun a => by simp only [bO]; omega)
theorem decF : ∀ m, DecB Tryd.prog m 101 4 cF wfF bF
  | 0 => DecB.zero
  | k + 1 => DecB.struct (DecFsB.cons (by kernel_rfl) (DecB.str Tryd.underlying9) (DecFsB.cons (by kernel_rfl) (DecB.str Tryd.underlying9) (DecFsB.cons (by kernel_rfl) (decDs k) (DecFsB.cons (by kernel_rfl) (decSs k) DecFsB.nil))))
      (by kernel_rfl) (by kernel_rfl) cF wfF bF (fun x => ⟨x.1, x.2.1, x.2.2.1, x.2.2.2.1⟩) (fun a => rfl) (fun a h => ⟨h.2.2.1, h.2.2.2.1⟩) (fun a => by simp only [bF]; omega)
theorem decOs : ∀ m, DecB Tryd.prog m 46 1 (fun l : List OpD => [.sl .no 5 (cOs l)]) (fun l => ∀ x ∈ l, wfO x) (fun l => bOs l + 1)
  | 0 => DecB.zero
  | m + 1 => by
    intro enc W cs d ps h1 h2
    obtain ⟨a, h3, h4, h5, h6⟩ := DecB.slice (t := 46) Tryd.underlying46 (B := 96) (sz := 5) (by kernel_rfl) (by kernel_rfl) (by decide) (decO m) enc W cs d ps h1 h2
    exact ⟨a, h3.2.2, by simp only [bOs]; exact h4, h5, by simp only [cOs]; exact h6⟩
theorem decFs : ∀ m, DecB Tryd.prog m 47 1 (fun l : List FragD => [.sl .no 4 (cFs l)]) (fun l => ∀ x ∈ l, wfF x) (fun l => bFs l + 1)
  | 0 => DecB.zero
  | m + 1 => by
    intro enc W cs d ps h1 h2
    obtain ⟨a, h3, h4, h5, h6⟩ := DecB.slice (t := 47) Tryd.underlying47 (B := 80) (sz := 4) (by kernel_rfl) (by kernel_rfl) (by decide) (decF m) enc W cs d ps h1 h2
    exact ⟨a, h3.2.2, by simp only [bFs]; exact h4, h5, by simp only [cFs]; exact h6⟩
theorem decDocA : ∀ m, DecB Tryd.prog m 49 2 cDoc wfDoc bDoc
  | 0 => DecB.zero
  | k + 1 => DecB.struct (DecFsB.cons (by kernel_rfl) (decOs k) (DecFsB.cons (by kernel_rfl) (decFs k) DecFsB.nil))
      (by kernel_rfl) (by kernel_rfl) cDoc wfDoc bDoc (fun x => ⟨x.1, x.2.1⟩) (fun a => rfl) (fun a h => ⟨h.1, h.2.1⟩) (fun a => by simp only [bDoc]; omega)
end Go.Proofs.YtpjafglhdlfnbaaDoor
namespace Go.Proofs.YtpjafglhdlfnbaaDoor
open Go.Ab Go.Lib
abbrev AskT := List UInt8 × List UInt8 × List Mem
def cA (a : AskT) : List AV := [.str a.1, .str a.2.1, .sl .no 6 (cMs a.2.2)]
def zA : AskT := ([], [], [])
def qN : List UInt8 := [113, 117, 101, 114, 121]
def vN : List UInt8 := [118, 97, 114, 105, 97, 98, 108, 101, 115]
def oN : List UInt8 := [111, 112, 101, 114, 97, 116, 105, 111, 110, 78, 97, 109, 101]
def askX : Mem → AskT → Option AskT
  | .mk t (.mk k n s l m), a =>
    if t = qN then (if k = 4 then some (s, a.2.1, a.2.2) else none)
    else if t = vN then (if k = 7 then some (a.1, a.2.1, m) else if k = 0 then some a else none)
    else if t = oN then (if k = 4 then some (a.1, s, a.2.2) else if k = 0 then some a else none)
    else some a
def askL : List Mem → AskT → Option AskT
  | [], a => some a
  | x :: r, a => match askX x a with | some b => askL r b | none => none
def askOf (m : List Mem) : AskT × Int := match askL m zA with | some a => (a, 0) | none => (zA, 7)
def askV (v : Val) : AskT × Int := match v with
  | .mk k n s l m => if k = 7 then (if (getV qN m).2 then askOf m else (zA, 6)) else (zA, 7)
theorem askV_mk (k n : Int) (s : List UInt8) (l : List Val) (m : List Mem) : askV (.mk k n s l m) = if k = 7 then (if (getV qN m).2 then askOf m else (zA, 6)) else (zA, 7) := rfl
def askM (b : List UInt8) : AskT × Int := if (readM b).2 = 0 then askV (readM b).1 else (zA, (readM b).2)
def z3 : List AV := [.str [], .str [], .sl .nil 6 []]
theorem askC (s : List UInt8) (hl : s.length ≤ LimS) : Pure Tryd.prog 50 [.str s] (.tup [.agg (cA (askM s).1), .int .i64 (askM s).2]) := by
  refine Pure.go ir50 ck50 (Nat.le_refl _) fun KP Q hQ => ?_
  have hsz := readM_size s
  simp only [LimS] at hl
  have qv : ([113, 117, 101, 114, 121] : List UInt8) = [118, 97, 114, 105, 97, 98, 108, 101, 115] ↔ False := by decide
  have qo : ([113, 117, 101, 114, 121] : List UInt8) = [111, 112, 101, 114, 97, 116, 105, 111, 110, 78, 97, 109, 101] ↔ False := by decide
  have vq : ([118, 97, 114, 105, 97, 98, 108, 101, 115] : List UInt8) = [113, 117, 101, 114, 121] ↔ False := by decide
  have vo : ([118, 97, 114, 105, 97, 98, 108, 101, 115] : List UInt8) = [111, 112, 101, 114, 97, 116, 105, 111, 110, 78, 97, 109, 101] ↔ False := by decide
  have oq : ([111, 112, 101, 114, 97, 116, 105, 111, 110, 78, 97, 109, 101] : List UInt8) = [113, 117, 101, 114, 121] ↔ False := by decide
  have ov : ([111, 112, 101, 114, 97, 116, 105, 111, 110, 78, 97, 109, 101] : List UInt8) = [118, 97, 114, 105, 97, 98, 108, 101, 115] ↔ False := by decide
  have stripz : ∀ n : Int, (tupOf [AV.agg z3, .int .i64 n]).strip = .tup [.agg (cA zA), .int .i64 n] := fun _ => rfl
  simp (disch := first | omega | assumption) only [ir50, go_sem, ↓reduceIte]
  refine goA_intro fun b2 hb2 => ?_
  simp (disch := first | omega | assumption) only [go_sem, ↓reduceIte]
  refine goK_pure (readC s (by simp only [LimS]; omega)) ?_
  unfold askM at hQ
  generalize (readM s).2 = e at *
  rcases hv : (readM s).1 with ⟨k, n, x, l, m⟩
  rw [hv] at hsz hQ
  have hml : m.length ≤ Lim := by
    have := bMs_len m
    simp only [bV] at hsz; simp only [Lim]; omega
  simp (disch := first | omega | assumption) only [cV_mk, go_sem, ↓reduceIte]
  refine goA_intro fun b4 hb4 => ?_
  have n42 : b4 ≠ b2 := fun e => by subst e; rw [upd_same] at hb4; cases hb4
  have n24 := Ne.symm n42
  simp (disch := first | omega | assumption) only [cV_mk, go_sem, ↓reduceIte]
  have h2 : ((Heap.emp.upd b2 (.cells z3)).upd b4 (.cells [.int .i64 k, .int .i64 n, .str x, .sl .no 5 (cVs l), .sl .no 6 (cMs m)])) b2 = some (.cells z3) := by rw [upd_ne n24, upd_same]
  have h4 : ((Heap.emp.upd b2 (.cells z3)).upd b4 (.cells [.int .i64 k, .int .i64 n, .str x, .sl .no 5 (cVs l), .sl .no 6 (cMs m)])) b4 = some (.cells [.int .i64 k, .int .i64 n, .str x, .sl .no 5 (cVs l), .sl .no 6 (cMs m)]) := upd_same ..
  unfold z3 at h2 h4
  generalize ((Heap.emp.upd b2 (.cells [AV.str [], .str [], .sl .nil 6 []])).upd b4 (.cells [.int .i64 k, .int .i64 n, .str x, .sl .no 5 (cVs l), .sl .no 6 (cMs m)])) = H1 at *
  by_cases he : e = 0
  · subst he
    rw [if_pos rfl] at hQ
    rw [askV_mk] at hQ
    by_cases hk : k = 7
    · subst hk
      simp only [if_true] at hQ
      simp (disch := first | omega | assumption) only [h4, go_sem, ↓reduceIte]
      refine goK_pure (getP qN m hml) ?_
      simp (disch := first | omega | assumption) only [cV_len, cV_take, cV_splice, cM_len, cM_take, cM_splice, cM_mk, go_sem, ↓reduceIte]
      refine goA_intro fun b6 hb6 => ?_
      have n62 : b6 ≠ b2 := fun e => by subst e; rw [hb6] at h2; cases h2
      have n26 := Ne.symm n62
      have n64 : b6 ≠ b4 := fun e => by subst e; rw [hb6] at h4; cases h4
      have n46 := Ne.symm n64
      cases hg : (getV qN m).2
      · rw [hg] at hQ
        simp (disch := first | omega | assumption) only [cV_len, cV_take, cV_splice, cM_len, cM_take, cM_splice, cM_mk, h2, h4, n26, n62, n46, n64, go_sem, ↓reduceIte]
        exact hQ _ _ _ [.agg z3, .int .i64 6] nofun (by simp (disch := first | omega | assumption) only [ir50, resvs, resv, upd_same, z3, go_sem, ↓reduceIte]) (stripz 6)
      · rw [hg] at hQ
        simp only [if_true] at hQ
        have h2' : (H1.upd b6 (.cells (cV (getV qN m).1))) b2 = some (.cells z3) := by rw [upd_ne n26]; exact h2
        have h4' : (H1.upd b6 (.cells (cV (getV qN m).1))) b4 = some (.cells [.int .i64 7, .int .i64 n, .str x, .sl .no 5 (cVs l), .sl .no 6 (cMs m)]) := by rw [upd_ne n46]; exact h4
        simp (disch := first | omega | assumption) only [cV_len, cV_take, cV_splice, cM_len, cM_take, cM_splice, cM_mk, go_sem, ↓reduceIte]
        generalize (H1.upd b6 (.cells (cV (getV qN m).1))) = H2 at *
        refine goA_intro fun b8 hb8 => ?_
        have n82 : b8 ≠ b2 := fun e => by subst e; rw [hb8] at h2'; cases h2'
        have n28 := Ne.symm n82
        have n84 : b8 ≠ b4 := fun e => by subst e; rw [hb8] at h4'; cases h4'
        have n48 := Ne.symm n84
        have h2c : (H2.upd b8 (.cells [AV.str [], .str [], .sl .nil 6 []])) b2 = some (.cells z3) := by rw [upd_ne n28]; exact h2'
        have h8c : (H2.upd b8 (.cells [AV.str [], .str [], .sl .nil 6 []])) b8 = some (.cells [AV.str [], .str [], .sl .nil 6 []]) := upd_same ..
        have hm := cMs_len m
        have hml' := hml
        simp only [Lim] at hml'
        simp (disch := first | omega | assumption) only [h4', n48, hm, go_sem, ↓reduceIte]
        clear h2 h4 h2' h4'
        generalize (H2.upd b8 (.cells [AV.str [], .str [], .sl .nil 6 []])) = H3 at *
        refine goL_range m 39 (fun _ : AskT × Own => []) (fun done rest a H => H b2 = some (.cells z3) ∧ H b8 = some (.cells [.str a.1.1, .str a.1.2.1, .sl a.2 6 (cMs a.1.2.2)]) ∧ askL rest a.1 = askL m zA) (zA, .nil) (by simp (disch := first | omega | assumption) only [go_sem, ↓reduceIte]) ⟨h2c, h8c, rfl⟩ ?_ ?_
        · rintro ⟨a, w⟩ H J ⟨k2, k8, ka⟩ hlt
          have eo : askOf m = (a, 0) := by unfold askOf; rw [← ka]; rfl
          rw [eo] at hQ
          unfold z3 at k2
          simp (disch := first | omega | assumption) only [hm, hlt, k2, k8, n28, n82, go_sem, ↓reduceIte]
          exact hQ _ _ _ [.agg [.str a.1, .str a.2.1, .sl w 6 (cMs a.2.2)], .int .i64 0] nofun (by simp (disch := first | omega | assumption) only [ir50, resvs, resv, upd_same, z3, go_sem, ↓reduceIte]) rfl
        · rintro done y rest ⟨a, w⟩ H J hd hlt hlt2 ⟨k2, k8, ka⟩ hJ
          have hg := cMs_get hd
          rcases y with ⟨t, ⟨k, n, s2, l2, m2⟩⟩
          unfold z3 at k2
          simp only at k8 ka
          rw [askL] at ka
          simp (disch := first | omega | assumption) only [hm, hlt, hg, cM_mk, cV_mk, go_sem, ↓reduceIte]
          refine goA_intro fun b10 hb10 => ?_
          have m2a := ne_of_none hb10 k2
          have m2b := Ne.symm m2a
          have m8a := ne_of_none hb10 k8
          have m8b := Ne.symm m8a
          have nx : ∀ a' w' H', askX (.mk t (.mk k n s2 l2 m2)) a = some a' → H' b2 = H b2 → H' b8 = some (.cells [.str a'.1, .str a'.2.1, .sl w' 6 (cMs a'.2.2)]) → J ((setAll _ [(39, .int .i64 ((done.length : Int) + 1))]).keep [2, 8, 37, 38, 39]) H' := fun a' w' H' e1 e2 e3 => by
            refine hJ (a', w') H' ⟨by rw [e2]; exact k2, e3, ?_⟩
            rw [← ka, e1]
          have er : askX (.mk t (.mk k n s2 l2 m2)) a = none → askOf m = (zA, 7) := fun e => by
            unfold askOf; rw [← ka, e]
          by_cases tq : t = [113, 117, 101, 114, 121]
          · subst tq
            by_cases k4 : k = 4
            · subst k4
              simp (disch := first | omega | assumption) only [m2a, m2b, m8a, m8b, n28, n82, k8, k2, wrap64, qv, qo, go_sem, ↓reduceIte]
              exact goJ (nx (s2, a.2.1, a.2.2) w _ (by simp [askX, qN, vN, oN, qv, qo]) (by simp [Heap.upd, m2a, m2b, n28, n82]) (by simp [Heap.upd, k8, m8a, m8b])) (by simp (disch := first | omega | assumption) only [go_sem, ↓reduceIte])
            · rw [er (by simp [askX, qN, vN, oN, k4, qv, qo])] at hQ
              simp (disch := first | omega | assumption) only [m2a, m2b, m8a, m8b, n28, n82, k8, k2, wrap64, k4, qv, qo, go_sem, ↓reduceIte]
              exact hQ _ _ _ [.agg z3, .int .i64 7] nofun (by simp (disch := first | omega | assumption) only [ir50, resvs, resv, upd_same, z3, m2a, m2b, go_sem, ↓reduceIte]) (stripz 7)
          by_cases tv : t = [118, 97, 114, 105, 97, 98, 108, 101, 115]
          · subst tv
            by_cases k7 : k = 7
            · subst k7
              simp (disch := first | omega | assumption) only [m2a, m2b, m8a, m8b, n28, n82, k8, k2, wrap64, vq, vo, go_sem, ↓reduceIte]
              exact goJ (nx (a.1, a.2.1, m2) .no _ (by simp [askX, qN, vN, oN, vq, vo]) (by simp [Heap.upd, m2a, m2b, n28, n82]) (by simp [Heap.upd, k8, m8a, m8b])) (by simp (disch := first | omega | assumption) only [go_sem, ↓reduceIte])
            by_cases k0 : k = 0
            · subst k0
              simp (disch := first | omega | assumption) only [m2a, m2b, m8a, m8b, n28, n82, k8, k2, wrap64, vq, vo, go_sem, ↓reduceIte]
              exact goJ (nx a w _ (by simp [askX, qN, vN, oN, vq, vo]) (by simp [Heap.upd, m2a, m2b, n28, n82]) (by simp [Heap.upd, k8, m8a, m8b])) (by simp (disch := first | omega | assumption) only [go_sem, ↓reduceIte])
            · rw [er (by simp [askX, qN, vN, oN, k7, k0, vq, vo])] at hQ
              simp (disch := first | omega | assumption) only [m2a, m2b, m8a, m8b, n28, n82, k8, k2, wrap64, k7, k0, vq, vo, go_sem, ↓reduceIte]
              exact hQ _ _ _ [.agg z3, .int .i64 7] nofun (by simp (disch := first | omega | assumption) only [ir50, resvs, resv, upd_same, z3, m2a, m2b, go_sem, ↓reduceIte]) (stripz 7)
          by_cases tp : t = [111, 112, 101, 114, 97, 116, 105, 111, 110, 78, 97, 109, 101]
          · subst tp
            by_cases k4 : k = 4
            · subst k4
              simp (disch := first | omega | assumption) only [m2a, m2b, m8a, m8b, n28, n82, k8, k2, wrap64, oq, ov, go_sem, ↓reduceIte]
              exact goJ (nx (a.1, s2, a.2.2) w _ (by simp [askX, qN, vN, oN, oq, ov]) (by simp [Heap.upd, m2a, m2b, n28, n82]) (by simp [Heap.upd, k8, m8a, m8b])) (by simp (disch := first | omega | assumption) only [go_sem, ↓reduceIte])
            by_cases k0 : k = 0
            · subst k0
              simp (disch := first | omega | assumption) only [m2a, m2b, m8a, m8b, n28, n82, k8, k2, wrap64, oq, ov, go_sem, ↓reduceIte]
              exact goJ (nx a w _ (by simp [askX, qN, vN, oN, oq, ov]) (by simp [Heap.upd, m2a, m2b, n28, n82]) (by simp [Heap.upd, k8, m8a, m8b])) (by simp (disch := first | omega | assumption) only [go_sem, ↓reduceIte])
            · rw [er (by simp [askX, qN, vN, oN, k4, k0, oq, ov])] at hQ
              simp (disch := first | omega | assumption) only [m2a, m2b, m8a, m8b, n28, n82, k8, k2, wrap64, k4, k0, oq, ov, go_sem, ↓reduceIte]
              exact hQ _ _ _ [.agg z3, .int .i64 7] nofun (by simp (disch := first | omega | assumption) only [ir50, resvs, resv, upd_same, z3, m2a, m2b, go_sem, ↓reduceIte]) (stripz 7)
          by_cases k0 : k = 0
          · subst k0
            simp (disch := first | omega | assumption) only [m2a, m2b, m8a, m8b, n28, n82, k8, k2, wrap64, tq, tv, tp, go_sem, ↓reduceIte]
            exact goJ (nx a w _ (by simp [askX, qN, vN, oN, tq, tv, tp]) (by simp [Heap.upd, m2a, m2b, n28, n82]) (by simp [Heap.upd, k8, m8a, m8b])) (by simp (disch := first | omega | assumption) only [go_sem, ↓reduceIte])
          · simp (disch := first | omega | assumption) only [m2a, m2b, m8a, m8b, n28, n82, k8, k2, wrap64, tq, tv, tp, k0, go_sem, ↓reduceIte]
            exact goJ (nx a w _ (by simp [askX, qN, vN, oN, tq, tv, tp]) (by simp [Heap.upd, m2a, m2b, n28, n82]) (by simp [Heap.upd, k8, m8a, m8b])) (by simp (disch := first | omega | assumption) only [go_sem, ↓reduceIte])
    · rw [if_neg hk] at hQ
      simp (disch := first | omega | assumption) only [h4, h2, hk, go_sem, ↓reduceIte]
      exact hQ _ _ _ [.agg z3, .int .i64 7] nofun (by simp (disch := first | omega | assumption) only [ir50, resvs, resv, upd_same, z3, go_sem, ↓reduceIte]) (stripz 7)
  · rw [if_neg he] at hQ
    simp (disch := first | omega | assumption) only [he, h2, go_sem, ↓reduceIte]
    exact hQ _ _ _ [.agg z3, .int .i64 e] nofun (by simp (disch := first | omega | assumption) only [ir50, resvs, resv, upd_same, z3, go_sem, ↓reduceIte]) (stripz e)
end Go.Proofs.YtpjafglhdlfnbaaDoor
namespace Go.Proofs.YtpjafglhdlfnbaaDoor
open Go.Ab Go.Lib
end Go.Proofs.YtpjafglhdlfnbaaDoor
namespace Go.Proofs.YtpjafglhdlfnbaaDoor
open Go.Ab Go.Lib
def exQ : List UInt8 := [123, 34, 113, 117, 101, 114, 121, 34, 58, 34, 123, 97, 125, 34, 125]
def exE : List UInt8 := [123, 125]
theorem exQ_r : askM exQ = (([123, 97, 125], [], []), 0) := by kernel_rfl
theorem exE_r : askM exE = (zA, 6) := by kernel_rfl
theorem awakeA : Pure Tryd.prog 41 [] (.bool true) := by
  refine Pure.go ir41 ck41 (Nat.le_refl _) fun KP Q hQ => ?_
  simp (disch := first | omega | assumption) only [ir41, go_sem, ↓reduceIte]
  refine goK_pure (askC exQ (by decide)) ?_
  rw [exQ_r]
  simp (disch := first | omega | assumption) only [cA, go_sem, ↓reduceIte]
  refine goA_intro fun b hb => ?_
  simp (disch := first | omega | assumption) only [cA, go_sem, ↓reduceIte]
  refine goK_pure (askC exE (by decide)) ?_
  rw [exE_r]
  simp (disch := first | omega | assumption) only [cA, zA, go_sem, ↓reduceIte]
  refine goA_intro fun b2 hb2 => ?_
  have n := ne_of_none hb2 (upd_same ..)
  simp (disch := first | omega | assumption) only [cA, zA, n, Ne.symm n, cMs, go_sem, ↓reduceIte]
  exact hQ _ _ _ _ nofun rfl (by simp [tupOf, envOf, AV.strip, AV.strip1])
end Go.Proofs.YtpjafglhdlfnbaaDoor
namespace Go.Proofs.YtpjafglhdlfnbaaDoor
open Go.Ab
theorem sameDirsR (a b : List DirD) (ha : bDs a ≤ Lim) : Pure Tryd.prog 71 [.sl .no 2 (cDs a), .sl .no 2 (cDs b)] (.bool (eqd a b)) := by
  refine Pure.go ir71 ck71 (Nat.le_refl _) fun KP Q hQ => ?_
  have h1 := cDs_len a
  have h2 := cDs_len b
  have hla := bDs_len a
  simp only [Lim] at ha
  by_cases hl : a.length = b.length
  case neg =>
    have hl' : ¬ ((a.length : Int) = b.length) := by omega
    have hne : a ≠ b := fun e => hl (by rw [e])
    simp (disch := first | omega | assumption) only [ir71, h1, h2, hl', go_sem, ↓reduceIte]
    exact hQ _ _ _ _ nofun rfl (by simp [tupOf, envOf, AV.strip, AV.strip1, eqd_false hne])
  have hl' : ((a.length : Int) = b.length) = True := eq_true (by omega)
  simp (disch := first | omega | assumption) only [ir71, h1, h2, hl', go_sem, ↓reduceIte]
  refine goL_range a 5 (fun _ : Unit => []) (fun done rest n H => b.take done.length = done) () (by simp (disch := first | omega | assumption) only [go_sem, ↓reduceIte]) rfl ?_ ?_
  · rintro n H J hp hlt
    simp (disch := first | omega | assumption) only [h1, hlt, go_sem, ↓reduceIte]
    exact hQ _ _ _ _ nofun rfl (by simp [tupOf, envOf, AV.strip, AV.strip1, eqd_true (two_end hl hp)])
  · rintro done x rest n H J hd hlt _ hp hJ
    obtain ⟨y, r, hb⟩ := two_mid hd hl hp
    have g1 := cDs_get hd
    have g2 := cDs_get hb
    have hlt2 : (done.length : Int) < b.length := by omega
    have hbm := bDs_mid done x rest
    rw [← hd] at hbm
    have hst := two_step hb
    have hne : x ≠ y → a ≠ b := two_ne hd hb
    obtain ⟨s, v⟩ := x
    obtain ⟨t, u⟩ := y
    simp only [bD] at hbm
    by_cases hs : s = t
    case neg =>
      have hne2 := hne (by simp [hs])
      simp (disch := first | omega | assumption) only [h1, h2, hlt, hlt2, g1, g2, hs, cD, go_sem, ↓reduceIte]
      exact hQ _ _ _ _ nofun rfl (by simp [tupOf, envOf, AV.strip, AV.strip1, eqd_false hne2])
    simp (disch := first | omega | assumption) only [h1, h2, hlt, hlt2, g1, g2, hs, cD, go_sem, ↓reduceIte]
    refine goK_pure (membersE v u (by simp only [Lim]; omega)) ?_
    by_cases hv : v = u
    · simp (disch := first | omega | assumption) only [eqd_true hv, go_sem, ↓reduceIte]
      exact goJ (hJ () _ (by rw [hs, hv]; exact hst)) (by simp (disch := first | omega | assumption) only [wrap64, go_sem, ↓reduceIte])
    · have := hne (by simp [hv])
      simp (disch := first | omega | assumption) only [eqd_false hv, go_sem, ↓reduceIte]
      exact hQ _ _ _ _ nofun rfl (by simp [tupOf, envOf, AV.strip, AV.strip1, eqd_false this])
theorem sameSelsN : ∀ n : Nat, ∀ a b : List SelD, bSs a ≤ n → n ≤ Lim → Pure Tryd.prog 72 [.sl .no 7 (cSs a), .sl .no 7 (cSs b)] (.bool (eqd a b)) := by
  intro n
  induction n using Nat.strongRecOn with
  | _ n ih =>
  intro a b hn hN
  refine Pure.go ir72 ck72 (Nat.le_refl _) fun KP Q hQ => ?_
  have h1 := cSs_len a
  have h2 := cSs_len b
  have hla := bSs_len a
  have hN' := hN
  simp only [Lim] at hN'
  by_cases hl : a.length = b.length
  case neg =>
    have hl' : ¬ ((a.length : Int) = b.length) := by omega
    have hne : a ≠ b := fun e => hl (by rw [e])
    simp (disch := first | omega | assumption) only [ir72, h1, h2, hl', go_sem, ↓reduceIte]
    exact hQ _ _ _ _ nofun rfl (by simp [tupOf, envOf, AV.strip, AV.strip1, eqd_false hne])
  have hl' : ((a.length : Int) = b.length) = True := eq_true (by omega)
  simp (disch := first | omega | assumption) only [ir72, h1, h2, hl', go_sem, ↓reduceIte]
  refine goL_range a 5 (fun _ : Unit => []) (fun done rest n H => b.take done.length = done) () (by simp (disch := first | omega | assumption) only [go_sem, ↓reduceIte]) rfl ?_ ?_
  · rintro n H J hp hlt
    simp (disch := first | omega | assumption) only [h1, hlt, go_sem, ↓reduceIte]
    exact hQ _ _ _ _ nofun rfl (by simp [tupOf, envOf, AV.strip, AV.strip1, eqd_true (two_end hl hp)])
  · rintro done x rest _ H J hd hlt _ hp hJ
    obtain ⟨y, r, hb⟩ := two_mid hd hl hp
    have g1 := cSs_get hd
    have g2 := cSs_get hb
    have hlt2 : (done.length : Int) < b.length := by omega
    have hbm := bSs_mid done x rest
    rw [← hd] at hbm
    have hst := two_step hb
    have hne : x ≠ y → a ≠ b := two_ne hd hb
    obtain ⟨k, al, nm, args, dirs, on, sels⟩ := x
    obtain ⟨k', al', nm', args', dirs', on', sels'⟩ := y
    simp only [bS] at hbm
    rw [cS_mk] at g1 g2
    simp (disch := first | omega | assumption) only [h1, h2, hlt, hlt2, g1, g2, go_sem, ↓reduceIte]
    refine goA_intro fun b6 hb6 => ?_
    simp (disch := first | omega | assumption) only [h1, h2, hlt, hlt2, g1, g2, go_sem, ↓reduceIte]
    refine goA_intro fun b7 hb7 => ?_
    have n76 : b7 ≠ b6 := fun e => by subst e; rw [upd_same] at hb7; cases hb7
    have n67 := Ne.symm n76
    simp (disch := first | omega | assumption) only [h1, h2, hlt, hlt2, g1, g2, n67, n76, go_sem, ↓reduceIte]
    by_cases e1 : k = k'
    case neg =>
      have hne2 := hne (by simp [e1])
      simp (disch := first | omega | assumption) only [e1, n67, n76, go_sem, ↓reduceIte]
      exact hQ _ _ _ _ nofun rfl (by simp [tupOf, envOf, AV.strip, AV.strip1, eqd_false hne2])
    by_cases e2 : al = al'
    case neg =>
      have hne2 := hne (by simp [e2])
      simp (disch := first | omega | assumption) only [e1, e2, n67, n76, go_sem, ↓reduceIte]
      exact hQ _ _ _ _ nofun rfl (by simp [tupOf, envOf, AV.strip, AV.strip1, eqd_false hne2])
    by_cases e3 : nm = nm'
    case neg =>
      have hne2 := hne (by simp [e3])
      simp (disch := first | omega | assumption) only [e1, e2, e3, n67, n76, go_sem, ↓reduceIte]
      exact hQ _ _ _ _ nofun rfl (by simp [tupOf, envOf, AV.strip, AV.strip1, eqd_false hne2])
    by_cases e4 : on = on'
    case neg =>
      have hne2 := hne (by simp [e4])
      simp (disch := first | omega | assumption) only [e1, e2, e3, e4, n67, n76, go_sem, ↓reduceIte]
      exact hQ _ _ _ _ nofun rfl (by simp [tupOf, envOf, AV.strip, AV.strip1, eqd_false hne2])
    simp (disch := first | omega | assumption) only [e1, e2, e3, e4, n67, n76, go_sem, ↓reduceIte]
    refine goK_pure (membersE args args' (by omega)) ?_
    by_cases e5 : args = args'
    case neg =>
      have hne2 := hne (by simp [e5])
      simp (disch := first | omega | assumption) only [eqd_false e5, n67, n76, go_sem, ↓reduceIte]
      exact hQ _ _ _ _ nofun rfl (by simp [tupOf, envOf, AV.strip, AV.strip1, eqd_false hne2])
    simp (disch := first | omega | assumption) only [eqd_true e5, n67, n76, go_sem, ↓reduceIte]
    refine goK_pure (sameDirsR dirs dirs' (by omega)) ?_
    by_cases e6 : dirs = dirs'
    case neg =>
      have hne2 := hne (by simp [e6])
      simp (disch := first | omega | assumption) only [eqd_false e6, n67, n76, go_sem, ↓reduceIte]
      exact hQ _ _ _ _ nofun rfl (by simp [tupOf, envOf, AV.strip, AV.strip1, eqd_false hne2])
    simp (disch := first | omega | assumption) only [eqd_true e6, n67, n76, go_sem, ↓reduceIte]
    refine goK_pure (ih (bSs sels) (by omega) sels sels' (Nat.le_refl _) (by omega)) ?_
    by_cases e7 : sels = sels'
    case neg =>
      have hne2 := hne (by simp [e7])
      simp (disch := first | omega | assumption) only [eqd_false e7, n67, n76, go_sem, ↓reduceIte]
      exact hQ _ _ _ _ nofun rfl (by simp [tupOf, envOf, AV.strip, AV.strip1, eqd_false hne2])
    simp (disch := first | omega | assumption) only [eqd_true e7, n67, n76, go_sem, ↓reduceIte]
    exact goJ (hJ () _ (by rw [e1, e2, e3, e4, e5, e6, e7]; exact hst)) (by simp (disch := first | omega | assumption) only [wrap64, go_sem, ↓reduceIte])
theorem sameSelsR (a b : List SelD) (ha : bSs a ≤ Lim) : Pure Tryd.prog 72 [.sl .no 7 (cSs a), .sl .no 7 (cSs b)] (.bool (eqd a b)) := sameSelsN (bSs a) a b (Nat.le_refl _) ha
theorem sameOpR (a b : OpD) (ha : bO a ≤ Lim) : Pure Tryd.prog 44 [.agg (cO a), .agg (cO b)] (.bool (eqd a b)) := by
  refine Pure.go ir44 ck44 (Nat.le_refl _) fun KP Q hQ => ?_
  obtain ⟨k, nm, vars, dirs, sels⟩ := a
  obtain ⟨k', nm', vars', dirs', sels'⟩ := b
  simp only [bO] at ha
  have h1 := cWs_len vars
  have h2 := cWs_len vars'
  have hla := bWs_len vars
  have ha' := ha
  simp only [Lim] at ha'
  simp (disch := first | omega | assumption) only [ir44, cO, go_sem, ↓reduceIte]
  by_cases e1 : k = k'
  case neg =>
    have hne : OpD.mk k nm vars dirs sels ≠ OpD.mk k' nm' vars' dirs' sels' := by simp [e1]
    simp (disch := first | omega | assumption) only [e1, go_sem, ↓reduceIte]
    exact hQ _ _ _ _ nofun rfl (by simp [tupOf, envOf, AV.strip, AV.strip1, eqd_false hne])
  by_cases e2 : nm = nm'
  case neg =>
    have hne : OpD.mk k nm vars dirs sels ≠ OpD.mk k' nm' vars' dirs' sels' := by simp [e2]
    simp (disch := first | omega | assumption) only [e1, e2, go_sem, ↓reduceIte]
    exact hQ _ _ _ _ nofun rfl (by simp [tupOf, envOf, AV.strip, AV.strip1, eqd_false hne])
  by_cases hl : vars.length = vars'.length
  case neg =>
    have hl' : ¬ ((vars.length : Int) = vars'.length) := by omega
    have hne : OpD.mk k nm vars dirs sels ≠ OpD.mk k' nm' vars' dirs' sels' := fun e => hl (by rw [(OpD.mk.inj e).2.2.1])
    simp (disch := first | omega | assumption) only [e1, e2, h1, h2, hl', go_sem, ↓reduceIte]
    exact hQ _ _ _ _ nofun rfl (by simp [tupOf, envOf, AV.strip, AV.strip1, eqd_false hne])
  have hl' : ((vars.length : Int) = vars'.length) = True := eq_true (by omega)
  simp (disch := first | omega | assumption) only [e1, e2, h1, h2, hl', go_sem, ↓reduceIte]
  refine goK_pure (sameDirsR dirs dirs' (by omega)) ?_
  by_cases e3 : dirs = dirs'
  case neg =>
    have hne : OpD.mk k nm vars dirs sels ≠ OpD.mk k' nm' vars' dirs' sels' := by simp [e3]
    simp (disch := first | omega | assumption) only [eqd_false e3, go_sem, ↓reduceIte]
    exact hQ _ _ _ _ nofun rfl (by simp [tupOf, envOf, AV.strip, AV.strip1, eqd_false hne])
  simp (disch := first | omega | assumption) only [eqd_true e3, go_sem, ↓reduceIte]
  refine goK_pure (sameSelsR sels sels' (by omega)) ?_
  by_cases e4 : sels = sels'
  case neg =>
    have hne : OpD.mk k nm vars dirs sels ≠ OpD.mk k' nm' vars' dirs' sels' := by simp [e4]
    simp (disch := first | omega | assumption) only [eqd_false e4, go_sem, ↓reduceIte]
    exact hQ _ _ _ _ nofun rfl (by simp [tupOf, envOf, AV.strip, AV.strip1, eqd_false hne])
  simp (disch := first | omega | assumption) only [eqd_true e4, go_sem, ↓reduceIte]
  refine goL_range vars 5 (fun _ : Unit => []) (fun done rest n H => vars'.take done.length = done) () (by simp (disch := first | omega | assumption) only [go_sem, ↓reduceIte]) rfl ?_ ?_
  · rintro n H J hp hlt
    have e5 := two_end hl hp
    simp (disch := first | omega | assumption) only [h1, hlt, go_sem, ↓reduceIte]
    have heq : OpD.mk k nm vars dirs sels = OpD.mk k' nm' vars' dirs' sels' := by rw [e1, e2, e3, e4, e5]
    exact hQ _ _ _ _ nofun rfl (by simp [tupOf, envOf, AV.strip, AV.strip1, eqd_true heq])
  · rintro done x rest _ H J hd hlt _ hp hJ
    obtain ⟨y, r, hb⟩ := two_mid hd hl hp
    have g1 := cWs_get hd
    have g2 := cWs_get hb
    have hlt2 : (done.length : Int) < vars'.length := by omega
    have hbm := bWs_mid done x rest
    rw [← hd] at hbm
    have hst := two_step hb
    have hne0 : x ≠ y → vars ≠ vars' := two_ne hd hb
    have hne : x ≠ y → OpD.mk k nm vars dirs sels ≠ OpD.mk k' nm' vars' dirs' sels' := fun h e => hne0 h (OpD.mk.inj e).2.2.1
    obtain ⟨vn, ⟨tn, tl, tm⟩, vh, vd⟩ := x
    obtain ⟨vn', ⟨tn', tl', tm'⟩, vh', vd'⟩ := y
    simp only [bW] at hbm
    obtain ⟨dk, dn, ds, dl, dm⟩ := vd
    obtain ⟨dk', dn', ds', dl', dm'⟩ := vd'
    rw [cW_mk, cV_mk] at g1 g2
    simp only at g1 g2
    simp (disch := first | omega | assumption) only [h1, h2, hlt, hlt2, g1, g2, go_sem, ↓reduceIte]
    refine goA_intro fun b6 hb6 => ?_
    simp (disch := first | omega | assumption) only [h1, h2, hlt, hlt2, g1, g2, go_sem, ↓reduceIte]
    refine goA_intro fun b7 hb7 => ?_
    have n76 : b7 ≠ b6 := fun e => by subst e; rw [upd_same] at hb7; cases hb7
    have n67 := Ne.symm n76
    simp (disch := first | omega | assumption) only [h1, h2, hlt, hlt2, g1, g2, n67, n76, go_sem, ↓reduceIte]
    by_cases f1 : vn = vn'
    case neg =>
      have hne2 := hne (by simp [f1])
      simp (disch := first | omega | assumption) only [f1, n67, n76, go_sem, ↓reduceIte]
      exact hQ _ _ _ _ nofun rfl (by simp [tupOf, envOf, AV.strip, AV.strip1, eqd_false hne2])
    by_cases f3 : tn = tn'
    case neg =>
      have hne2 := hne (by simp [f3])
      simp (disch := first | omega | assumption) only [f1, f3, n67, n76, fitsAll, K1.fits, keqs, AV.keq1, Bool.and_true, Bool.true_and, Bool.and_false, Bool.false_and, decide_true, decide_false, go_sem, ↓reduceIte]
      exact hQ _ _ _ _ nofun rfl (by simp [tupOf, envOf, AV.strip, AV.strip1, eqd_false hne2])
    by_cases f4 : tl = tl'
    case neg =>
      have hne2 := hne (by simp [f4])
      simp (disch := first | omega | assumption) only [f1, f3, f4, n67, n76, fitsAll, K1.fits, keqs, AV.keq1, Bool.and_true, Bool.true_and, Bool.and_false, Bool.false_and, decide_true, decide_false, go_sem, ↓reduceIte]
      exact hQ _ _ _ _ nofun rfl (by simp [tupOf, envOf, AV.strip, AV.strip1, eqd_false hne2])
    by_cases f5 : tm = tm'
    case neg =>
      have hne2 := hne (by simp [f5])
      simp (disch := first | omega | assumption) only [f1, f3, f4, f5, n67, n76, fitsAll, K1.fits, keqs, AV.keq1, Bool.and_true, Bool.true_and, Bool.and_false, Bool.false_and, decide_true, decide_false, go_sem, ↓reduceIte]
      exact hQ _ _ _ _ nofun rfl (by simp [tupOf, envOf, AV.strip, AV.strip1, eqd_false hne2])
    have q1 : (false == true) = false := rfl
    have q2 : (true == false) = false := rfl
    have q3 : (true == true) = true := rfl
    have q4 : (false == false) = true := rfl
    by_cases f6 : vh = vh'
    case neg =>
      have hne2 := hne (by simp [f6])
      cases vh <;> cases vh' <;> first | exact absurd rfl f6 | skip
      all_goals
        simp (disch := first | omega | assumption) only [f1, f3, f4, f5, n67, n76, q1, q2, q3, q4, Bool.not_true, Bool.not_false, fitsAll, K1.fits, keqs, AV.keq1, Bool.and_true, Bool.true_and, Bool.and_false, Bool.false_and, decide_true, decide_false, go_sem, ↓reduceIte]
        exact hQ _ _ _ _ nofun rfl (by simp [tupOf, envOf, AV.strip, AV.strip1, eqd_false hne2])
    subst f6
    cases vh
    all_goals
      simp (disch := first | omega | assumption) only [f1, f3, f4, f5, n67, n76, q1, q2, q3, q4, Bool.not_true, Bool.not_false, fitsAll, K1.fits, keqs, AV.keq1, Bool.and_true, Bool.true_and, Bool.and_false, Bool.false_and, decide_true, decide_false, go_sem, ↓reduceIte]
      refine goK_pure (sameR (.mk dk dn ds dl dm) (by omega) (.mk dk' dn' ds' dl' dm')) ?_
      by_cases f7 : Val.mk dk dn ds dl dm = .mk dk' dn' ds' dl' dm'
      case neg =>
        have hne2 := hne (fun e => f7 (VarD.mk.inj e).2.2.2)
        simp (disch := first | omega | assumption) only [eqd_false f7, go_sem, ↓reduceIte]
        exact hQ _ _ _ _ nofun rfl (by simp [tupOf, envOf, AV.strip, AV.strip1, eqd_false hne2])
      simp (disch := first | omega | assumption) only [eqd_true f7, go_sem, ↓reduceIte]
      exact goJ (hJ () _ (by rw [f1, f3, f4, f5, f7]; exact hst)) (by simp (disch := first | omega | assumption) only [wrap64, go_sem, ↓reduceIte])
end Go.Proofs.YtpjafglhdlfnbaaDoor
namespace Go.Proofs.YtpjafglhdlfnbaaDoor
open Go.Ab
def lD (x : DirD) : Nat := 2 + x.nm.length + bMs x.args
def lDs (l : List DirD) : Nat := (l.map lD).sum
mutual
def lS : SelD → Nat
  | .mk _ al nm args dirs on sels => 2 + nm.length + al.length + on.length + bMs args + lDs dirs + lSs sels
def lSs : List SelD → Nat
  | [] => 0
  | x :: r => lS x + lSs r
end
def lW (x : VarD) : Nat := 1 + bV x.d + x.nm.length
def lWs (l : List VarD) : Nat := (l.map lW).sum
def lO (x : OpD) : Nat := 1 + lDs x.dirs + lSs x.sels + x.nm.length + lWs x.vars
def lF (x : FragD) : Nat := 1 + lDs x.dirs + lSs x.sels + x.nm.length
def lOs (l : List OpD) : Nat := (l.map lO).sum
def lFs (l : List FragD) : Nat := (l.map lF).sum
def lightB (d : DocD) : Bool := decide (lOs d.ops + lFs d.frags ≤ 3200)
theorem sum_le {α : Type} {f g : α → Nat} {c : Nat} (h : ∀ x, f x ≤ c * g x) : ∀ l : List α, (l.map f).sum ≤ c * (l.map g).sum
  | [] => Nat.zero_le _
  | x :: r => by have := sum_le h r; have := h x; simp only [List.map_cons, List.sum_cons, Nat.mul_add]; omega
theorem lDs_le (l : List DirD) : lDs l ≤ 2 * bDs l := sum_le (fun x => by simp only [lD, bD]; omega) l
mutual
theorem lS_le : ∀ x, lS x ≤ 2 * bS x
  | .mk k al nm args dirs on sels => by
    have h1 := lDs_le dirs
    have h2 := lSs_le sels
    simp only [lS, bS]; omega
theorem lSs_le : ∀ l, lSs l ≤ 2 * bSs l
  | [] => by simp [lSs]
  | x :: r => by
    have h1 := lS_le x
    have h2 := lSs_le r
    simp only [lSs, bSs]; omega
end
theorem lWs_le (l : List VarD) : lWs l ≤ 2 * bWs l := sum_le (fun x => by have := bV_pos x.d; simp only [lW, bW]; omega) l
theorem lO_le (x : OpD) : lO x ≤ 2 * bO x := by
  have h1 := lDs_le x.dirs
  have h2 := lSs_le x.sels
  have h3 := lWs_le x.vars
  simp only [lO, bO]; omega
theorem lF_le (x : FragD) : lF x ≤ 2 * bF x := by
  have h1 := lDs_le x.dirs
  have h2 := lSs_le x.sels
  simp only [lF, bF]; omega
theorem lOs_le (l : List OpD) : lOs l ≤ 2 * bOs l := sum_le lO_le l
theorem lFs_le (l : List FragD) : lFs l ≤ 2 * bFs l := sum_le lF_le l
theorem lightDirsC (l : List DirD) (hb : bDs l ≤ Lim) : Pure Tryd.prog 67 [.sl .no 2 (cDs l)] (.int .i64 (lDs l)) := by
  refine Pure.go ir67 ck67 (Nat.le_refl _) fun KP Q hQ => ?_
  have h1 := cDs_len l
  have hl := bDs_len l
  have hle := lDs_le l
  have hb' := hb
  simp only [Lim] at hb'
  simp (disch := first | omega | assumption) only [ir67, h1, go_sem, ↓reduceIte]
  refine goL_range l 4 (fun n : Int => [(3, .int .i64 n)]) (fun done rest n H => n + lDs rest = lDs l) 0 (by simp (disch := first | omega | assumption) only [go_sem, ↓reduceIte]) (by simp) ?_ ?_
  · rintro n H J hn hlt
    simp only [lDs, List.map_nil, List.sum_nil] at hn
    simp (disch := first | omega | assumption) only [h1, hlt, go_sem, ↓reduceIte]
    have : n = ((lDs l : Nat) : Int) := by simp only [lDs]; omega
    exact hQ _ _ _ _ nofun rfl (by simp [tupOf, envOf, AV.strip, AV.strip1, this])
  · rintro done x rest n H J hd hlt _ hn hJ
    have hg := cDs_get hd
    have hbm := bDs_mid done x rest
    rw [← hd] at hbm
    obtain ⟨nm, args⟩ := x
    simp only [bD] at hbm
    have hn' : n + (2 + nm.length + bMs args + lDs rest : Nat) = lDs l := by rw [← hn]; simp [lDs, lD]
    have hsz : bV (.mk 0 0 [] [] args) = 1 + bMs args := by simp [bV, bVs]
    have hp : (0 : Int) ≤ n := by
      have := lDs_le rest
      have e : lDs l = lDs done + lDs (⟨nm, args⟩ :: rest) := by rw [hd]; simp [lDs]
      omega
    simp (disch := first | omega | assumption) only [h1, hlt, hg, cD, wrap64, go_sem, ↓reduceIte]
    refine goK_pure (Pure.low (sizeC (.mk 0 0 [] [] args) (by rw [hsz]; simp only [Lim]; omega))) ?_
    rw [hsz]
    simp (disch := first | omega | assumption) only [h1, hlt, hg, cD, wrap64, go_sem, ↓reduceIte]
    exact goJ (hJ (n + 1 + nm.length + ((1 + bMs args : Nat) : Int)) _ (by omega)) (by simp (disch := first | omega | assumption) only [wrap64, go_sem, ↓reduceIte])
theorem lightSelsN : ∀ c : Nat, ∀ l : List SelD, bSs l ≤ c → c ≤ Lim → Pure Tryd.prog 68 [.sl .no 7 (cSs l)] (.int .i64 (lSs l)) := by
  intro c
  induction c using Nat.strongRecOn with
  | _ c ih =>
  intro l hb hc
  refine Pure.go ir68 ck68 (Nat.le_refl _) fun KP Q hQ => ?_
  have h1 := cSs_len l
  have hl := bSs_len l
  have hle := lSs_le l
  have hb' := hc
  simp only [Lim] at hb'
  simp (disch := first | omega | assumption) only [ir68, h1, go_sem, ↓reduceIte]
  refine goL_range l 4 (fun n : Int => [(3, .int .i64 n)]) (fun done rest n H => n + lSs rest = lSs l ∧ 0 ≤ n) 0 (by simp (disch := first | omega | assumption) only [go_sem, ↓reduceIte]) (by simp) ?_ ?_
  · rintro n H J ⟨hn, _⟩ hlt
    simp only [lSs] at hn
    simp (disch := first | omega | assumption) only [h1, hlt, go_sem, ↓reduceIte]
    have : n = ((lSs l : Nat) : Int) := by omega
    exact hQ _ _ _ _ nofun rfl (by simp [tupOf, envOf, AV.strip, AV.strip1, this])
  · rintro done x rest n H J hd hlt _ ⟨hn, hp⟩ hJ
    have hg := cSs_get hd
    have hbm := bSs_mid done x rest
    rw [← hd] at hbm
    obtain ⟨k, al, nm, args, dirs, on, sels⟩ := x
    have hdl := lDs_le dirs
    have hsl := lSs_le sels
    simp only [bS] at hbm
    rw [cS_mk] at hg
    simp only [lSs, lS] at hn
    have hsz : bV (.mk 0 0 [] [] args) = 1 + bMs args := by simp [bV, bVs]
    simp (disch := first | omega | assumption) only [h1, hlt, hg, wrap64, go_sem, ↓reduceIte]
    refine goK_pure (Pure.low (sizeC (.mk 0 0 [] [] args) (by rw [hsz]; simp only [Lim]; omega))) ?_
    rw [hsz]
    simp (disch := first | omega | assumption) only [h1, hlt, hg, wrap64, go_sem, ↓reduceIte]
    refine goK_pure (lightDirsC dirs (by simp only [Lim]; omega)) ?_
    simp (disch := first | omega | assumption) only [h1, hlt, hg, wrap64, go_sem, ↓reduceIte]
    refine goK_pure (ih (bSs sels) (by omega) sels (Nat.le_refl _) (by omega)) ?_
    simp (disch := first | omega | assumption) only [h1, hlt, hg, wrap64, go_sem, ↓reduceIte]
    exact goJ (hJ (n + 1 + nm.length + al.length + on.length + ((1 + bMs args : Nat) : Int) + lDs dirs + lSs sels) _ ⟨by omega, by omega⟩) (by simp (disch := first | omega | assumption) only [wrap64, go_sem, ↓reduceIte])
theorem lightSelsC (l : List SelD) (hb : bSs l ≤ Lim) : Pure Tryd.prog 68 [.sl .no 7 (cSs l)] (.int .i64 (lSs l)) := lightSelsN (bSs l) l (Nat.le_refl _) hb
theorem lightC (d : DocD) (hb : bDoc d ≤ Lim) : Pure Tryd.prog 40 [.agg (cDoc d)] (.bool (lightB d)) := by
  refine Pure.go ir40 ck40 (Nat.le_refl _) fun KP Q hQ => ?_
  obtain ⟨ops, frags⟩ := d
  simp only [bDoc] at hb
  have h1 := cOs_len ops
  have h2 := cFs_len frags
  have hl1 := bOs_len ops
  have hl2 := bFs_len frags
  have hle1 := lOs_le ops
  have hle2 := lFs_le frags
  have hb' := hb
  simp only [Lim] at hb'
  simp (disch := first | omega | assumption) only [ir40, cDoc, go_sem, ↓reduceIte]
  refine goL_range ops 4 (fun n : Int => [(3, .int .i64 n)]) (fun done rest n H => n + lOs rest = lOs ops ∧ 0 ≤ n) 0 (by simp (disch := first | omega | assumption) only [go_sem, ↓reduceIte]) (by simp) ?_ ?_
  · rintro n H J ⟨hn, hp⟩ hlt
    simp only [lOs, List.map_nil, List.sum_nil] at hn
    have hn : n = ((lOs ops : Nat) : Int) := by simp only [lOs]; omega
    subst hn
    simp (disch := first | omega | assumption) only [h1, hlt, go_sem, ↓reduceIte]
    refine goL_range frags 6 (fun n : Int => [(3, .int .i64 n)]) (fun done rest n H => n + lFs rest = (lOs ops + lFs frags : Nat) ∧ 0 ≤ n) (lOs ops : Nat) (by simp (disch := first | omega | assumption) only [go_sem, ↓reduceIte]) ⟨by omega, by omega⟩ ?_ ?_
    · rintro n H J ⟨hn, _⟩ hlt
      simp only [lFs, List.map_nil, List.sum_nil] at hn
      have e : decide (n ≤ 3200) = lightB ⟨ops, frags⟩ := by simp only [lightB, lFs]; exact decide_eq_decide.2 (by omega)
      simp (disch := first | omega | assumption) only [h2, hlt, go_sem, ↓reduceIte]
      exact hQ _ _ _ _ nofun rfl (by simp [tupOf, envOf, AV.strip, AV.strip1, e])
    · rintro done x rest n H J hd hlt _ ⟨hn, hp⟩ hJ
      have hg := cFs_get hd
      have hbm := bFs_mid done x rest
      rw [← hd] at hbm
      obtain ⟨nm, on, dirs, sels⟩ := x
      simp only [bF] at hbm
      have hdl := lDs_le dirs
      have hsl := lSs_le sels
      have hn' : n + (1 + lDs dirs + lSs sels + nm.length + lFs rest : Nat) = (lOs ops + lFs frags : Nat) := by rw [← hn]; simp [lFs, lF]
      simp (disch := first | omega | assumption) only [h2, hlt, hg, cF, wrap64, go_sem, ↓reduceIte]
      refine goK_pure (lightDirsC dirs (by simp only [Lim]; omega)) ?_
      simp (disch := first | omega | assumption) only [h2, hlt, hg, cF, wrap64, go_sem, ↓reduceIte]
      refine goK_pure (lightSelsC sels (by simp only [Lim]; omega)) ?_
      simp (disch := first | omega | assumption) only [h2, hlt, hg, cF, wrap64, go_sem, ↓reduceIte]
      exact goJ (hJ (n + 1 + lDs dirs + lSs sels + nm.length) _ ⟨by omega, by omega⟩) (by simp (disch := first | omega | assumption) only [wrap64, go_sem, ↓reduceIte])
  · rintro done x rest n H J hd hlt _ ⟨hn, hp⟩ hJ
    have hg := cOs_get hd
    have hbm := bOs_mid done x rest
    rw [← hd] at hbm
    obtain ⟨k, nm, vars, dirs, sels⟩ := x
    simp only [bO] at hbm
    have hdl := lDs_le dirs
    have hsl := lSs_le sels
    have hwl := lWs_le vars
    have h3 := cWs_len vars
    have h4 := bWs_len vars
    have hn' : n + (1 + lDs dirs + lSs sels + nm.length + lWs vars + lOs rest : Nat) = lOs ops := by rw [← hn]; simp [lOs, lO]
    simp (disch := first | omega | assumption) only [h1, hlt, hg, cO, wrap64, go_sem, ↓reduceIte]
    refine goK_pure (lightDirsC dirs (by simp only [Lim]; omega)) ?_
    simp (disch := first | omega | assumption) only [h1, hlt, hg, cO, wrap64, go_sem, ↓reduceIte]
    refine goK_pure (lightSelsC sels (by simp only [Lim]; omega)) ?_
    simp (disch := first | omega | assumption) only [h1, hlt, hg, cO, wrap64, go_sem, ↓reduceIte]
    refine goL_range vars 5 (fun n : Int => [(3, .int .i64 n)]) (fun done' rest' n' H => n' + lWs rest' = n + 1 + lDs dirs + lSs sels + nm.length + lWs vars ∧ 0 ≤ n') (n + 1 + lDs dirs + lSs sels + nm.length) (by simp (disch := first | omega | assumption) only [go_sem, ↓reduceIte]) ⟨by omega, by omega⟩ ?_ ?_
    · rintro n2 H J' ⟨hn2, hp2⟩ hlt2
      simp only [lWs, List.map_nil, List.sum_nil] at hn2
      simp (disch := first | omega | assumption) only [h1, h3, hlt, hg, hlt2, cO, wrap64, go_sem, ↓reduceIte]
      exact goJ (hJ n2 _ ⟨by simp only [lWs] at hn'; omega, by omega⟩) (by simp (disch := first | omega | assumption) only [wrap64, go_sem, ↓reduceIte])
    · rintro done2 y rest2 n2 H J' hd2 hlt2 _ ⟨hn2, hp2⟩ hJ'
      have hg2 := cWs_get hd2
      have hbm2 := bWs_mid done2 y rest2
      rw [← hd2] at hbm2
      obtain ⟨vn, ⟨tn, tl, tm⟩, vh, ⟨dk, dn, ds, dl, dm⟩⟩ := y
      rw [cW_mk, cV_mk] at hg2
      simp only [bW] at hbm2
      have hn2' : n2 + (1 + bV (.mk dk dn ds dl dm) + vn.length + lWs rest2 : Nat) = n + 1 + lDs dirs + lSs sels + nm.length + lWs vars := by rw [← hn2]; simp [lWs, lW]
      simp (disch := first | omega | assumption) only [h1, h3, hlt, hg, hg2, hlt2, cO, wrap64, go_sem, ↓reduceIte]
      refine goK_pure (sizeC (.mk dk dn ds dl dm) (by simp only [Lim]; omega)) ?_
      simp (disch := first | omega | assumption) only [h1, h3, hlt, hg, hg2, hlt2, cO, wrap64, go_sem, ↓reduceIte]
      exact goJ (hJ' (n2 + 1 + bV (.mk dk dn ds dl dm) + vn.length) _ ⟨by omega, by omega⟩) (by simp (disch := first | omega | assumption) only [wrap64, go_sem, ↓reduceIte])
end Go.Proofs.YtpjafglhdlfnbaaDoor
namespace Go.Proofs.YtpjafglhdlfnbaaDoor
open Go.Ab
def zO : OpD := ⟨0, [], [], [], []⟩
def z5o : List AV := [.int .i64 0, .str [], .sl .nil 10 [], .sl .nil 2 [], .sl .nil 7 []]
def nmB (name : List UInt8) (o : OpD) : Bool := decide (o.nm = name)
def pickM (d : DocD) (name : List UInt8) : OpD × Int :=
  if name = [] then (match d.ops with | [o] => (o, 0) | _ => (zO, 6)) else (match d.ops.find? (nmB name) with | some o => (o, 0) | none => (zO, 6))
def idxO (name : List UInt8) : List OpD → Int → Int
  | [], _ => -1
  | o :: r, i => if o.nm = name then i else idxO name r (i + 1)
theorem find_cases (name : List UInt8) : ∀ (l : List OpD) (i : Int), (∃ a o r, l = a ++ o :: r ∧ l.find? (nmB name) = some o ∧ idxO name l i = i + a.length) ∨ (l.find? (nmB name) = none ∧ idxO name l i = -1)
  | [], i => .inr ⟨rfl, rfl⟩
  | o :: l, i => by
    by_cases h : o.nm = name
    · exact .inl ⟨[], o, l, rfl, by simp [nmB, h], by simp [idxO, h]⟩
    · rcases find_cases name l (i + 1) with ⟨a, x, r, h1, h2, h3⟩ | ⟨h1, h2⟩
      · refine .inl ⟨o :: a, x, r, by simp [h1], by simp [nmB, h] at h2 ⊢; exact h2, by simp [idxO, h, h3]; omega⟩
      · exact .inr ⟨by simp [nmB, h] at h1 ⊢; exact h1, by simp [idxO, h, h2]⟩
theorem pick1C (o : OpD) (name : List UInt8) : Pure Tryd.prog 70 [.agg (cO o), .view [.str name]] (.bool (decide (o.nm = name))) := by
  refine Pure.go ir70 ck70 (Nat.le_refl _) fun KP Q hQ => ?_
  simp (disch := first | omega | assumption) only [ir70, cO, go_sem, ↓reduceIte]
  exact hQ _ _ _ _ nofun rfl (by simp [tupOf, envOf, AV.strip, AV.strip1])
theorem idxC (l : List OpD) (name : List UInt8) (hl : l.length ≤ Lim) : Pure Tryd.prog 69 [.sl .no 5 (cOs l), .clo 70 [] [.view [.str name]]] (.int .i64 (idxO name l 0)) := by
  refine Pure.go ir69 ck69 (Nat.le_refl _) fun KP Q hQ => ?_
  have h1 := cOs_len l
  simp only [Lim] at hl
  simp (disch := first | omega | assumption) only [ir69, h1, go_sem, ↓reduceIte]
  refine goL_range l 8 (fun _ : Unit => []) (fun done rest n H => idxO name rest done.length = idxO name l 0) () (by simp (disch := first | omega | assumption) only [go_sem, ↓reduceIte]) (by simp) ?_ ?_
  · rintro n H J hp hlt
    simp only [idxO] at hp
    simp (disch := first | omega | assumption) only [h1, hlt, go_sem, ↓reduceIte]
    exact hQ _ _ _ _ nofun rfl (by simp [tupOf, envOf, AV.strip, AV.strip1, ← hp])
  · rintro done x rest n H J hd hlt _ hp hJ
    have hg := cOs_get hd
    simp (disch := first | omega | assumption) only [h1, hlt, hg, go_sem, ↓reduceIte]
    refine ⟨by kernel_rfl, goK_pure (pick1C x name) ?_⟩
    by_cases h : x.nm = name
    · simp (disch := first | omega | assumption) only [eq_true h, go_sem, ↓reduceIte]
      rw [idxO, if_pos h] at hp
      exact hQ _ _ _ _ nofun rfl (by simp [tupOf, envOf, AV.strip, AV.strip1, ← hp])
    · rw [idxO, if_neg h] at hp
      simp (disch := first | omega | assumption) only [h, go_sem, ↓reduceIte]
      exact goJ (hJ () _ (by rw [← hp]; simp)) (by simp (disch := first | omega | assumption) only [wrap64, go_sem, ↓reduceIte])
theorem pickC (d : DocD) (name : List UInt8) (hb : bDoc d ≤ Lim) : Pure Tryd.prog 42 [.agg (cDoc d), .str name] (.tup [.agg (cO (pickM d name).1), .int .i64 (pickM d name).2]) := by
  refine Pure.go ir42 ck42 (Nat.le_refl _) fun KP Q hQ => ?_
  obtain ⟨ops, frags⟩ := d
  simp only [bDoc] at hb
  have hl := bOs_len ops
  have h1 := cOs_len ops
  have hb' := hb
  simp only [Lim] at hb'
  have stripz : (tupOf [AV.agg z5o, .int .i64 6]).strip = .tup [.agg (cO zO), .int .i64 6] := rfl
  have strips : ∀ o, (tupOf [AV.agg (cO o), .int .i64 0]).strip = .tup [.agg (cO o), .int .i64 0] := fun _ => rfl
  simp (disch := first | omega | assumption) only [ir42, cDoc, go_sem, ↓reduceIte]
  refine goA_intro fun b4 hb4 => ?_
  simp (disch := first | omega | assumption) only [cDoc, go_sem, ↓reduceIte]
  refine goK_pure (idxC ops name (by simp only [Lim]; omega)) ?_
  have bad : (pickM ⟨ops, frags⟩ name) = (zO, 6) → ∀ ρ H, resvs ρ H ir42.res = some [.agg z5o, .int .i64 6] → Q .ret ρ H := fun e ρ H h => by
    rw [e] at hQ
    exact hQ _ ρ H _ nofun h stripz
  have good : ∀ o, (pickM ⟨ops, frags⟩ name) = (o, 0) → ∀ ρ H, resvs ρ H ir42.res = some [.agg (cO o), .int .i64 0] → Q .ret ρ H := fun o e ρ H h => by
    rw [e] at hQ
    exact hQ _ ρ H _ nofun h (strips o)
  have spl : ∀ o, splice [.int .i64 0, .str [], .sl .nil 10 [], .sl .nil 2 [], .sl .nil 7 []] 0 (cO o) = cO o := fun _ => rfl
  by_cases hn : name = []
  · have hnt := eq_true hn
    by_cases h0 : ops.length = 1
    · obtain ⟨o, rfl⟩ := List.length_eq_one_iff.1 h0
      have e : pickM ⟨[o], frags⟩ name = (o, 0) := by simp [pickM, hn]
      simp (disch := first | omega | assumption) only [h1, hnt, wrap64, cOs, List.length_cons, List.length_nil, List.map_cons, List.map_nil, Int.sub_self, List.getD_cons_zero, cO, go_sem, ↓reduceIte]
      exact good o e _ _ (by simp (disch := first | omega | assumption) only [ir42, resvs, resv, upd_same, cO, go_sem, ↓reduceIte])
    · have e : pickM ⟨ops, frags⟩ name = (zO, 6) := by
        simp only [pickM, hn, if_true]
        rcases ops with _ | ⟨o, _ | ⟨p, r⟩⟩
        · rfl
        · exact absurd rfl h0
        · rfl
      have h0' : ¬ ((ops.length : Int) - 1 = 0) := by omega
      simp (disch := first | omega | assumption) only [h1, hnt, wrap64, h0', go_sem, ↓reduceIte]
      exact bad e _ _ (by simp (disch := first | omega | assumption) only [ir42, resvs, resv, upd_same, z5o, go_sem, ↓reduceIte])
  · rcases find_cases name ops 0 with ⟨a, o, r, e1, e2, e3⟩ | ⟨e2, e3⟩
    · have e : pickM ⟨ops, frags⟩ name = (o, 0) := by simp [pickM, hn, e2]
      have hg := cOs_get e1
      have hal : a.length < ops.length := by rw [e1]; simp
      have e3' : idxO name ops 0 = (a.length : Int) := by omega
      rw [e3']
      have hneg : ¬ ((a.length : Int) < 0) := by omega
      have hal' : ((a.length : Int) < ops.length) = True := eq_true (by omega)
      simp (disch := first | omega | assumption) only [h1, hn, hg, hneg, hal', cO, go_sem, ↓reduceIte]
      exact good o e _ _ (by simp (disch := first | omega | assumption) only [ir42, resvs, resv, upd_same, cO, go_sem, ↓reduceIte])
    · have e : pickM ⟨ops, frags⟩ name = (zO, 6) := by simp [pickM, hn, e2]
      rw [e3]
      simp (disch := first | omega | assumption) only [h1, hn, go_sem, ↓reduceIte]
      exact bad e _ _ (by simp (disch := first | omega | assumption) only [ir42, resvs, resv, upd_same, z5o, go_sem, ↓reduceIte])
theorem pickR (d : DocD) (name : List UInt8) (hb : bDoc d ≤ Lim) : Pure Tryd.prog 43 [.agg (cDoc d), .str name] (.tup [.agg (cO (pickM d name).1), .int .i64 (pickM d name).2]) := by
  refine Pure.go ir43 ck43 (Nat.le_refl _) fun KP Q hQ => ?_
  obtain ⟨ops, frags⟩ := d
  simp only [bDoc] at hb
  have hl := bOs_len ops
  have h1 := cOs_len ops
  have hb' := hb
  simp only [Lim] at hb'
  have stripz : (tupOf [AV.agg z5o, .int .i64 6]).strip = .tup [.agg (cO zO), .int .i64 6] := rfl
  have strips : ∀ o, (tupOf [AV.agg (cO o), .int .i64 0]).strip = .tup [.agg (cO o), .int .i64 0] := fun _ => rfl
  have bad : (pickM ⟨ops, frags⟩ name) = (zO, 6) → ∀ ρ H, resvs ρ H ir43.res = some [.agg z5o, .int .i64 6] → Q .ret ρ H := fun e ρ H h => by
    rw [e] at hQ
    exact hQ _ ρ H _ nofun h stripz
  have good : ∀ o, (pickM ⟨ops, frags⟩ name) = (o, 0) → ∀ ρ H, resvs ρ H ir43.res = some [.agg (cO o), .int .i64 0] → Q .ret ρ H := fun o e ρ H h => by
    rw [e] at hQ
    exact hQ _ ρ H _ nofun h (strips o)
  simp (disch := first | omega | assumption) only [ir43, cDoc, go_sem, ↓reduceIte]
  refine goA_intro fun b4 hb4 => ?_
  simp (disch := first | omega | assumption) only [cDoc, go_sem, ↓reduceIte]
  by_cases hn : name = []
  · have hnt := eq_true hn
    by_cases h0 : ops.length = 1
    · obtain ⟨o, rfl⟩ := List.length_eq_one_iff.1 h0
      have e : pickM ⟨[o], frags⟩ name = (o, 0) := by simp [pickM, hn]
      simp (disch := first | omega | assumption) only [h1, hnt, cOs, List.length_cons, List.length_nil, List.map_cons, List.map_nil, List.getD_cons_zero, cO, go_sem, ↓reduceIte]
      exact good o e _ _ (by simp (disch := first | omega | assumption) only [ir43, resvs, resv, upd_same, cO, go_sem, ↓reduceIte])
    · have e : pickM ⟨ops, frags⟩ name = (zO, 6) := by
        simp only [pickM, hn, if_true]
        rcases ops with _ | ⟨o, _ | ⟨p, r⟩⟩
        · rfl
        · exact absurd rfl h0
        · rfl
      have h0' : ¬ ((ops.length : Int) = 1) := by omega
      simp (disch := first | omega | assumption) only [h1, hnt, h0', go_sem, ↓reduceIte]
      exact bad e _ _ (by simp (disch := first | omega | assumption) only [ir43, resvs, resv, upd_same, z5o, go_sem, ↓reduceIte])
  · simp (disch := first | omega | assumption) only [hn, go_sem, ↓reduceIte]
    refine goL_range ops 6 (fun _ : Unit => []) (fun done rest n H => H b4 = some (.cells z5o) ∧ rest.find? (nmB name) = ops.find? (nmB name)) () (by simp (disch := first | omega | assumption) only [go_sem, ↓reduceIte]) ⟨upd_same .., rfl⟩ ?_ ?_
    · rintro n H J ⟨h4, hf⟩ hlt
      have e : pickM ⟨ops, frags⟩ name = (zO, 6) := by simp [pickM, hn, ← hf]
      unfold z5o at h4
      simp (disch := first | omega | assumption) only [h1, hlt, h4, go_sem, ↓reduceIte]
      exact bad e _ _ (by simp (disch := first | omega | assumption) only [ir43, resvs, resv, upd_same, z5o, go_sem, ↓reduceIte])
    · rintro done x rest n H J hd hlt _ ⟨h4, hf⟩ hJ
      have hg := cOs_get hd
      have h4' := h4
      unfold z5o at h4'
      by_cases h : x.nm = name
      · have e : pickM ⟨ops, frags⟩ name = (x, 0) := by simp [pickM, hn, ← hf, nmB, h]
        simp (disch := first | omega | assumption) only [h1, hlt, hg, cO, eq_true h, h4', go_sem, ↓reduceIte]
        exact good x e _ _ (by simp (disch := first | omega | assumption) only [ir43, resvs, resv, upd_same, cO, go_sem, ↓reduceIte])
      · simp (disch := first | omega | assumption) only [h1, hlt, hg, cO, h, go_sem, ↓reduceIte]
        exact goJ (hJ () _ ⟨h4, by rw [← hf]; simp [nmB, h]⟩) (by simp (disch := first | omega | assumption) only [wrap64, go_sem, ↓reduceIte])
end Go.Proofs.YtpjafglhdlfnbaaDoor
namespace Go.Proofs.YtpjafglhdlfnbaaDoor
open Go.Ab Go.Lib
theorem bO_in {o : OpD} {l : List OpD} (h : o ∈ l) : bO o ≤ bOs l := by
  obtain ⟨a, b, rfl⟩ := List.append_of_mem h
  have := bOs_mid a o b
  omega
theorem pickM_in (d : DocD) (name : List UInt8) : (pickM d name).1 ∈ d.ops ∨ (pickM d name).1 = zO := by
  unfold pickM
  split
  · split
    · rename_i o h; left; rw [h]; simp
    · right; rfl
  · split
    · rename_i o h; left; exact List.mem_of_find?_eq_some h
    · right; rfl
theorem pickM_size (d : DocD) (name : List UInt8) : bO (pickM d name).1 ≤ bDoc d + 1 := by
  rcases pickM_in d name with h | h
  · have := bO_in h
    simp only [bDoc]; omega
  · rw [h]; simp [zO, bO, bWs, bDs, bSs]
theorem cO_len (o : OpD) : (cO o).length = 5 := rfl
theorem cO_take (o : OpD) : (cO o).take 5 = cO o := rfl
theorem cO_splice (a b c d e : AV) (o : OpD) : splice [a, b, c, d, e] 0 (cO o) = cO o := rfl
theorem askPicks (d : DocD) (name : List UInt8) (hb : bDoc d ≤ 1048576) : Pure Tryd.prog 8 [.agg (cDoc d), .str name] (.bool true) := by
  refine Pure.go ir8 ck8 (Nat.le_refl _) fun KP Q hQ => ?_
  have hL := lightC d (by simp only [Lim]; omega)
  have hp := pickC d name (by simp only [Lim]; omega)
  have hr := pickR d name (by simp only [Lim]; omega)
  have hs := pickM_size d name
  generalize (pickM d name).2 = e at *
  generalize (pickM d name).1 = o at *
  have cl : (cDoc d).length = 2 := rfl
  have ct : (cDoc d).take 2 = cDoc d := rfl
  simp (disch := first | omega | assumption) only [ir8, cl, ct, go_sem, ↓reduceIte]
  refine goK_pure hL ?_
  cases hli : lightB d
  · simp (disch := first | omega | assumption) only [go_sem, ↓reduceIte]
    refine goK_pure awakeA ?_
    simp (disch := first | omega | assumption) only [go_sem, ↓reduceIte]
    exact hQ _ _ _ _ nofun rfl (by simp [tupOf, envOf, AV.strip, AV.strip1])
  by_cases c2 : (2000 : Int) < name.length
  · simp (disch := first | omega | assumption) only [c2, go_sem, ↓reduceIte]
    refine goK_pure awakeA ?_
    simp (disch := first | omega | assumption) only [go_sem, ↓reduceIte]
    exact hQ _ _ _ _ nofun rfl (by simp [tupOf, envOf, AV.strip, AV.strip1])
  simp (disch := first | omega | assumption) only [c2, cl, ct, go_sem, ↓reduceIte]
  refine goK_pure hp ?_
  simp (disch := first | omega | assumption) only [cO_len, cO_take, cO_splice, go_sem, ↓reduceIte]
  refine goA_intro fun b5 hb5 => ?_
  simp (disch := first | omega | assumption) only [cl, ct, cO_len, cO_take, cO_splice, go_sem, ↓reduceIte]
  refine goK_pure hr ?_
  simp (disch := first | omega | assumption) only [cO_len, cO_take, cO_splice, go_sem, ↓reduceIte]
  refine goA_intro fun b7 hb7 => ?_
  have n75 : b7 ≠ b5 := fun e => by subst e; rw [upd_same] at hb7; cases hb7
  simp (disch := first | omega | assumption) only [n75, Ne.symm n75, cO_len, cO_take, cO_splice, go_sem, ↓reduceIte]
  refine goK_pure (sameOpR o o (by simp only [Lim]; omega)) ?_
  rw [eqd_true rfl]
  simp (disch := first | omega | assumption) only [go_sem, ↓reduceIte]
  refine goK_pure awakeA ?_
  simp (disch := first | omega | assumption) only [go_sem, ↓reduceIte]
  exact hQ _ _ _ _ nofun rfl (by simp [tupOf, envOf, AV.strip, AV.strip1])
theorem find_one {α : Type} {p : α → Bool} {o : α} : ∀ {l : List α}, o ∈ l → p o = true → l.countP p ≤ 1 → l.find? p = some o
  | [], h, _, _ => by cases h
  | x :: r, h, hp, hc => by
    rw [List.countP_cons] at hc
    cases hx : p x
    · rw [List.find?_cons_of_neg (by simp [hx])]
      rcases List.mem_cons.1 h with e | e
      · subst e; rw [hp] at hx; cases hx
      · exact find_one e hp (by omega)
    · rw [hx] at hc
      simp only [if_true] at hc
      rcases List.mem_cons.1 h with e | e
      · subst e; rw [List.find?_cons_of_pos hp]
      · have : 0 < r.countP p := List.countP_pos_iff.2 ⟨o, e, hp⟩
        omega
theorem askAlone (d : DocD) (a : Int) (hb : bDoc d ≤ 1048576) : Pure Tryd.prog 9 [.agg (cDoc d), .int .i64 a] (.bool true) := by
  refine Pure.go ir9 ck9 (Nat.le_refl _) fun KP Q hQ => ?_
  have hL := lightC d (by simp only [Lim]; omega)
  have hp := pickC d [] (by simp only [Lim]; omega)
  have he := pickC ⟨[], []⟩ [] (by decide)
  obtain ⟨ops, frags⟩ := d
  simp only [bDoc] at hb
  have h1 := cOs_len ops
  have hlo := bOs_len ops
  simp (disch := first | omega | assumption) only [ir9, cDoc, go_sem, ↓reduceIte]
  refine goK_pure hL ?_
  have emp : ∀ x : AV, x = x := fun _ => rfl
  cases hli : lightB ⟨ops, frags⟩
  · simp (disch := first | omega | assumption) only [go_sem, ↓reduceIte]
    refine goK_pure (Pure.low he) ?_
    simp (disch := first | omega | assumption) only [pickM, zO, cO, go_sem, ↓reduceIte]
    refine goA_intro fun b5 hb5 => ?_
    simp (disch := first | omega | assumption) only [go_sem, ↓reduceIte]
    refine goK_pure awakeA ?_
    simp (disch := first | omega | assumption) only [go_sem, ↓reduceIte]
    exact hQ _ _ _ _ nofun rfl (by simp [tupOf, envOf, AV.strip, AV.strip1])
  by_cases h0 : ops.length = 0
  · have h0' : ((ops.length : Int) = 0) = True := eq_true (by omega)
    simp (disch := first | omega | assumption) only [h1, h0', go_sem, ↓reduceIte]
    refine goK_pure (Pure.low he) ?_
    simp (disch := first | omega | assumption) only [pickM, zO, cO, go_sem, ↓reduceIte]
    refine goA_intro fun b5 hb5 => ?_
    simp (disch := first | omega | assumption) only [go_sem, ↓reduceIte]
    refine goK_pure awakeA ?_
    simp (disch := first | omega | assumption) only [go_sem, ↓reduceIte]
    exact hQ _ _ _ _ nofun rfl (by simp [tupOf, envOf, AV.strip, AV.strip1])
  have h0' : ¬ ((ops.length : Int) = 0) := by omega
  have hx0 : 0 ≤ IntKind.wrap .u64 a := by rw [IntKind.wrap_u64]; omega
  have hwl : IntKind.wrap .u64 (ops.length : Int) = ops.length := by rw [IntKind.wrap_u64]; omega
  obtain ⟨i, hi, hie⟩ : ∃ i : Nat, i < ops.length ∧ (IntKind.wrap .u64 a).tmod ops.length = i := by
    rw [Int.tmod_eq_emod_of_nonneg hx0]
    have q1 := Int.emod_nonneg (IntKind.wrap .u64 a) h0'
    have q2 := Int.emod_lt_of_pos (IntKind.wrap .u64 a) (show (0 : Int) < ops.length by omega)
    exact ⟨((IntKind.wrap .u64 a) % ops.length).toNat, by omega, by omega⟩
  obtain ⟨pre, o, post, hd, rfl⟩ : ∃ pre o post, ops = pre ++ o :: post ∧ pre.length = i := ⟨ops.take i, ops[i], ops.drop (i + 1), by rw [← List.drop_eq_getElem_cons hi]; simp, by simp; omega⟩
  have hg := cOs_get hd
  have hmem : o ∈ ops := by rw [hd]; simp
  have hbo := bO_in hmem
  have hi' : ((pre.length : Int) < ops.length) = True := eq_true (by omega)
  simp (disch := first | omega | assumption) only [h1, h0', hwl, hie, hi', hg, cO, wrap64, go_sem, ↓reduceIte]
  refine goA_intro fun b7 hb7 => ?_
  simp (disch := first | omega | assumption) only [h1, h0', hwl, hie, hi', hg, cO, wrap64, go_sem, ↓reduceIte]
  refine goK_pure hp ?_
  by_cases hone : ops.length = 1
  · obtain ⟨o', ho'⟩ := List.length_eq_one_iff.1 hone
    have hoo : o' = o := by rw [ho'] at hmem; exact (List.mem_singleton.1 hmem).symm
    subst hoo
    have hone' : ((ops.length : Int) = 1) = True := eq_true (by omega)
    have e : pickM ⟨ops, frags⟩ [] = (o', 0) := by simp [pickM, ho']
    rw [e]
    simp (disch := first | omega | assumption) only [cO, go_sem, ↓reduceIte]
    refine goA_intro fun b8 hb8 => ?_
    have n87 : b8 ≠ b7 := fun e => by subst e; rw [upd_same] at hb8; cases hb8
    have n78 := Ne.symm n87
    have q4 : (true == true) = true := rfl
    have g0 : (cOs ops).getD 0 [] = cO o' := by rw [ho']; rfl
    have z1 : ((0 : Int) < ops.length) = True := eq_true (by omega)
    simp (disch := first | omega | assumption) only [h1, hone', n78, n87, cO, q4, Bool.not_true, g0, z1, go_sem, ↓reduceIte]
    refine goK_pure (sameOpR o' o' (by simp only [Lim]; omega)) ?_
    rw [eqd_true rfl]
    simp (disch := first | omega | assumption) only [h1, n78, n87, cO, go_sem, ↓reduceIte]
    refine goL_range ops 11 (fun n : Int => [(10, .int .i64 n)]) (fun done rest n H => n = ((done.countP (nmB o'.nm) : Nat) : Int) ∧ H b7 = some (.cells (cO o')) ∧ H b8 = some (.cells (cO o'))) 0 (by simp (disch := first | omega | assumption) only [go_sem, ↓reduceIte]) ⟨by simp, by simp [Heap.upd, n78, n87, cO], by simp [Heap.upd, n78, n87, cO, zO]⟩ ?_ ?_
    · rintro n H J ⟨hn, h7, h8⟩ hlt
      have hlt' : ¬ ((ops.length : Int) < ops.length) := by omega
      by_cases k0 : o'.nm = []
      · simp (disch := first | omega | assumption) only [h1, hlt', h7, cO, eq_true k0, go_sem, ↓reduceIte]
        refine goK_pure awakeA ?_
        simp (disch := first | omega | assumption) only [go_sem, ↓reduceIte]
        exact hQ _ _ _ _ nofun rfl (by simp [tupOf, envOf, AV.strip, AV.strip1])
      by_cases k1 : (1 : Int) < n
      · simp (disch := first | omega | assumption) only [h1, hlt', h7, cO, k0, k1, go_sem, ↓reduceIte]
        refine goK_pure awakeA ?_
        simp (disch := first | omega | assumption) only [go_sem, ↓reduceIte]
        exact hQ _ _ _ _ nofun rfl (by simp [tupOf, envOf, AV.strip, AV.strip1])
      have hpk : pickM ⟨ops, frags⟩ o'.nm = (o', 0) := by
        simp only [pickM, k0, if_false]
        rw [find_one hmem (by simp [nmB]) (by omega)]
      have hp2 := pickC ⟨ops, frags⟩ o'.nm (by simp only [bDoc, Lim]; omega)
      rw [hpk] at hp2
      simp (disch := first | omega | assumption) only [h1, hlt', h7, cO, k0, k1, go_sem, ↓reduceIte]
      refine goK_pure hp2 ?_
      have n78' := n78
      simp (disch := first | omega | assumption) only [h7, h8, cO, n78, n87, go_sem, ↓reduceIte]
      refine goK_pure (sameOpR o' o' (by simp only [Lim]; omega)) ?_
      rw [eqd_true rfl]
      simp (disch := first | omega | assumption) only [go_sem, ↓reduceIte]
      refine goK_pure awakeA ?_
      simp (disch := first | omega | assumption) only [go_sem, ↓reduceIte]
      exact hQ _ _ _ _ nofun rfl (by simp [tupOf, envOf, AV.strip, AV.strip1])
    · rintro done x rest n H J hd2 hlt hlt2 ⟨hn, h7, h8⟩ hJ
      have hnb := List.countP_le_length (p := nmB o'.nm) (l := done)
      have hg2 := cOs_get hd2
      have e5 : (done ++ [x]).countP (nmB o'.nm) = done.countP (nmB o'.nm) + (if x.nm = o'.nm then 1 else 0) := by
        rw [List.countP_append]; simp [nmB, List.countP_cons]
      by_cases k2 : x.nm = o'.nm
      · simp (disch := first | omega | assumption) only [h1, hlt, h7, hg2, cO, eq_true k2, wrap64, go_sem, ↓reduceIte]
        exact goJ (hJ (n + 1) _ ⟨by rw [e5, if_pos k2]; omega, h7, h8⟩) (by simp (disch := first | omega | assumption) only [wrap64, go_sem, ↓reduceIte])
      · simp (disch := first | omega | assumption) only [h1, hlt, h7, hg2, cO, k2, wrap64, go_sem, ↓reduceIte]
        exact goJ (hJ n _ ⟨by rw [e5, if_neg k2]; omega, h7, h8⟩) (by simp (disch := first | omega | assumption) only [wrap64, go_sem, ↓reduceIte])
  · have hone' : ¬ ((ops.length : Int) = 1) := by omega
    have e : pickM ⟨ops, frags⟩ [] = (zO, 6) := by
      simp only [pickM, if_true]
      rcases ops with _ | ⟨x, _ | ⟨y, r⟩⟩
      · rfl
      · exact absurd rfl hone
      · rfl
    rw [e]
    simp (disch := first | omega | assumption) only [cO, zO, go_sem, ↓reduceIte]
    refine goA_intro fun b8 hb8 => ?_
    have n87 : b8 ≠ b7 := fun e => by subst e; rw [upd_same] at hb8; cases hb8
    have n78 := Ne.symm n87
    have q4 : (false == false) = true := rfl
    simp (disch := first | omega | assumption) only [h1, hone', n78, n87, cO, q4, Bool.not_true, go_sem, ↓reduceIte]
    refine goL_range ops 11 (fun n : Int => [(10, .int .i64 n)]) (fun done rest n H => n = ((done.countP (nmB o.nm) : Nat) : Int) ∧ H b7 = some (.cells (cO o)) ∧ H b8 = some (.cells (cO zO))) 0 (by simp (disch := first | omega | assumption) only [go_sem, ↓reduceIte]) ⟨by simp, by simp [Heap.upd, n78, n87, cO], by simp [Heap.upd, n78, n87, cO, zO]⟩ ?_ ?_
    · rintro n H J ⟨hn, h7, h8⟩ hlt
      have hlt' : ¬ ((ops.length : Int) < ops.length) := by omega
      by_cases k0 : o.nm = []
      · simp (disch := first | omega | assumption) only [h1, hlt', h7, cO, eq_true k0, go_sem, ↓reduceIte]
        refine goK_pure awakeA ?_
        simp (disch := first | omega | assumption) only [go_sem, ↓reduceIte]
        exact hQ _ _ _ _ nofun rfl (by simp [tupOf, envOf, AV.strip, AV.strip1])
      by_cases k1 : (1 : Int) < n
      · simp (disch := first | omega | assumption) only [h1, hlt', h7, cO, k0, k1, go_sem, ↓reduceIte]
        refine goK_pure awakeA ?_
        simp (disch := first | omega | assumption) only [go_sem, ↓reduceIte]
        exact hQ _ _ _ _ nofun rfl (by simp [tupOf, envOf, AV.strip, AV.strip1])
      have hpk : pickM ⟨ops, frags⟩ o.nm = (o, 0) := by
        simp only [pickM, k0, if_false]
        rw [find_one hmem (by simp [nmB]) (by omega)]
      have hp2 := pickC ⟨ops, frags⟩ o.nm (by simp only [bDoc, Lim]; omega)
      rw [hpk] at hp2
      simp (disch := first | omega | assumption) only [h1, hlt', h7, cO, k0, k1, go_sem, ↓reduceIte]
      refine goK_pure hp2 ?_
      have n78' := n78
      simp (disch := first | omega | assumption) only [h7, h8, cO, zO, n78, n87, go_sem, ↓reduceIte]
      refine goK_pure (sameOpR o o (by simp only [Lim]; omega)) ?_
      rw [eqd_true rfl]
      simp (disch := first | omega | assumption) only [go_sem, ↓reduceIte]
      refine goK_pure awakeA ?_
      simp (disch := first | omega | assumption) only [go_sem, ↓reduceIte]
      exact hQ _ _ _ _ nofun rfl (by simp [tupOf, envOf, AV.strip, AV.strip1])
    · rintro done x rest n H J hd2 hlt hlt2 ⟨hn, h7, h8⟩ hJ
      have hnb := List.countP_le_length (p := nmB o.nm) (l := done)
      have hg2 := cOs_get hd2
      have e5 : (done ++ [x]).countP (nmB o.nm) = done.countP (nmB o.nm) + (if x.nm = o.nm then 1 else 0) := by
        rw [List.countP_append]; simp [nmB, List.countP_cons]
      by_cases k2 : x.nm = o.nm
      · simp (disch := first | omega | assumption) only [h1, hlt, h7, hg2, cO, eq_true k2, wrap64, go_sem, ↓reduceIte]
        exact goJ (hJ (n + 1) _ ⟨by rw [e5, if_pos k2]; omega, h7, h8⟩) (by simp (disch := first | omega | assumption) only [wrap64, go_sem, ↓reduceIte])
      · simp (disch := first | omega | assumption) only [h1, hlt, h7, hg2, cO, k2, wrap64, go_sem, ↓reduceIte]
        exact goJ (hJ n _ ⟨by rw [e5, if_neg k2]; omega, h7, h8⟩) (by simp (disch := first | omega | assumption) only [wrap64, go_sem, ↓reduceIte])
end Go.Proofs.YtpjafglhdlfnbaaDoor
namespace Go.Proofs.YtpjafglhdlfnbaaDoor
open Go.Ab Go.Lib
open Go.ChangeShapes Go.WideShapes Go.ChangeAt Go.RowKit Go.WideElems
theorem AskAlone_contract (H : Type) (enc : TypeId × Value → H) (W : World) (base : Nat) (args : Array Value) (ds gs : List (DataW H)) (before : List MemPlace)
    (hval : ∀ (j : Nat) t v, Tryd.f9.params[j]? = some t → args[j]? = some v → Value.okWide Tryd.prog W .any base t v)
    (hW : DataW.Whole enc Tryd.prog Tryd.f9.params.toList Rows.askAloneSpec.vars false W args.toList ds gs before) (hc : blkAll (ds ++ gs) ≤ 1048576)
    (hz : (DataW.weightsEach Tryd.prog (Tryd.f9.params.toList ++ (Rows.OpenSpec.upto Rows.askAloneSpec).bare.plain.varTypes Tryd.prog) (ds ++ gs)).all (· ≤ reachBytes) = true)
    (hL : laidMetH Tryd.prog laidL W) (hS : W.ShapedOpen Tryd.prog) :
    Calls Tryd.prog 9 args W fun e W' => ∃ v, e = .returned v ∧ Rows.askAloneSpec.post enc Tryd.prog Tryd.f9 false true false false W args v W' := by
  have hW' := hW
  obtain ⟨p, q, hA0, hV, rfl, hfz, hnd⟩ := hW
  have hA : DataW.TrodAll enc Tryd.prog W 0 (fun _ => true) true Tryd.f9.params.toList args.toList ds p := hA0
  obtain ⟨rfl, rfl⟩ := trodVars_none hV
  rw [Tryd.params9] at hA hval hz
  obtain ⟨v0, vs0, d0, ds0, p0, q0, hargs, rfl, rfl, h0, hA⟩ := trodAll_cons hA
  obtain ⟨v1, vs1, d1, ds1, p1, q1, rfl, rfl, rfl, h1, hA⟩ := trodAll_cons hA
  obtain ⟨rfl, rfl, rfl⟩ := trodAll_nil hA
  obtain rfl : args = #[v0, v1] := by cases args; simp_all
  obtain ⟨c0, rfl⟩ := agg_of Tryd.underlying49 (hval 0 49 v0 rfl rfl)
  obtain ⟨a0, ok0, b0, g0⟩ := DecB.argS (P := Tryd.prog) (f := cDoc) (decDocA) h0 (sized hz (j := 0) rfl rfl)
  obtain ⟨a1, ok1, b1, g1⟩ := DecB.arg (P := Tryd.prog) (f := fun n => .int .i64 n) (fun m => DecB.int (k := .i64) Tryd.underlying3) h1 (sized hz (j := 1) rfl rfl) (plain_int Tryd.underlying3 (hval 1 3 v1 rfl rfl))
  simp only [List.append_nil, blkAll] at hc
  refine law_contract (P := Tryd.prog) (fn := Tryd.f9) (tb := 4) laidOut rfl ?_ (by kernel_rfl) Tryd.underlying4 hW' rfl (tabs_ok hL hS) (RepAll.cons g0 (RepAll.cons g1 RepAll.nil)) (askAlone a0 a1 (by omega))
  rw [Tryd.params9]
  intro t ht
  simp only [List.mem_cons, List.not_mem_nil, or_false] at ht
  rcases ht with rfl | rfl <;> exact ⟨by kernel_rfl, by decide +kernel⟩
theorem AskAlone_reads (os : Os) {H : Type} (enc : TypeId × Value → H) : ∃ places, DataW.whole enc Tryd.prog ((laidWorld os).forCall (fun _ _ => 0) ⟨#[], #[.agg #[.slice none 0 0, .slice none 0 0], .int .i64 0], []⟩).memory Tryd.f9.params.toList Rows.askAloneSpec.vars false #[.agg #[.slice none 0 0, .slice none 0 0], .int .i64 0].toList 8 = some ([.agg [.nil, .nil], .lit (.int .i64 0)], [], places) :=
  ⟨[], by kernel_rfl⟩
theorem AskAlone_lifted (os : Os) (started : os.Started) (H : Type) (enc : TypeId × Value → H) (F : Stop.Interp) :
    ReturnsInHanded {} Tryd.checked os 9 .any ((Rows.OpenSpec.upto Rows.askAloneSpec).preRow enc Tryd.prog Tryd.f9 Rows.askAloneUptoRow.domain false Rows.askAloneUptoRow.laid) (((Rows.OpenSpec.upto Rows.askAloneSpec).at F).post enc Tryd.prog Tryd.f9 false true false false) := by
  obtain ⟨places, hx⟩ := AskAlone_reads os enc
  refine returnsInHanded_of_row (C := Tryd.checked) (s := Rows.OpenSpec.upto Rows.askAloneSpec) own started (by kernel_rfl) Tryd.func9
    (witness_row_atRef (enc := enc) (C := Tryd.checked) false (laidWorld os) #[.agg #[.slice none 0 0, .slice none 0 0], .int .i64 0] rfl (by kernel_rfl) (by kernel_rfl) (by kernel_rfl)
      (OpenSpec.preRow_of_cond 8 hx (by kernel_rfl) (fun k hk => by cases hk; kernel_rfl) (by kernel_rfl) (laid_met os _))) ?_
  intro W base args ds gs before hval hW _ hcond hz hL hS _
  exact AskAlone_contract H enc W base args ds gs before hval hW (cond_bulk hcond) hz hL hS
theorem AskAlone_said : Rows.AskAloneUptoSaid :=
  OpenClaim.holds_of_cond 9 Tryd.f9 rfl rfl rfl rfl rfl rfl rfl ⟨rfl, rfl, rfl, rfl, rfl⟩ rfl rfl rfl rfl rfl (by kernel_rfl) Tryd.func9 (by kernel_rfl)
    (of_decide_eq_true (by kernel_rfl)) (by unfold Func.isWrapper; first | (rw [if_pos (by decide +kernel)]; kernel_rfl) | (rw [if_neg (by decide +kernel)]; exact ⟨rfl, rfl⟩))
    (fun os started H enc _ F => by rw [OpenClaim.pre_eq_preRow]; exact AskAlone_lifted os started H enc F)
theorem AskAlone_plain (f : FuncId) (fn : Func) (hf : Tryd.pinned.checked.prog.funcNamed "seine/seinelaw22.AskAlone" = some f) (hfn : Tryd.pinned.checked.prog.funcs[f]? = some fn) :
    true = Tryd.pinned.checked.prog.looks [] ∧ ∀ (j : Nat) t, fn.params[j]? = some t → Tryd.pinned.checked.prog.wantsStandIn t = false := by
  obtain rfl : f = 9 := Option.some.inj ((show Tryd.prog.funcNamed "seine/seinelaw22.AskAlone" = some 9 by kernel_rfl).symm.trans hf) |>.symm
  obtain rfl : fn = Tryd.f9 := (Option.some.inj (Tryd.func9.symm.trans hfn)).symm
  refine ⟨by kernel_rfl, fun j t ht => ?_⟩
  rw [Tryd.params9] at ht
  have hm := Array.mem_of_getElem? ht
  simp only [List.mem_toArray, List.mem_cons, List.not_mem_nil, or_false] at hm
  rcases hm with rfl | rfl <;> exact (show Tryd.prog.wantsStandIn _ = false by kernel_rfl)
theorem AskAlone_card : Rows.AskAloneUptoCardSaid :=
  Claim7.holds_tied_plain_at .later [] _ _ _ _ AskAlone_said (fun _ h => by cases h) (by kernel_rfl) (fun _ h => by cases h) askAloneUpto_row_tie rfl ⟨rfl, rfl⟩ (by kernel_rfl) rfl AskAlone_plain (by kernel_rfl)
end Go.Proofs.YtpjafglhdlfnbaaDoor
