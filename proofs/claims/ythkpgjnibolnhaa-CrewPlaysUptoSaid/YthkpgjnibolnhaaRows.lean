/-
  NARROWER THAN 'FOR EVERY INPUT', by the rows' own cells (each row's printed sentence says how): BatchKnows: loops.
  DERIVED. THE GIVEN ROWS OF THIS SEAT. 10 by the template 'for every input the law returns true; each argument reads behind the call as it read before'; 0 by the template 'total and deterministic' (their statements: YthkpgjnibolnhaaTotals.lean).
  GIVEN WITH THE SEED: the statements are not yours to turn. If you find one false, say at which input.
  Laid BY PROGRAM, IN A SANDBOX (cutbox-rows.mjs): the forced cells as the released guide's own fill.sh prints them over the translation 2715c9851fcb8df0… (all of the seat's roots in one cut). By AI agents, Wed Nov 11 2026. No macro, syntax, notation, axiom, sorry.
-/
import Derived.Test.YthkpgjnibolnhaaChecked
import GoSem.Claim
import GoSem.ClaimJoined
import GoSem.ClaimMapViews
import Derived.JoinedTies
import Derived.KernelRfl
namespace Go.Proofs.Ythkpgjnibolnhaa
/- THE CELL 'sum', in the pinned program and in every row, IS THE sha256 OF THE DUMP (.gsa) THAT YthkpgjnibolnhaaProg.lean LOADS. Nothing in Lean hashes anything: it is a label: what it is worth is what the hold of that sum in a sandbox is worth. -/
noncomputable def Try.pinned : Pinned := { name := "ythkpgjnibolnhaa", sum := "2715c9851fcb8df08bb381c17ccf3c4d4a1773af5f4f5fcb66d460923567cf38", checked := Try.checked }
namespace Rows
def none {H : Type} : Left H := { results := [], args := [] }

/-- 'seinelaw30.BatchPlans': WHATEVER THE INPUT: true; the input reads as it did. -/
def batchPlansSpec : ChangeSpec := { name := "batchPlans", fn := fun _ => fun
  | [d1, d2] => { results := [.lit (.bool true)], args := [d1, d2] }
  | _ => none }
def batchPlansRow : OpenClaim := { program := "ythkpgjnibolnhaa", sum := "2715c9851fcb8df08bb381c17ccf3c4d4a1773af5f4f5fcb66d460923567cf38", func := "seine/seinelaw30.BatchPlans", spec := "batchPlans", unfollowed := true, recurses := true, plainKeys := false, apart := false }
def BatchPlansSaid : Prop := batchPlansRow.holds Try.pinned (OpenSpec.ofChange batchPlansSpec)

/-- ITS FALSE NEIGHBOUR: 'it returns false'. Refute it at one input. -/
def batchPlansWrong : ChangeSpec := { name := "batchPlans", fn := fun _ => fun
  | [d1, d2] => { results := [.lit (.bool false)], args := [d1, d2] }
  | _ => none }
def BatchPlansWrongFalsely : Prop := batchPlansRow.holds Try.pinned (OpenSpec.ofChange batchPlansWrong)

/-- 'seinelaw30.BatchOnce': WHATEVER THE INPUT: true; the input reads as it did. -/
def batchOnceSpec : ChangeSpec := { name := "batchOnce", fn := fun _ => fun
  | [d1, d2] => { results := [.lit (.bool true)], args := [d1, d2] }
  | _ => none }
def batchOnceRow : OpenClaim := { program := "ythkpgjnibolnhaa", sum := "2715c9851fcb8df08bb381c17ccf3c4d4a1773af5f4f5fcb66d460923567cf38", func := "seine/seinelaw30.BatchOnce", spec := "batchOnce", unfollowed := true, recurses := true, plainKeys := false, apart := false }
def BatchOnceSaid : Prop := batchOnceRow.holds Try.pinned (OpenSpec.ofChange batchOnceSpec)

/-- ITS FALSE NEIGHBOUR: 'it returns false'. Refute it at one input. -/
def batchOnceWrong : ChangeSpec := { name := "batchOnce", fn := fun _ => fun
  | [d1, d2] => { results := [.lit (.bool false)], args := [d1, d2] }
  | _ => none }
def BatchOnceWrongFalsely : Prop := batchOnceRow.holds Try.pinned (OpenSpec.ofChange batchOnceWrong)

/-- 'seinelaw30.BatchCounts': WHATEVER THE INPUT: true; the input reads as it did. -/
def batchCountsSpec : ChangeSpec := { name := "batchCounts", fn := fun _ => fun
  | [d1, d2] => { results := [.lit (.bool true)], args := [d1, d2] }
  | _ => none }
def batchCountsRow : OpenClaim := { program := "ythkpgjnibolnhaa", sum := "2715c9851fcb8df08bb381c17ccf3c4d4a1773af5f4f5fcb66d460923567cf38", func := "seine/seinelaw30.BatchCounts", spec := "batchCounts", unfollowed := true, recurses := true, plainKeys := false, apart := false }
def BatchCountsSaid : Prop := batchCountsRow.holds Try.pinned (OpenSpec.ofChange batchCountsSpec)

/-- ITS FALSE NEIGHBOUR: 'it returns false'. Refute it at one input. -/
def batchCountsWrong : ChangeSpec := { name := "batchCounts", fn := fun _ => fun
  | [d1, d2] => { results := [.lit (.bool false)], args := [d1, d2] }
  | _ => none }
def BatchCountsWrongFalsely : Prop := batchCountsRow.holds Try.pinned (OpenSpec.ofChange batchCountsWrong)

/-- 'seinelaw30.BatchSplits': WHATEVER THE INPUT: true; the input reads as it did. -/
def batchSplitsSpec : ChangeSpec := { name := "batchSplits", fn := fun _ => fun
  | [d1, d2] => { results := [.lit (.bool true)], args := [d1, d2] }
  | _ => none }
def batchSplitsRow : OpenClaim := { program := "ythkpgjnibolnhaa", sum := "2715c9851fcb8df08bb381c17ccf3c4d4a1773af5f4f5fcb66d460923567cf38", func := "seine/seinelaw30.BatchSplits", spec := "batchSplits", unfollowed := true, recurses := true, plainKeys := false, apart := false }
def BatchSplitsSaid : Prop := batchSplitsRow.holds Try.pinned (OpenSpec.ofChange batchSplitsSpec)

/-- ITS FALSE NEIGHBOUR: 'it returns false'. Refute it at one input. -/
def batchSplitsWrong : ChangeSpec := { name := "batchSplits", fn := fun _ => fun
  | [d1, d2] => { results := [.lit (.bool false)], args := [d1, d2] }
  | _ => none }
def BatchSplitsWrongFalsely : Prop := batchSplitsRow.holds Try.pinned (OpenSpec.ofChange batchSplitsWrong)

/-- 'seinelaw31.CrewTurns': WHATEVER THE INPUT: true; the input reads as it did. -/
def crewTurnsSpec : ChangeSpec := { name := "crewTurns", fn := fun _ => fun
  | [d1, d2] => { results := [.lit (.bool true)], args := [d1, d2] }
  | _ => none }
def crewTurnsRow : OpenClaim := { program := "ythkpgjnibolnhaa", sum := "2715c9851fcb8df08bb381c17ccf3c4d4a1773af5f4f5fcb66d460923567cf38", func := "seine/seinelaw31.CrewTurns", spec := "crewTurns", plainKeys := false, apart := false }
def CrewTurnsSaid : Prop := crewTurnsRow.holds Try.pinned (OpenSpec.ofChange crewTurnsSpec)

/-- ITS FALSE NEIGHBOUR: 'it returns false'. Refute it at one input. -/
def crewTurnsWrong : ChangeSpec := { name := "crewTurns", fn := fun _ => fun
  | [d1, d2] => { results := [.lit (.bool false)], args := [d1, d2] }
  | _ => none }
def CrewTurnsWrongFalsely : Prop := crewTurnsRow.holds Try.pinned (OpenSpec.ofChange crewTurnsWrong)

/-- 'seinelaw30.BatchKnows': WHATEVER THE INPUT: true; the input reads as it did. -/
def batchKnowsSpec : ChangeSpec := { name := "batchKnows", fn := fun _ => fun
  | [d] => { results := [.lit (.bool true)], args := [d] }
  | _ => none }
def batchKnowsRow : OpenClaim := { program := "ythkpgjnibolnhaa", sum := "2715c9851fcb8df08bb381c17ccf3c4d4a1773af5f4f5fcb66d460923567cf38", func := "seine/seinelaw30.BatchKnows", spec := "batchKnows", unfollowed := true, recurses := true, loops := true, plainKeys := false, apart := false }
def BatchKnowsSaid : Prop := batchKnowsRow.holds Try.pinned (OpenSpec.ofChange batchKnowsSpec)

/-- ITS FALSE NEIGHBOUR: 'it returns false'. Refute it at one input. -/
def batchKnowsWrong : ChangeSpec := { name := "batchKnows", fn := fun _ => fun
  | [d] => { results := [.lit (.bool false)], args := [d] }
  | _ => none }
def BatchKnowsWrongFalsely : Prop := batchKnowsRow.holds Try.pinned (OpenSpec.ofChange batchKnowsWrong)

/-- 'seinelaw30.BatchFresh': WHATEVER THE INPUT: true; the input reads as it did. -/
def batchFreshSpec : ChangeSpec := { name := "batchFresh", fn := fun _ => fun
  | [d1, d2] => { results := [.lit (.bool true)], args := [d1, d2] }
  | _ => none }
def batchFreshRow : OpenClaim := { program := "ythkpgjnibolnhaa", sum := "2715c9851fcb8df08bb381c17ccf3c4d4a1773af5f4f5fcb66d460923567cf38", func := "seine/seinelaw30.BatchFresh", spec := "batchFresh", unfollowed := true, recurses := true, plainKeys := false, apart := false }
def BatchFreshSaid : Prop := batchFreshRow.holds Try.pinned (OpenSpec.ofChange batchFreshSpec)

/-- ITS FALSE NEIGHBOUR: 'it returns false'. Refute it at one input. -/
def batchFreshWrong : ChangeSpec := { name := "batchFresh", fn := fun _ => fun
  | [d1, d2] => { results := [.lit (.bool false)], args := [d1, d2] }
  | _ => none }
def BatchFreshWrongFalsely : Prop := batchFreshRow.holds Try.pinned (OpenSpec.ofChange batchFreshWrong)

/-- 'seinelaw31.CrewThrough': WHATEVER THE INPUT: true; the input reads as it did. -/
def crewThroughSpec : ChangeSpec := { name := "crewThrough", fn := fun _ => fun
  | [d1, d2, d3] => { results := [.lit (.bool true)], args := [d1, d2, d3] }
  | _ => none }
def crewThroughRow : OpenClaim := { program := "ythkpgjnibolnhaa", sum := "2715c9851fcb8df08bb381c17ccf3c4d4a1773af5f4f5fcb66d460923567cf38", func := "seine/seinelaw31.CrewThrough", spec := "crewThrough", plainKeys := false, apart := false }
def CrewThroughSaid : Prop := crewThroughRow.holds Try.pinned (OpenSpec.ofChange crewThroughSpec)

/-- ITS FALSE NEIGHBOUR: 'it returns false'. Refute it at one input. -/
def crewThroughWrong : ChangeSpec := { name := "crewThrough", fn := fun _ => fun
  | [d1, d2, d3] => { results := [.lit (.bool false)], args := [d1, d2, d3] }
  | _ => none }
def CrewThroughWrongFalsely : Prop := crewThroughRow.holds Try.pinned (OpenSpec.ofChange crewThroughWrong)

/-- 'seinelaw31.CrewPlays': WHATEVER THE INPUT: true; the input reads as it did. -/
def crewPlaysSpec : ChangeSpec := { name := "crewPlays", fn := fun _ => fun
  | [d1, d2] => { results := [.lit (.bool true)], args := [d1, d2] }
  | _ => none }
def crewPlaysRow : OpenClaim := { program := "ythkpgjnibolnhaa", sum := "2715c9851fcb8df08bb381c17ccf3c4d4a1773af5f4f5fcb66d460923567cf38", func := "seine/seinelaw31.CrewPlays", spec := "crewPlays", plainKeys := false, apart := false }
def CrewPlaysSaid : Prop := crewPlaysRow.holds Try.pinned (OpenSpec.ofChange crewPlaysSpec)

/-- ITS FALSE NEIGHBOUR: 'it returns false'. Refute it at one input. -/
def crewPlaysWrong : ChangeSpec := { name := "crewPlays", fn := fun _ => fun
  | [d1, d2] => { results := [.lit (.bool false)], args := [d1, d2] }
  | _ => none }
def CrewPlaysWrongFalsely : Prop := crewPlaysRow.holds Try.pinned (OpenSpec.ofChange crewPlaysWrong)

/-- 'seinelaw31.CrewDrops': WHATEVER THE INPUT: true; the input reads as it did. -/
def crewDropsSpec : ChangeSpec := { name := "crewDrops", fn := fun _ => fun
  | [d1, d2, d3, d4] => { results := [.lit (.bool true)], args := [d1, d2, d3, d4] }
  | _ => none }
def crewDropsRow : OpenClaim := { program := "ythkpgjnibolnhaa", sum := "2715c9851fcb8df08bb381c17ccf3c4d4a1773af5f4f5fcb66d460923567cf38", func := "seine/seinelaw31.CrewDrops", spec := "crewDrops", plainKeys := false, apart := false }
def CrewDropsSaid : Prop := crewDropsRow.holds Try.pinned (OpenSpec.ofChange crewDropsSpec)

/-- ITS FALSE NEIGHBOUR: 'it returns false'. Refute it at one input. -/
def crewDropsWrong : ChangeSpec := { name := "crewDrops", fn := fun _ => fun
  | [d1, d2, d3, d4] => { results := [.lit (.bool false)], args := [d1, d2, d3, d4] }
  | _ => none }
def CrewDropsWrongFalsely : Prop := crewDropsRow.holds Try.pinned (OpenSpec.ofChange crewDropsWrong)

/- THE SECOND FORM. 'bulk': how many values and letters a reading holds, each counted each time it is reached (what is shared counts as often as it is met; a slice's spare places count too). A statement '..UptoSaid' is the law's where the arguments, and the package variables that the reading takes, are together of bulk at most 1048576: NARROWER than '..Said'. Prove '..Said' where nothing that the law and all that it calls make is longer than what came in: it says more and counts as full. Else prove '..UptoSaid'. A law counts once. -/
mutual
def uptoBulk {H : Type} : DataW H → Nat
  | .lit (.string bytes) => bytes.length + 1
  | .lit _ => 1
  | .nil => 1
  | .ptr d => uptoBulk d + 1
  | .slice elems spare => uptoBulkAll elems + uptoBulkAll spare + 1
  | .agg parts => uptoBulkAll parts + 1
  | .iface _ d => uptoBulk d + 1
  | .map entries => uptoBulkEntries entries + 1
  | .held _ => 1
def uptoBulkAll {H : Type} : List (DataW H) → Nat
  | [] => 0
  | d :: r => uptoBulk d + uptoBulkAll r
def uptoBulkEntries {H : Type} : List (Lit × DataW H) → Nat
  | [] => 0
  | x :: r => uptoBulkEntry x + uptoBulkEntries r
def uptoBulkEntry {H : Type} : Lit × DataW H → Nat
  | (.string bytes, d) => bytes.length + uptoBulk d + 1
  | (_, d) => uptoBulk d + 1
 end
def uptoSmall : (H : Type) → List (DataW H) → Bool := fun _ ds => decide (uptoBulkAll ds ≤ 1048576)
def OpenSpec.upto (s : _root_.Go.ChangeSpec) : _root_.Go.OpenSpec := { _root_.Go.OpenSpec.ofChange s with cond := some uptoSmall }

/-- 'seinelaw30.BatchPlans', WHERE WHAT IT READS IS OF BULK AT MOST 1048576: true; the input reads as it did. -/
def batchPlansUptoRow : OpenClaim := { program := "ythkpgjnibolnhaa", sum := "2715c9851fcb8df08bb381c17ccf3c4d4a1773af5f4f5fcb66d460923567cf38", func := "seine/seinelaw30.BatchPlans", spec := "batchPlans", unfollowed := true, recurses := true, plainKeys := false, apart := false, narrowed := true }
def BatchPlansUptoSaid : Prop := batchPlansUptoRow.holds Try.pinned (OpenSpec.upto batchPlansSpec)

/-- 'seinelaw30.BatchOnce', WHERE WHAT IT READS IS OF BULK AT MOST 1048576: true; the input reads as it did. -/
def batchOnceUptoRow : OpenClaim := { program := "ythkpgjnibolnhaa", sum := "2715c9851fcb8df08bb381c17ccf3c4d4a1773af5f4f5fcb66d460923567cf38", func := "seine/seinelaw30.BatchOnce", spec := "batchOnce", unfollowed := true, recurses := true, plainKeys := false, apart := false, narrowed := true }
def BatchOnceUptoSaid : Prop := batchOnceUptoRow.holds Try.pinned (OpenSpec.upto batchOnceSpec)

/-- 'seinelaw30.BatchCounts', WHERE WHAT IT READS IS OF BULK AT MOST 1048576: true; the input reads as it did. -/
def batchCountsUptoRow : OpenClaim := { program := "ythkpgjnibolnhaa", sum := "2715c9851fcb8df08bb381c17ccf3c4d4a1773af5f4f5fcb66d460923567cf38", func := "seine/seinelaw30.BatchCounts", spec := "batchCounts", unfollowed := true, recurses := true, plainKeys := false, apart := false, narrowed := true }
def BatchCountsUptoSaid : Prop := batchCountsUptoRow.holds Try.pinned (OpenSpec.upto batchCountsSpec)

/-- 'seinelaw30.BatchSplits', WHERE WHAT IT READS IS OF BULK AT MOST 1048576: true; the input reads as it did. -/
def batchSplitsUptoRow : OpenClaim := { program := "ythkpgjnibolnhaa", sum := "2715c9851fcb8df08bb381c17ccf3c4d4a1773af5f4f5fcb66d460923567cf38", func := "seine/seinelaw30.BatchSplits", spec := "batchSplits", unfollowed := true, recurses := true, plainKeys := false, apart := false, narrowed := true }
def BatchSplitsUptoSaid : Prop := batchSplitsUptoRow.holds Try.pinned (OpenSpec.upto batchSplitsSpec)

/-- 'seinelaw31.CrewTurns', WHERE WHAT IT READS IS OF BULK AT MOST 1048576: true; the input reads as it did. -/
def crewTurnsUptoRow : OpenClaim := { program := "ythkpgjnibolnhaa", sum := "2715c9851fcb8df08bb381c17ccf3c4d4a1773af5f4f5fcb66d460923567cf38", func := "seine/seinelaw31.CrewTurns", spec := "crewTurns", plainKeys := false, apart := false, narrowed := true }
def CrewTurnsUptoSaid : Prop := crewTurnsUptoRow.holds Try.pinned (OpenSpec.upto crewTurnsSpec)

/-- 'seinelaw30.BatchKnows', WHERE WHAT IT READS IS OF BULK AT MOST 1048576: true; the input reads as it did. -/
def batchKnowsUptoRow : OpenClaim := { program := "ythkpgjnibolnhaa", sum := "2715c9851fcb8df08bb381c17ccf3c4d4a1773af5f4f5fcb66d460923567cf38", func := "seine/seinelaw30.BatchKnows", spec := "batchKnows", unfollowed := true, recurses := true, loops := true, plainKeys := false, apart := false, narrowed := true }
def BatchKnowsUptoSaid : Prop := batchKnowsUptoRow.holds Try.pinned (OpenSpec.upto batchKnowsSpec)

/-- 'seinelaw30.BatchFresh', WHERE WHAT IT READS IS OF BULK AT MOST 1048576: true; the input reads as it did. -/
def batchFreshUptoRow : OpenClaim := { program := "ythkpgjnibolnhaa", sum := "2715c9851fcb8df08bb381c17ccf3c4d4a1773af5f4f5fcb66d460923567cf38", func := "seine/seinelaw30.BatchFresh", spec := "batchFresh", unfollowed := true, recurses := true, plainKeys := false, apart := false, narrowed := true }
def BatchFreshUptoSaid : Prop := batchFreshUptoRow.holds Try.pinned (OpenSpec.upto batchFreshSpec)

/-- 'seinelaw31.CrewThrough', WHERE WHAT IT READS IS OF BULK AT MOST 1048576: true; the input reads as it did. -/
def crewThroughUptoRow : OpenClaim := { program := "ythkpgjnibolnhaa", sum := "2715c9851fcb8df08bb381c17ccf3c4d4a1773af5f4f5fcb66d460923567cf38", func := "seine/seinelaw31.CrewThrough", spec := "crewThrough", plainKeys := false, apart := false, narrowed := true }
def CrewThroughUptoSaid : Prop := crewThroughUptoRow.holds Try.pinned (OpenSpec.upto crewThroughSpec)

/-- 'seinelaw31.CrewPlays', WHERE WHAT IT READS IS OF BULK AT MOST 1048576: true; the input reads as it did. -/
def crewPlaysUptoRow : OpenClaim := { program := "ythkpgjnibolnhaa", sum := "2715c9851fcb8df08bb381c17ccf3c4d4a1773af5f4f5fcb66d460923567cf38", func := "seine/seinelaw31.CrewPlays", spec := "crewPlays", plainKeys := false, apart := false, narrowed := true }
def CrewPlaysUptoSaid : Prop := crewPlaysUptoRow.holds Try.pinned (OpenSpec.upto crewPlaysSpec)

/-- 'seinelaw31.CrewDrops', WHERE WHAT IT READS IS OF BULK AT MOST 1048576: true; the input reads as it did. -/
def crewDropsUptoRow : OpenClaim := { program := "ythkpgjnibolnhaa", sum := "2715c9851fcb8df08bb381c17ccf3c4d4a1773af5f4f5fcb66d460923567cf38", func := "seine/seinelaw31.CrewDrops", spec := "crewDrops", plainKeys := false, apart := false, narrowed := true }
def CrewDropsUptoSaid : Prop := crewDropsUptoRow.holds Try.pinned (OpenSpec.upto crewDropsSpec)

end Rows
end Go.Proofs.Ythkpgjnibolnhaa
