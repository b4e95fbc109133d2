/- An iterator, as AbsS has it. -/
import Derived.Test.YthkpgjnibolnhaaAbsS
import Derived.Test.YthkpgjnibolnhaaRows
set_option maxRecDepth 100000
namespace Go.Proofs.Ythkpgjnibolnhaa
open Go.Ab

/-- slices.Chunk   string string  1 -/
def it61 : AIt := { N := 31, b0 := 0, b1 := 1, pre := (.reg [] [⟨(some 4), none, .mv (.k (.int .i64 0)), []⟩]), test := (.seq (.reg [] [⟨(some 6), none, .mv (.t 4), []⟩, ⟨(some 7), none, .ld 1 false (.t 1), []⟩, ⟨(some 8), none, .len (.t 7), []⟩, ⟨(some 9), none, .bi .lss .i64 (.t 6) (.t 8), []⟩])
  (.cond (.t 9) (.skip) (.exit 0))), mid := (.reg [0, 1, 2, 3, 4, 5, 6] [⟨(some 13), none, .ld 1 false (.t 2), []⟩, ⟨(some 14), none, .ld 1 false (.t 1), []⟩, ⟨(some 15), none, .mv (.t 4), []⟩, ⟨(some 16), none, .sll 1 (.t 14) (some (.t 15)) none none, []⟩, ⟨(some 17), none, .len (.t 16), []⟩, ⟨(some 18), none, .mm false (.t 13) [(.t 17)], []⟩, ⟨(some 5), none, .mv (.t 18), []⟩]), items := [⟨(some 19), none, .mv (.t 0), []⟩, ⟨(some 20), none, .ld 1 false (.t 1), []⟩, ⟨(some 21), none, .mv (.t 4), []⟩, ⟨(some 22), none, .mv (.t 4), []⟩, ⟨(some 23), none, .mv (.t 5), []⟩, ⟨(some 24), none, .bi .add .i64 (.t 22) (.t 23), []⟩, ⟨(some 25), none, .mv (.t 4), []⟩, ⟨(some 26), none, .mv (.t 5), []⟩, ⟨(some 27), none, .bi .add .i64 (.t 25) (.t 26), []⟩, ⟨(some 28), none, .sll 1 (.t 20) (some (.t 21)) (some (.t 24)) (some (.t 27)), []⟩], g := 19, x := 28, d := 29, it2 := ⟨(some 30), none, .not (.t 29), []⟩, c := 30, post := (.reg [] [⟨(some 10), none, .mv (.t 4), []⟩, ⟨(some 11), none, .ld 1 false (.t 2), []⟩, ⟨(some 12), none, .bi .add .i64 (.t 10) (.t 11), []⟩, ⟨(some 4), none, .mv (.t 12), []⟩]) }
theorem ckI61 : chkIt Try.prog 61 it61 = true := by kernel_rfl

end Go.Proofs.Ythkpgjnibolnhaa
