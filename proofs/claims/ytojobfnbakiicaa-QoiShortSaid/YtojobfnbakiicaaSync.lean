/- sync/atomic and sync.Once in one goroutine: contracts at any address. sync.Once in one goroutine: Do the first time, and after; for any function that it is handed. sync.Once, Do of a method's value: the first time. -/
import Derived.Test.YtojobfnbakiicaaWords
import Derived.Defers
import Derived.Laws.Pointers
import Derived.Laws.LoneSync
import Derived.Laws.NewBlocks
import Derived.RegionTactic
import Derived.RegionCalls
import Derived.ChangeAlike
namespace Go.Proofs.Ytojobfnbakiicaa
open Go.RowKit
set_option linter.unusedVariables false

theorem sNot (x : Bool) (w : World) : (Op.unary .not (.bool x)).run Try.prog w = .ok (.bool (!x)) w := rfl

end Go.Proofs.Ytojobfnbakiicaa
namespace Go.Proofs.Ytojobfnbakiicaa
open Go.RowKit
set_option linter.unusedVariables false

/-- the world behind the first Do: what the function left, the mark laid, the lock let go -/
def OnceEnd (g o : Nat) (R : World → Prop) (w' : World) : Prop :=
  ∃ w2, R w2 ∧ w' = ((w2.drew.setCell ⟨g, o, none⟩ (.int .u32 1)).setCell ⟨g, o + 1, none⟩ (.int .i32 0))

end Go.Proofs.Ytojobfnbakiicaa
namespace Go.Proofs.Ytojobfnbakiicaa
open Go.RowKit
set_option linter.unusedVariables false

end Go.Proofs.Ytojobfnbakiicaa
