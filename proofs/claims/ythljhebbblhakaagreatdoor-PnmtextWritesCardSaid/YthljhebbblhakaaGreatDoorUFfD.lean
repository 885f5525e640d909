/- farbfeld: a number of bytes, the highest first; what is wrong with a head; a sample. farbfeld: what is wrong with a head. farbfeld: Sides. farbfeld: the pixels. -/
import Derived.Test.YthljhebbblhakaaGreatDoorEWords
import Derived.Test.YthljhebbblhakaaGreatDoorProg
import Derived.WalkKit
import Derived.WalkSpells
import Derived.WalkLawsBesides
import Derived.Lib.Hide
import Derived.Laws.OwnMore
import Derived.Deep.AppendLies
import Derived.Deep.Draws
import Derived.Deep.Onto
import Derived.Deep.AppendSrc
import Derived.Deep.QuietTactic
import Derived.BigQuiet
import Derived.Deep.LoopGhost
import Derived.Deep.CutBlock
import Derived.Deep.DeepCutAuto
import Derived.Deep.Light
import Derived.Deep.RegionWith
import Derived.Test.YthljhebbblhakaaGreatDoorESync
import Derived.Defers
import Derived.Laws.Pointers
import Derived.Laws.LoneSync
import Derived.Laws.NewBlocks
import Derived.RegionTactic
import Derived.RegionCalls
import Derived.ChangeAlike
import Derived.Laws.Rows
import Derived.StillTailTactics
import Derived.Test.YthljhebbblhakaaGreatDoorEBits
import Derived.Laws.BitsAllLaws
import Derived.Laws.BitsLemmas
import Derived.Test.YthljhebbblhakaaGreatDoorEPnmHead
import Derived.Test.YthljhebbblhakaaGreatDoorEPnmBst
import Derived.Test.YthljhebbblhakaaGreatDoorEOpenInts
import Derived.ProofKit
import Derived.OpenShut
import Derived.Deep.Slices
import Derived.Test.YthljhebbblhakaaGreatDoorEScaler
import Derived.Deep.OwnRows
import Derived.Test.YthljhebbblhakaaGreatDoorEBuf
import Derived.Lib.BufferWrite
import Derived.Test.YthljhebbblhakaaGreatDoorENum
import Derived.Lib.Mul64
import Derived.Laws.Bits64b
import Derived.Test.YthljhebbblhakaaGreatDoorERas
import Derived.Test.YthljhebbblhakaaGreatDoorEPnmW
import Derived.Test.YthljhebbblhakaaGreatDoorEFfRef3
import Derived.Deep.RegionHeld3
namespace Go.Proofs.YthljhebbblhakaaGreatDoor
open Go.RowKit
set_option linter.unusedVariables false
set_option linter.unusedSimpArgs false

end Go.Proofs.YthljhebbblhakaaGreatDoor
namespace Go.Proofs.YthljhebbblhakaaGreatDoor
open Go.RowKit
set_option linter.unusedVariables false
set_option linter.unusedSimpArgs false

end Go.Proofs.YthljhebbblhakaaGreatDoor
namespace Go.Proofs.YthljhebbblhakaaGreatDoor
open Go.RowKit
set_option linter.unusedVariables false
set_option linter.unusedSimpArgs false

end Go.Proofs.YthljhebbblhakaaGreatDoor
namespace Go.Proofs.YthljhebbblhakaaGreatDoor
open Go.RowKit
set_option linter.unusedVariables false
set_option linter.unusedSimpArgs false

section
variable {w0 w w' : World} {p g r b d q c f k a a' : Nat} {W H z : Nat} {s : ByteArray} {x y : Led}
theorem FfP.led (P : FfP w0 w p g r b d q c f k a W H z s x) (t : Turn [g] w w') (l' : LedAt w' g y) : FfP w0 w' p g r b d q c f k a W H z s y :=
  P.take (t.mono (by simp)) (P.S.turn t (by simpa using Blk.ne_ P.S P.L (by decide))) l'
end
end Go.Proofs.YthljhebbblhakaaGreatDoor
