/-
  No cell of these rows narrows 'for every input' (looked for: loops, veiled, ifaces, maps, wideKeys, modest, calm, conditions, laid).
  DERIVED. THE GIVEN ROWS OF THIS SEAT. 5 by the template 'for every input the law returns true; each argument reads behind the call as it read before'; 0 by the template 'total and deterministic' (their statements: YtfgcbhcfekonnaaTotals.lean).
  GIVEN WITH THE SEED: the statements are not yours to turn. If you find one false, say at which input.
  Laid BY PROGRAM, IN A SANDBOX (cutbox-rows.mjs): the forced cells as the released guide's own fill.sh prints them over the translation bc1a298745802a36… (all of the seat's roots in one cut). By AI agents, Wed Nov 11 2026. No macro, syntax, notation, axiom, sorry.
-/
import Derived.Test.YtfgcbhcfekonnaaChecked
import GoSem.Claim
import GoSem.ClaimJoined
import GoSem.ClaimMapViews
import Derived.JoinedTies
import Derived.KernelRfl
namespace Go.Proofs.Ytfgcbhcfekonnaa
/- THE CELL 'sum', in the pinned program and in every row, IS THE sha256 OF THE DUMP (.gsa) THAT YtfgcbhcfekonnaaProg.lean LOADS. Nothing in Lean hashes anything: it is a label: what it is worth is what the hold of that sum in a sandbox is worth. -/
noncomputable def Try.pinned : Pinned := { name := "ytfgcbhcfekonnaa", sum := "bc1a298745802a3620db1befcad77b2a7722ac5f3e71121c3f38f3e01a865ea4", checked := Try.checked }
namespace Rows
def none {H : Type} : Left H := { results := [], args := [] }

/-- 'tintypelaw07.RasterPlays': WHATEVER THE INPUT: true; the input reads as it did. -/
def rasterPlaysSpec : ChangeSpec := { name := "rasterPlays", fn := fun _ => fun
  | [d1, d2, d3] => { results := [.lit (.bool true)], args := [d1, d2, d3] }
  | _ => none }
def rasterPlaysRow : OpenClaim := { program := "ytfgcbhcfekonnaa", sum := "bc1a298745802a3620db1befcad77b2a7722ac5f3e71121c3f38f3e01a865ea4", func := "tintype/tintypelaw07.RasterPlays", spec := "rasterPlays", inPlace := ["sync/atomic.LoadUint32", "sync/atomic.StoreUint32", "(*internal/sync.Mutex).Lock", "internal/race.Disable", "sync/atomic.CompareAndSwapInt32", "internal/race.Enable", "internal/race.Acquire", "(*internal/sync.Mutex).lockSlow", "internal/sync.runtime_canSpin", "internal/sync.runtime_doSpin", "internal/sync.throw", "internal/sync.runtime_nanotime", "internal/sync.runtime_SemacquireMutex", "sync/atomic.AddInt32", "(*internal/sync.Mutex).Unlock", "internal/race.ReleaseMerge", "(*internal/sync.Mutex).unlockSlow", "internal/sync.fatal", "internal/sync.runtime_Semrelease", "sync/atomic.LoadInt64", "sync/atomic.CompareAndSwapInt64"], unfollowed := true, recurses := true, apart := false }
def RasterPlaysSaid : Prop := rasterPlaysRow.holds Try.pinned (OpenSpec.ofChange rasterPlaysSpec)

/-- ITS FALSE NEIGHBOUR: 'it returns false'. Refute it at one input. -/
def rasterPlaysWrong : ChangeSpec := { name := "rasterPlays", fn := fun _ => fun
  | [d1, d2, d3] => { results := [.lit (.bool false)], args := [d1, d2, d3] }
  | _ => none }
def RasterPlaysWrongFalsely : Prop := rasterPlaysRow.holds Try.pinned (OpenSpec.ofChange rasterPlaysWrong)

/-- 'tintypelaw26.QoiShort': WHATEVER THE INPUT: true; the input reads as it did. -/
def qoiShortSpec : ChangeSpec := { name := "qoiShort", fn := fun _ => fun
  | [d1, d2, d3] => { results := [.lit (.bool true)], args := [d1, d2, d3] }
  | _ => none }
def qoiShortRow : OpenClaim := { program := "ytfgcbhcfekonnaa", sum := "bc1a298745802a3620db1befcad77b2a7722ac5f3e71121c3f38f3e01a865ea4", func := "tintype/tintypelaw26.QoiShort", spec := "qoiShort", unfollowed := true, recurses := true, apart := false }
def QoiShortSaid : Prop := qoiShortRow.holds Try.pinned (OpenSpec.ofChange qoiShortSpec)

/-- ITS FALSE NEIGHBOUR: 'it returns false'. Refute it at one input. -/
def qoiShortWrong : ChangeSpec := { name := "qoiShort", fn := fun _ => fun
  | [d1, d2, d3] => { results := [.lit (.bool false)], args := [d1, d2, d3] }
  | _ => none }
def QoiShortWrongFalsely : Prop := qoiShortRow.holds Try.pinned (OpenSpec.ofChange qoiShortWrong)

/-- 'tintypelaw27.FfDecodes': WHATEVER THE INPUT: true; the input reads as it did. -/
def ffDecodesSpec : ChangeSpec := { name := "ffDecodes", fn := fun _ => fun
  | [d] => { results := [.lit (.bool true)], args := [d] }
  | _ => none }
def ffDecodesRow : OpenClaim := { program := "ytfgcbhcfekonnaa", sum := "bc1a298745802a3620db1befcad77b2a7722ac5f3e71121c3f38f3e01a865ea4", func := "tintype/tintypelaw27.FfDecodes", spec := "ffDecodes", inPlace := ["sync/atomic.LoadUint32", "(*internal/sync.Mutex).Lock", "internal/race.Disable", "sync/atomic.CompareAndSwapInt32", "internal/race.Enable", "internal/race.Acquire", "(*internal/sync.Mutex).lockSlow", "internal/sync.runtime_canSpin", "internal/sync.runtime_doSpin", "internal/sync.throw", "internal/sync.runtime_nanotime", "internal/sync.runtime_SemacquireMutex", "sync/atomic.AddInt32", "(*internal/sync.Mutex).Unlock", "internal/race.ReleaseMerge", "(*internal/sync.Mutex).unlockSlow", "internal/sync.fatal", "internal/sync.runtime_Semrelease", "sync/atomic.StoreUint32", "sync/atomic.LoadInt64", "sync/atomic.CompareAndSwapInt64"], unfollowed := true, recurses := true, apart := false }
def FfDecodesSaid : Prop := ffDecodesRow.holds Try.pinned (OpenSpec.ofChange ffDecodesSpec)

/-- ITS FALSE NEIGHBOUR: 'it returns false'. Refute it at one input. -/
def ffDecodesWrong : ChangeSpec := { name := "ffDecodes", fn := fun _ => fun
  | [d] => { results := [.lit (.bool false)], args := [d] }
  | _ => none }
def FfDecodesWrongFalsely : Prop := ffDecodesRow.holds Try.pinned (OpenSpec.ofChange ffDecodesWrong)

/-- 'tintypelaw27.FfBudgets': WHATEVER THE INPUT: true; the input reads as it did. -/
def ffBudgetsSpec : ChangeSpec := { name := "ffBudgets", fn := fun _ => fun
  | [d1, d2] => { results := [.lit (.bool true)], args := [d1, d2] }
  | _ => none }
def ffBudgetsRow : OpenClaim := { program := "ytfgcbhcfekonnaa", sum := "bc1a298745802a3620db1befcad77b2a7722ac5f3e71121c3f38f3e01a865ea4", func := "tintype/tintypelaw27.FfBudgets", spec := "ffBudgets", inPlace := ["sync/atomic.LoadUint32", "(*internal/sync.Mutex).Lock", "internal/race.Disable", "sync/atomic.CompareAndSwapInt32", "internal/race.Enable", "internal/race.Acquire", "(*internal/sync.Mutex).lockSlow", "internal/sync.runtime_canSpin", "internal/sync.runtime_doSpin", "internal/sync.throw", "internal/sync.runtime_nanotime", "internal/sync.runtime_SemacquireMutex", "sync/atomic.AddInt32", "(*internal/sync.Mutex).Unlock", "internal/race.ReleaseMerge", "(*internal/sync.Mutex).unlockSlow", "internal/sync.fatal", "internal/sync.runtime_Semrelease", "sync/atomic.StoreUint32", "sync/atomic.LoadInt64", "sync/atomic.CompareAndSwapInt64"], unfollowed := true, recurses := true, apart := false }
def FfBudgetsSaid : Prop := ffBudgetsRow.holds Try.pinned (OpenSpec.ofChange ffBudgetsSpec)

/-- ITS FALSE NEIGHBOUR: 'it returns false'. Refute it at one input. -/
def ffBudgetsWrong : ChangeSpec := { name := "ffBudgets", fn := fun _ => fun
  | [d1, d2] => { results := [.lit (.bool false)], args := [d1, d2] }
  | _ => none }
def FfBudgetsWrongFalsely : Prop := ffBudgetsRow.holds Try.pinned (OpenSpec.ofChange ffBudgetsWrong)

/-- 'tintypelaw27.FfBack': WHATEVER THE INPUT: true; the input reads as it did. -/
def ffBackSpec : ChangeSpec := { name := "ffBack", fn := fun _ => fun
  | [d] => { results := [.lit (.bool true)], args := [d] }
  | _ => none }
def ffBackRow : OpenClaim := { program := "ytfgcbhcfekonnaa", sum := "bc1a298745802a3620db1befcad77b2a7722ac5f3e71121c3f38f3e01a865ea4", func := "tintype/tintypelaw27.FfBack", spec := "ffBack", inPlace := ["sync/atomic.LoadUint32", "(*internal/sync.Mutex).Lock", "internal/race.Disable", "sync/atomic.CompareAndSwapInt32", "internal/race.Enable", "internal/race.Acquire", "(*internal/sync.Mutex).lockSlow", "internal/sync.runtime_canSpin", "internal/sync.runtime_doSpin", "internal/sync.throw", "internal/sync.runtime_nanotime", "internal/sync.runtime_SemacquireMutex", "sync/atomic.AddInt32", "(*internal/sync.Mutex).Unlock", "internal/race.ReleaseMerge", "(*internal/sync.Mutex).unlockSlow", "internal/sync.fatal", "internal/sync.runtime_Semrelease", "sync/atomic.StoreUint32", "sync/atomic.LoadInt64", "sync/atomic.CompareAndSwapInt64"], unfollowed := true, recurses := true, apart := false }
def FfBackSaid : Prop := ffBackRow.holds Try.pinned (OpenSpec.ofChange ffBackSpec)

/-- ITS FALSE NEIGHBOUR: 'it returns false'. Refute it at one input. -/
def ffBackWrong : ChangeSpec := { name := "ffBack", fn := fun _ => fun
  | [d] => { results := [.lit (.bool false)], args := [d] }
  | _ => none }
def FfBackWrongFalsely : Prop := ffBackRow.holds Try.pinned (OpenSpec.ofChange ffBackWrong)

/- THE SECOND FORM. 'bulk': how many values and letters a reading holds, each counted each time it is reached (what is shared counts as often as it is met; a slice's spare places count too). A statement '..UptoSaid' is the law's where the arguments, and the package variables that the reading takes, are together of bulk at most 1048576: NARROWER than '..Said'. Prove '..Said' where nothing that the law and all that it calls make is longer than what came in: it says more and counts as full. Else prove '..UptoSaid'. A law counts once. -/
mutual
def uptoBulk {H : Type} : DataW H → Nat
  | .lit (.string bytes) => bytes.length + 1
  | .lit _ => 1
  | .nil => 1
  | .ptr d => uptoBulk d + 1
  | .slice elems spare => uptoBulkAll elems + uptoBulkAll spare + 1
  | .agg parts => uptoBulkAll parts + 1
  | .iface _ d => uptoBulk d + 1
  | .map entries => uptoBulkEntries entries + 1
  | .held _ => 1
def uptoBulkAll {H : Type} : List (DataW H) → Nat
  | [] => 0
  | d :: r => uptoBulk d + uptoBulkAll r
def uptoBulkEntries {H : Type} : List (Lit × DataW H) → Nat
  | [] => 0
  | x :: r => uptoBulkEntry x + uptoBulkEntries r
def uptoBulkEntry {H : Type} : Lit × DataW H → Nat
  | (.string bytes, d) => bytes.length + uptoBulk d + 1
  | (_, d) => uptoBulk d + 1
 end
def uptoSmall : (H : Type) → List (DataW H) → Bool := fun _ ds => decide (uptoBulkAll ds ≤ 1048576)
def OpenSpec.upto (s : _root_.Go.ChangeSpec) : _root_.Go.OpenSpec := { _root_.Go.OpenSpec.ofChange s with cond := some uptoSmall }

/-- 'tintypelaw07.RasterPlays', WHERE WHAT IT READS IS OF BULK AT MOST 1048576: true; the input reads as it did. -/
def rasterPlaysUptoRow : OpenClaim := { program := "ytfgcbhcfekonnaa", sum := "bc1a298745802a3620db1befcad77b2a7722ac5f3e71121c3f38f3e01a865ea4", func := "tintype/tintypelaw07.RasterPlays", spec := "rasterPlays", inPlace := ["sync/atomic.LoadUint32", "sync/atomic.StoreUint32", "(*internal/sync.Mutex).Lock", "internal/race.Disable", "sync/atomic.CompareAndSwapInt32", "internal/race.Enable", "internal/race.Acquire", "(*internal/sync.Mutex).lockSlow", "internal/sync.runtime_canSpin", "internal/sync.runtime_doSpin", "internal/sync.throw", "internal/sync.runtime_nanotime", "internal/sync.runtime_SemacquireMutex", "sync/atomic.AddInt32", "(*internal/sync.Mutex).Unlock", "internal/race.ReleaseMerge", "(*internal/sync.Mutex).unlockSlow", "internal/sync.fatal", "internal/sync.runtime_Semrelease", "sync/atomic.LoadInt64", "sync/atomic.CompareAndSwapInt64"], unfollowed := true, recurses := true, apart := false, narrowed := true }
def RasterPlaysUptoSaid : Prop := rasterPlaysUptoRow.holds Try.pinned (OpenSpec.upto rasterPlaysSpec)

/-- 'tintypelaw26.QoiShort', WHERE WHAT IT READS IS OF BULK AT MOST 1048576: true; the input reads as it did. -/
def qoiShortUptoRow : OpenClaim := { program := "ytfgcbhcfekonnaa", sum := "bc1a298745802a3620db1befcad77b2a7722ac5f3e71121c3f38f3e01a865ea4", func := "tintype/tintypelaw26.QoiShort", spec := "qoiShort", unfollowed := true, recurses := true, apart := false, narrowed := true }
def QoiShortUptoSaid : Prop := qoiShortUptoRow.holds Try.pinned (OpenSpec.upto qoiShortSpec)

/-- 'tintypelaw27.FfDecodes', WHERE WHAT IT READS IS OF BULK AT MOST 1048576: true; the input reads as it did. -/
def ffDecodesUptoRow : OpenClaim := { program := "ytfgcbhcfekonnaa", sum := "bc1a298745802a3620db1befcad77b2a7722ac5f3e71121c3f38f3e01a865ea4", func := "tintype/tintypelaw27.FfDecodes", spec := "ffDecodes", inPlace := ["sync/atomic.LoadUint32", "(*internal/sync.Mutex).Lock", "internal/race.Disable", "sync/atomic.CompareAndSwapInt32", "internal/race.Enable", "internal/race.Acquire", "(*internal/sync.Mutex).lockSlow", "internal/sync.runtime_canSpin", "internal/sync.runtime_doSpin", "internal/sync.throw", "internal/sync.runtime_nanotime", "internal/sync.runtime_SemacquireMutex", "sync/atomic.AddInt32", "(*internal/sync.Mutex).Unlock", "internal/race.ReleaseMerge", "(*internal/sync.Mutex).unlockSlow", "internal/sync.fatal", "internal/sync.runtime_Semrelease", "sync/atomic.StoreUint32", "sync/atomic.LoadInt64", "sync/atomic.CompareAndSwapInt64"], unfollowed := true, recurses := true, apart := false, narrowed := true }
def FfDecodesUptoSaid : Prop := ffDecodesUptoRow.holds Try.pinned (OpenSpec.upto ffDecodesSpec)

/-- 'tintypelaw27.FfBudgets', WHERE WHAT IT READS IS OF BULK AT MOST 1048576: true; the input reads as it did. -/
def ffBudgetsUptoRow : OpenClaim := { program := "ytfgcbhcfekonnaa", sum := "bc1a298745802a3620db1befcad77b2a7722ac5f3e71121c3f38f3e01a865ea4", func := "tintype/tintypelaw27.FfBudgets", spec := "ffBudgets", inPlace := ["sync/atomic.LoadUint32", "(*internal/sync.Mutex).Lock", "internal/race.Disable", "sync/atomic.CompareAndSwapInt32", "internal/race.Enable", "internal/race.Acquire", "(*internal/sync.Mutex).lockSlow", "internal/sync.runtime_canSpin", "internal/sync.runtime_doSpin", "internal/sync.throw", "internal/sync.runtime_nanotime", "internal/sync.runtime_SemacquireMutex", "sync/atomic.AddInt32", "(*internal/sync.Mutex).Unlock", "internal/race.ReleaseMerge", "(*internal/sync.Mutex).unlockSlow", "internal/sync.fatal", "internal/sync.runtime_Semrelease", "sync/atomic.StoreUint32", "sync/atomic.LoadInt64", "sync/atomic.CompareAndSwapInt64"], unfollowed := true, recurses := true, apart := false, narrowed := true }
def FfBudgetsUptoSaid : Prop := ffBudgetsUptoRow.holds Try.pinned (OpenSpec.upto ffBudgetsSpec)

/-- 'tintypelaw27.FfBack', WHERE WHAT IT READS IS OF BULK AT MOST 1048576: true; the input reads as it did. -/
def ffBackUptoRow : OpenClaim := { program := "ytfgcbhcfekonnaa", sum := "bc1a298745802a3620db1befcad77b2a7722ac5f3e71121c3f38f3e01a865ea4", func := "tintype/tintypelaw27.FfBack", spec := "ffBack", inPlace := ["sync/atomic.LoadUint32", "(*internal/sync.Mutex).Lock", "internal/race.Disable", "sync/atomic.CompareAndSwapInt32", "internal/race.Enable", "internal/race.Acquire", "(*internal/sync.Mutex).lockSlow", "internal/sync.runtime_canSpin", "internal/sync.runtime_doSpin", "internal/sync.throw", "internal/sync.runtime_nanotime", "internal/sync.runtime_SemacquireMutex", "sync/atomic.AddInt32", "(*internal/sync.Mutex).Unlock", "internal/race.ReleaseMerge", "(*internal/sync.Mutex).unlockSlow", "internal/sync.fatal", "internal/sync.runtime_Semrelease", "sync/atomic.StoreUint32", "sync/atomic.LoadInt64", "sync/atomic.CompareAndSwapInt64"], unfollowed := true, recurses := true, apart := false, narrowed := true }
def FfBackUptoSaid : Prop := ffBackUptoRow.holds Try.pinned (OpenSpec.upto ffBackSpec)

end Rows
end Go.Proofs.Ytfgcbhcfekonnaa
