/-
  No cell of these rows narrows 'for every input' (looked for: loops, veiled, ifaces, maps, wideKeys, modest, calm, conditions, laid).
  DERIVED. THE GIVEN ROWS OF THIS SEAT. 19 by the template 'for every input the law returns true; each argument reads behind the call as it read before'; 0 by the template 'total and deterministic' (their statements: YtbiiojkolgkmhaaTotals.lean).
  GIVEN WITH THE SEED: the statements are not yours to turn. If you find one false, say at which input.
  Laid BY PROGRAM, IN A SANDBOX (cutbox-rows.mjs): the forced cells as the released guide's own fill.sh prints them over the translation 2b96a3c3203a95b9… (all of the seat's roots in one cut). By AI agents, Wed Nov 11 2026. No macro, syntax, notation, axiom, sorry.
-/
import Derived.Test.YtbiiojkolgkmhaaChecked
import GoSem.Claim
import GoSem.ClaimJoined
import GoSem.ClaimMapViews
import Derived.JoinedTies
import Derived.KernelRfl
namespace Go.Proofs.Ytbiiojkolgkmhaa
/- THE CELL 'sum', in the pinned program and in every row, IS THE sha256 OF THE DUMP (.gsa) THAT YtbiiojkolgkmhaaProg.lean LOADS. Nothing in Lean hashes anything: it is a label: what it is worth is what the hold of that sum in a sandbox is worth. -/
noncomputable def Try.pinned : Pinned := { name := "ytbiiojkolgkmhaa", sum := "2b96a3c3203a95b9556b438f709eee213035999ba503793a4a0d93c467025ccd", checked := Try.checked }
namespace Rows
def none {H : Type} : Left H := { results := [], args := [] }

/-- 'tintypelaw18.TgarlePacks': WHATEVER THE INPUT: true; the input reads as it did. -/
def tgarlePacksSpec : ChangeSpec := { name := "tgarlePacks", fn := fun _ => fun
  | [d] => { results := [.lit (.bool true)], args := [d] }
  | _ => none }
def tgarlePacksRow : OpenClaim := { program := "ytbiiojkolgkmhaa", sum := "2b96a3c3203a95b9556b438f709eee213035999ba503793a4a0d93c467025ccd", func := "tintype/tintypelaw18.TgarlePacks", spec := "tgarlePacks", apart := false }
def TgarlePacksSaid : Prop := tgarlePacksRow.holds Try.pinned (OpenSpec.ofChange tgarlePacksSpec)

/-- ITS FALSE NEIGHBOUR: 'it returns false'. Refute it at one input. -/
def tgarlePacksWrong : ChangeSpec := { name := "tgarlePacks", fn := fun _ => fun
  | [d] => { results := [.lit (.bool false)], args := [d] }
  | _ => none }
def TgarlePacksWrongFalsely : Prop := tgarlePacksRow.holds Try.pinned (OpenSpec.ofChange tgarlePacksWrong)

/-- 'tintypelaw18.TgarlePackets': WHATEVER THE INPUT: true; the input reads as it did. -/
def tgarlePacketsSpec : ChangeSpec := { name := "tgarlePackets", fn := fun _ => fun
  | [d1, d2, d3] => { results := [.lit (.bool true)], args := [d1, d2, d3] }
  | _ => none }
def tgarlePacketsRow : OpenClaim := { program := "ytbiiojkolgkmhaa", sum := "2b96a3c3203a95b9556b438f709eee213035999ba503793a4a0d93c467025ccd", func := "tintype/tintypelaw18.TgarlePackets", spec := "tgarlePackets", apart := false }
def TgarlePacketsSaid : Prop := tgarlePacketsRow.holds Try.pinned (OpenSpec.ofChange tgarlePacketsSpec)

/-- ITS FALSE NEIGHBOUR: 'it returns false'. Refute it at one input. -/
def tgarlePacketsWrong : ChangeSpec := { name := "tgarlePackets", fn := fun _ => fun
  | [d1, d2, d3] => { results := [.lit (.bool false)], args := [d1, d2, d3] }
  | _ => none }
def TgarlePacketsWrongFalsely : Prop := tgarlePacketsRow.holds Try.pinned (OpenSpec.ofChange tgarlePacketsWrong)

/-- 'tintypelaw26.QoiShort': WHATEVER THE INPUT: true; the input reads as it did. -/
def qoiShortSpec : ChangeSpec := { name := "qoiShort", fn := fun _ => fun
  | [d1, d2, d3] => { results := [.lit (.bool true)], args := [d1, d2, d3] }
  | _ => none }
def qoiShortRow : OpenClaim := { program := "ytbiiojkolgkmhaa", sum := "2b96a3c3203a95b9556b438f709eee213035999ba503793a4a0d93c467025ccd", func := "tintype/tintypelaw26.QoiShort", spec := "qoiShort", unfollowed := true, recurses := true, apart := false }
def QoiShortSaid : Prop := qoiShortRow.holds Try.pinned (OpenSpec.ofChange qoiShortSpec)

/-- ITS FALSE NEIGHBOUR: 'it returns false'. Refute it at one input. -/
def qoiShortWrong : ChangeSpec := { name := "qoiShort", fn := fun _ => fun
  | [d1, d2, d3] => { results := [.lit (.bool false)], args := [d1, d2, d3] }
  | _ => none }
def QoiShortWrongFalsely : Prop := qoiShortRow.holds Try.pinned (OpenSpec.ofChange qoiShortWrong)

/-- 'tintypelaw08.ScaleTables': WHATEVER THE INPUT: true; the input reads as it did. -/
def scaleTablesSpec : ChangeSpec := { name := "scaleTables", fn := fun _ => fun
  | [d1, d2] => { results := [.lit (.bool true)], args := [d1, d2] }
  | _ => none }
def scaleTablesRow : OpenClaim := { program := "ytbiiojkolgkmhaa", sum := "2b96a3c3203a95b9556b438f709eee213035999ba503793a4a0d93c467025ccd", func := "tintype/tintypelaw08.ScaleTables", spec := "scaleTables", inPlace := ["sync/atomic.LoadUint32", "(*internal/sync.Mutex).Lock", "internal/race.Disable", "sync/atomic.CompareAndSwapInt32", "internal/race.Enable", "internal/race.Acquire", "(*internal/sync.Mutex).lockSlow", "internal/sync.runtime_canSpin", "internal/sync.runtime_doSpin", "internal/sync.throw", "internal/sync.runtime_nanotime", "internal/sync.runtime_SemacquireMutex", "sync/atomic.AddInt32", "(*internal/sync.Mutex).Unlock", "internal/race.ReleaseMerge", "(*internal/sync.Mutex).unlockSlow", "internal/sync.fatal", "internal/sync.runtime_Semrelease", "sync/atomic.StoreUint32"], unfollowed := true, recurses := true, apart := false }
def ScaleTablesSaid : Prop := scaleTablesRow.holds Try.pinned (OpenSpec.ofChange scaleTablesSpec)

/-- ITS FALSE NEIGHBOUR: 'it returns false'. Refute it at one input. -/
def scaleTablesWrong : ChangeSpec := { name := "scaleTables", fn := fun _ => fun
  | [d1, d2] => { results := [.lit (.bool false)], args := [d1, d2] }
  | _ => none }
def ScaleTablesWrongFalsely : Prop := scaleTablesRow.holds Try.pinned (OpenSpec.ofChange scaleTablesWrong)

/-- 'tintypelaw04.BufMany': WHATEVER THE INPUT: true; the input reads as it did. -/
def bufManySpec : ChangeSpec := { name := "bufMany", fn := fun _ => fun
  | [d1, d2] => { results := [.lit (.bool true)], args := [d1, d2] }
  | _ => none }
def bufManyRow : OpenClaim := { program := "ytbiiojkolgkmhaa", sum := "2b96a3c3203a95b9556b438f709eee213035999ba503793a4a0d93c467025ccd", func := "tintype/tintypelaw04.BufMany", spec := "bufMany", inPlace := ["sync/atomic.LoadUint32", "sync/atomic.LoadInt64", "sync/atomic.StoreUint32", "(*internal/sync.Mutex).Lock", "internal/race.Disable", "sync/atomic.CompareAndSwapInt32", "internal/race.Enable", "internal/race.Acquire", "(*internal/sync.Mutex).lockSlow", "internal/sync.runtime_canSpin", "internal/sync.runtime_doSpin", "internal/sync.throw", "internal/sync.runtime_nanotime", "internal/sync.runtime_SemacquireMutex", "sync/atomic.AddInt32", "(*internal/sync.Mutex).Unlock", "internal/race.ReleaseMerge", "(*internal/sync.Mutex).unlockSlow", "internal/sync.fatal", "internal/sync.runtime_Semrelease", "sync/atomic.CompareAndSwapInt64"], unfollowed := true, recurses := true, apart := false }
def BufManySaid : Prop := bufManyRow.holds Try.pinned (OpenSpec.ofChange bufManySpec)

/-- ITS FALSE NEIGHBOUR: 'it returns false'. Refute it at one input. -/
def bufManyWrong : ChangeSpec := { name := "bufMany", fn := fun _ => fun
  | [d1, d2] => { results := [.lit (.bool false)], args := [d1, d2] }
  | _ => none }
def BufManyWrongFalsely : Prop := bufManyRow.holds Try.pinned (OpenSpec.ofChange bufManyWrong)

/-- 'tintypelaw04.BufMakes': WHATEVER THE INPUT: true; the input reads as it did. -/
def bufMakesSpec : ChangeSpec := { name := "bufMakes", fn := fun _ => fun
  | [d1, d2] => { results := [.lit (.bool true)], args := [d1, d2] }
  | _ => none }
def bufMakesRow : OpenClaim := { program := "ytbiiojkolgkmhaa", sum := "2b96a3c3203a95b9556b438f709eee213035999ba503793a4a0d93c467025ccd", func := "tintype/tintypelaw04.BufMakes", spec := "bufMakes", inPlace := ["sync/atomic.LoadUint32", "sync/atomic.LoadInt64", "sync/atomic.StoreUint32", "(*internal/sync.Mutex).Lock", "internal/race.Disable", "sync/atomic.CompareAndSwapInt32", "internal/race.Enable", "internal/race.Acquire", "(*internal/sync.Mutex).lockSlow", "internal/sync.runtime_canSpin", "internal/sync.runtime_doSpin", "internal/sync.throw", "internal/sync.runtime_nanotime", "internal/sync.runtime_SemacquireMutex", "sync/atomic.AddInt32", "(*internal/sync.Mutex).Unlock", "internal/race.ReleaseMerge", "(*internal/sync.Mutex).unlockSlow", "internal/sync.fatal", "internal/sync.runtime_Semrelease", "sync/atomic.CompareAndSwapInt64"], unfollowed := true, recurses := true, apart := false }
def BufMakesSaid : Prop := bufMakesRow.holds Try.pinned (OpenSpec.ofChange bufMakesSpec)

/-- ITS FALSE NEIGHBOUR: 'it returns false'. Refute it at one input. -/
def bufMakesWrong : ChangeSpec := { name := "bufMakes", fn := fun _ => fun
  | [d1, d2] => { results := [.lit (.bool false)], args := [d1, d2] }
  | _ => none }
def BufMakesWrongFalsely : Prop := bufMakesRow.holds Try.pinned (OpenSpec.ofChange bufMakesWrong)

/-- 'tintypelaw10.PaletteNew': WHATEVER THE INPUT: true; the input reads as it did. -/
def paletteNewSpec : ChangeSpec := { name := "paletteNew", fn := fun _ => fun
  | [d1, d2] => { results := [.lit (.bool true)], args := [d1, d2] }
  | _ => none }
def paletteNewRow : OpenClaim := { program := "ytbiiojkolgkmhaa", sum := "2b96a3c3203a95b9556b438f709eee213035999ba503793a4a0d93c467025ccd", func := "tintype/tintypelaw10.PaletteNew", spec := "paletteNew", inPlace := ["sync/atomic.LoadUint32", "sync/atomic.LoadInt64", "sync/atomic.StoreUint32", "(*internal/sync.Mutex).Lock", "internal/race.Disable", "sync/atomic.CompareAndSwapInt32", "internal/race.Enable", "internal/race.Acquire", "(*internal/sync.Mutex).lockSlow", "internal/sync.runtime_canSpin", "internal/sync.runtime_doSpin", "internal/sync.throw", "internal/sync.runtime_nanotime", "internal/sync.runtime_SemacquireMutex", "sync/atomic.AddInt32", "(*internal/sync.Mutex).Unlock", "internal/race.ReleaseMerge", "(*internal/sync.Mutex).unlockSlow", "internal/sync.fatal", "internal/sync.runtime_Semrelease", "sync/atomic.CompareAndSwapInt64"], unfollowed := true, recurses := true, apart := false }
def PaletteNewSaid : Prop := paletteNewRow.holds Try.pinned (OpenSpec.ofChange paletteNewSpec)

/-- ITS FALSE NEIGHBOUR: 'it returns false'. Refute it at one input. -/
def paletteNewWrong : ChangeSpec := { name := "paletteNew", fn := fun _ => fun
  | [d1, d2] => { results := [.lit (.bool false)], args := [d1, d2] }
  | _ => none }
def PaletteNewWrongFalsely : Prop := paletteNewRow.holds Try.pinned (OpenSpec.ofChange paletteNewWrong)

/-- 'tintypelaw04.BufPlays': WHATEVER THE INPUT: true; the input reads as it did. -/
def bufPlaysSpec : ChangeSpec := { name := "bufPlays", fn := fun _ => fun
  | [d1, d2] => { results := [.lit (.bool true)], args := [d1, d2] }
  | _ => none }
def bufPlaysRow : OpenClaim := { program := "ytbiiojkolgkmhaa", sum := "2b96a3c3203a95b9556b438f709eee213035999ba503793a4a0d93c467025ccd", func := "tintype/tintypelaw04.BufPlays", spec := "bufPlays", inPlace := ["sync/atomic.LoadUint32", "sync/atomic.LoadInt64", "sync/atomic.StoreUint32", "(*internal/sync.Mutex).Lock", "internal/race.Disable", "sync/atomic.CompareAndSwapInt32", "internal/race.Enable", "internal/race.Acquire", "(*internal/sync.Mutex).lockSlow", "internal/sync.runtime_canSpin", "internal/sync.runtime_doSpin", "internal/sync.throw", "internal/sync.runtime_nanotime", "internal/sync.runtime_SemacquireMutex", "sync/atomic.AddInt32", "(*internal/sync.Mutex).Unlock", "internal/race.ReleaseMerge", "(*internal/sync.Mutex).unlockSlow", "internal/sync.fatal", "internal/sync.runtime_Semrelease", "sync/atomic.CompareAndSwapInt64"], unfollowed := true, recurses := true, apart := false }
def BufPlaysSaid : Prop := bufPlaysRow.holds Try.pinned (OpenSpec.ofChange bufPlaysSpec)

/-- ITS FALSE NEIGHBOUR: 'it returns false'. Refute it at one input. -/
def bufPlaysWrong : ChangeSpec := { name := "bufPlays", fn := fun _ => fun
  | [d1, d2] => { results := [.lit (.bool false)], args := [d1, d2] }
  | _ => none }
def BufPlaysWrongFalsely : Prop := bufPlaysRow.holds Try.pinned (OpenSpec.ofChange bufPlaysWrong)

/-- 'tintypelaw11.TokenNumbers': WHATEVER THE INPUT: true; the input reads as it did. -/
def tokenNumbersSpec : ChangeSpec := { name := "tokenNumbers", fn := fun _ => fun
  | [d] => { results := [.lit (.bool true)], args := [d] }
  | _ => none }
def tokenNumbersRow : OpenClaim := { program := "ytbiiojkolgkmhaa", sum := "2b96a3c3203a95b9556b438f709eee213035999ba503793a4a0d93c467025ccd", func := "tintype/tintypelaw11.TokenNumbers", spec := "tokenNumbers", inPlace := ["sync/atomic.LoadUint32", "sync/atomic.LoadInt64", "sync/atomic.StoreUint32", "(*internal/sync.Mutex).Lock", "internal/race.Disable", "sync/atomic.CompareAndSwapInt32", "internal/race.Enable", "internal/race.Acquire", "(*internal/sync.Mutex).lockSlow", "internal/sync.runtime_canSpin", "internal/sync.runtime_doSpin", "internal/sync.throw", "internal/sync.runtime_nanotime", "internal/sync.runtime_SemacquireMutex", "sync/atomic.AddInt32", "(*internal/sync.Mutex).Unlock", "internal/race.ReleaseMerge", "(*internal/sync.Mutex).unlockSlow", "internal/sync.fatal", "internal/sync.runtime_Semrelease", "sync/atomic.CompareAndSwapInt64"], unfollowed := true, recurses := true, apart := false }
def TokenNumbersSaid : Prop := tokenNumbersRow.holds Try.pinned (OpenSpec.ofChange tokenNumbersSpec)

/-- ITS FALSE NEIGHBOUR: 'it returns false'. Refute it at one input. -/
def tokenNumbersWrong : ChangeSpec := { name := "tokenNumbers", fn := fun _ => fun
  | [d] => { results := [.lit (.bool false)], args := [d] }
  | _ => none }
def TokenNumbersWrongFalsely : Prop := tokenNumbersRow.holds Try.pinned (OpenSpec.ofChange tokenNumbersWrong)

/-- 'tintypelaw11.TokenBlanks': WHATEVER THE INPUT: true; the input reads as it did. -/
def tokenBlanksSpec : ChangeSpec := { name := "tokenBlanks", fn := fun _ => fun
  | [d1, d2] => { results := [.lit (.bool true)], args := [d1, d2] }
  | _ => none }
def tokenBlanksRow : OpenClaim := { program := "ytbiiojkolgkmhaa", sum := "2b96a3c3203a95b9556b438f709eee213035999ba503793a4a0d93c467025ccd", func := "tintype/tintypelaw11.TokenBlanks", spec := "tokenBlanks", inPlace := ["sync/atomic.LoadUint32", "sync/atomic.LoadInt64", "sync/atomic.StoreUint32", "(*internal/sync.Mutex).Lock", "internal/race.Disable", "sync/atomic.CompareAndSwapInt32", "internal/race.Enable", "internal/race.Acquire", "(*internal/sync.Mutex).lockSlow", "internal/sync.runtime_canSpin", "internal/sync.runtime_doSpin", "internal/sync.throw", "internal/sync.runtime_nanotime", "internal/sync.runtime_SemacquireMutex", "sync/atomic.AddInt32", "(*internal/sync.Mutex).Unlock", "internal/race.ReleaseMerge", "(*internal/sync.Mutex).unlockSlow", "internal/sync.fatal", "internal/sync.runtime_Semrelease", "sync/atomic.CompareAndSwapInt64"], unfollowed := true, recurses := true, apart := false }
def TokenBlanksSaid : Prop := tokenBlanksRow.holds Try.pinned (OpenSpec.ofChange tokenBlanksSpec)

/-- ITS FALSE NEIGHBOUR: 'it returns false'. Refute it at one input. -/
def tokenBlanksWrong : ChangeSpec := { name := "tokenBlanks", fn := fun _ => fun
  | [d1, d2] => { results := [.lit (.bool false)], args := [d1, d2] }
  | _ => none }
def TokenBlanksWrongFalsely : Prop := tokenBlanksRow.holds Try.pinned (OpenSpec.ofChange tokenBlanksWrong)

/-- 'tintypelaw11.TokenSpent': WHATEVER THE INPUT: true; the input reads as it did. -/
def tokenSpentSpec : ChangeSpec := { name := "tokenSpent", fn := fun _ => fun
  | [d1, d2] => { results := [.lit (.bool true)], args := [d1, d2] }
  | _ => none }
def tokenSpentRow : OpenClaim := { program := "ytbiiojkolgkmhaa", sum := "2b96a3c3203a95b9556b438f709eee213035999ba503793a4a0d93c467025ccd", func := "tintype/tintypelaw11.TokenSpent", spec := "tokenSpent", inPlace := ["sync/atomic.LoadUint32", "sync/atomic.LoadInt64", "sync/atomic.StoreUint32", "(*internal/sync.Mutex).Lock", "internal/race.Disable", "sync/atomic.CompareAndSwapInt32", "internal/race.Enable", "internal/race.Acquire", "(*internal/sync.Mutex).lockSlow", "internal/sync.runtime_canSpin", "internal/sync.runtime_doSpin", "internal/sync.throw", "internal/sync.runtime_nanotime", "internal/sync.runtime_SemacquireMutex", "sync/atomic.AddInt32", "(*internal/sync.Mutex).Unlock", "internal/race.ReleaseMerge", "(*internal/sync.Mutex).unlockSlow", "internal/sync.fatal", "internal/sync.runtime_Semrelease", "sync/atomic.CompareAndSwapInt64"], unfollowed := true, recurses := true, apart := false }
def TokenSpentSaid : Prop := tokenSpentRow.holds Try.pinned (OpenSpec.ofChange tokenSpentSpec)

/-- ITS FALSE NEIGHBOUR: 'it returns false'. Refute it at one input. -/
def tokenSpentWrong : ChangeSpec := { name := "tokenSpent", fn := fun _ => fun
  | [d1, d2] => { results := [.lit (.bool false)], args := [d1, d2] }
  | _ => none }
def TokenSpentWrongFalsely : Prop := tokenSpentRow.holds Try.pinned (OpenSpec.ofChange tokenSpentWrong)

/-- 'tintypelaw11.TokenDigits': WHATEVER THE INPUT: true; the input reads as it did. -/
def tokenDigitsSpec : ChangeSpec := { name := "tokenDigits", fn := fun _ => fun
  | [d] => { results := [.lit (.bool true)], args := [d] }
  | _ => none }
def tokenDigitsRow : OpenClaim := { program := "ytbiiojkolgkmhaa", sum := "2b96a3c3203a95b9556b438f709eee213035999ba503793a4a0d93c467025ccd", func := "tintype/tintypelaw11.TokenDigits", spec := "tokenDigits", inPlace := ["sync/atomic.LoadUint32", "sync/atomic.LoadInt64", "sync/atomic.StoreUint32", "(*internal/sync.Mutex).Lock", "internal/race.Disable", "sync/atomic.CompareAndSwapInt32", "internal/race.Enable", "internal/race.Acquire", "(*internal/sync.Mutex).lockSlow", "internal/sync.runtime_canSpin", "internal/sync.runtime_doSpin", "internal/sync.throw", "internal/sync.runtime_nanotime", "internal/sync.runtime_SemacquireMutex", "sync/atomic.AddInt32", "(*internal/sync.Mutex).Unlock", "internal/race.ReleaseMerge", "(*internal/sync.Mutex).unlockSlow", "internal/sync.fatal", "internal/sync.runtime_Semrelease", "sync/atomic.CompareAndSwapInt64"], unfollowed := true, recurses := true, apart := false }
def TokenDigitsSaid : Prop := tokenDigitsRow.holds Try.pinned (OpenSpec.ofChange tokenDigitsSpec)

/-- ITS FALSE NEIGHBOUR: 'it returns false'. Refute it at one input. -/
def tokenDigitsWrong : ChangeSpec := { name := "tokenDigits", fn := fun _ => fun
  | [d] => { results := [.lit (.bool false)], args := [d] }
  | _ => none }
def TokenDigitsWrongFalsely : Prop := tokenDigitsRow.holds Try.pinned (OpenSpec.ofChange tokenDigitsWrong)

/-- 'tintypelaw07.RasterNew': WHATEVER THE INPUT: true; the input reads as it did. -/
def rasterNewSpec : ChangeSpec := { name := "rasterNew", fn := fun _ => fun
  | [d1, d2, d3] => { results := [.lit (.bool true)], args := [d1, d2, d3] }
  | _ => none }
def rasterNewRow : OpenClaim := { program := "ytbiiojkolgkmhaa", sum := "2b96a3c3203a95b9556b438f709eee213035999ba503793a4a0d93c467025ccd", func := "tintype/tintypelaw07.RasterNew", spec := "rasterNew", inPlace := ["sync/atomic.LoadUint32", "sync/atomic.StoreUint32", "(*internal/sync.Mutex).Lock", "internal/race.Disable", "sync/atomic.CompareAndSwapInt32", "internal/race.Enable", "internal/race.Acquire", "(*internal/sync.Mutex).lockSlow", "internal/sync.runtime_canSpin", "internal/sync.runtime_doSpin", "internal/sync.throw", "internal/sync.runtime_nanotime", "internal/sync.runtime_SemacquireMutex", "sync/atomic.AddInt32", "(*internal/sync.Mutex).Unlock", "internal/race.ReleaseMerge", "(*internal/sync.Mutex).unlockSlow", "internal/sync.fatal", "internal/sync.runtime_Semrelease", "sync/atomic.LoadInt64", "sync/atomic.CompareAndSwapInt64"], unfollowed := true, recurses := true, apart := false }
def RasterNewSaid : Prop := rasterNewRow.holds Try.pinned (OpenSpec.ofChange rasterNewSpec)

/-- ITS FALSE NEIGHBOUR: 'it returns false'. Refute it at one input. -/
def rasterNewWrong : ChangeSpec := { name := "rasterNew", fn := fun _ => fun
  | [d1, d2, d3] => { results := [.lit (.bool false)], args := [d1, d2, d3] }
  | _ => none }
def RasterNewWrongFalsely : Prop := rasterNewRow.holds Try.pinned (OpenSpec.ofChange rasterNewWrong)

/-- 'tintypelaw10.PaletteReads': WHATEVER THE INPUT: true; the input reads as it did. -/
def paletteReadsSpec : ChangeSpec := { name := "paletteReads", fn := fun _ => fun
  | [d1, d2, d3, d4, d5] => { results := [.lit (.bool true)], args := [d1, d2, d3, d4, d5] }
  | _ => none }
def paletteReadsRow : OpenClaim := { program := "ytbiiojkolgkmhaa", sum := "2b96a3c3203a95b9556b438f709eee213035999ba503793a4a0d93c467025ccd", func := "tintype/tintypelaw10.PaletteReads", spec := "paletteReads", inPlace := ["sync/atomic.LoadUint32", "sync/atomic.LoadInt64", "sync/atomic.StoreUint32", "(*internal/sync.Mutex).Lock", "internal/race.Disable", "sync/atomic.CompareAndSwapInt32", "internal/race.Enable", "internal/race.Acquire", "(*internal/sync.Mutex).lockSlow", "internal/sync.runtime_canSpin", "internal/sync.runtime_doSpin", "internal/sync.throw", "internal/sync.runtime_nanotime", "internal/sync.runtime_SemacquireMutex", "sync/atomic.AddInt32", "(*internal/sync.Mutex).Unlock", "internal/race.ReleaseMerge", "(*internal/sync.Mutex).unlockSlow", "internal/sync.fatal", "internal/sync.runtime_Semrelease", "sync/atomic.CompareAndSwapInt64"], unfollowed := true, recurses := true, apart := false }
def PaletteReadsSaid : Prop := paletteReadsRow.holds Try.pinned (OpenSpec.ofChange paletteReadsSpec)

/-- ITS FALSE NEIGHBOUR: 'it returns false'. Refute it at one input. -/
def paletteReadsWrong : ChangeSpec := { name := "paletteReads", fn := fun _ => fun
  | [d1, d2, d3, d4, d5] => { results := [.lit (.bool false)], args := [d1, d2, d3, d4, d5] }
  | _ => none }
def PaletteReadsWrongFalsely : Prop := paletteReadsRow.holds Try.pinned (OpenSpec.ofChange paletteReadsWrong)

/-- 'tintypelaw07.RasterImages': WHATEVER THE INPUT: true; the input reads as it did. -/
def rasterImagesSpec : ChangeSpec := { name := "rasterImages", fn := fun _ => fun
  | [d1, d2, d3, d4] => { results := [.lit (.bool true)], args := [d1, d2, d3, d4] }
  | _ => none }
def rasterImagesRow : OpenClaim := { program := "ytbiiojkolgkmhaa", sum := "2b96a3c3203a95b9556b438f709eee213035999ba503793a4a0d93c467025ccd", func := "tintype/tintypelaw07.RasterImages", spec := "rasterImages", inPlace := ["sync/atomic.LoadUint32", "sync/atomic.StoreUint32", "(*internal/sync.Mutex).Lock", "internal/race.Disable", "sync/atomic.CompareAndSwapInt32", "internal/race.Enable", "internal/race.Acquire", "(*internal/sync.Mutex).lockSlow", "internal/sync.runtime_canSpin", "internal/sync.runtime_doSpin", "internal/sync.throw", "internal/sync.runtime_nanotime", "internal/sync.runtime_SemacquireMutex", "sync/atomic.AddInt32", "(*internal/sync.Mutex).Unlock", "internal/race.ReleaseMerge", "(*internal/sync.Mutex).unlockSlow", "internal/sync.fatal", "internal/sync.runtime_Semrelease", "sync/atomic.LoadInt64", "sync/atomic.CompareAndSwapInt64"], unfollowed := true, recurses := true, apart := false }
def RasterImagesSaid : Prop := rasterImagesRow.holds Try.pinned (OpenSpec.ofChange rasterImagesSpec)

/-- ITS FALSE NEIGHBOUR: 'it returns false'. Refute it at one input. -/
def rasterImagesWrong : ChangeSpec := { name := "rasterImages", fn := fun _ => fun
  | [d1, d2, d3, d4] => { results := [.lit (.bool false)], args := [d1, d2, d3, d4] }
  | _ => none }
def RasterImagesWrongFalsely : Prop := rasterImagesRow.holds Try.pinned (OpenSpec.ofChange rasterImagesWrong)

/-- 'tintypelaw12.PnmheadReads': WHATEVER THE INPUT: true; the input reads as it did. -/
def pnmheadReadsSpec : ChangeSpec := { name := "pnmheadReads", fn := fun _ => fun
  | [d] => { results := [.lit (.bool true)], args := [d] }
  | _ => none }
def pnmheadReadsRow : OpenClaim := { program := "ytbiiojkolgkmhaa", sum := "2b96a3c3203a95b9556b438f709eee213035999ba503793a4a0d93c467025ccd", func := "tintype/tintypelaw12.PnmheadReads", spec := "pnmheadReads", inPlace := ["sync/atomic.LoadUint32", "sync/atomic.LoadInt64", "sync/atomic.StoreUint32", "(*internal/sync.Mutex).Lock", "internal/race.Disable", "sync/atomic.CompareAndSwapInt32", "internal/race.Enable", "internal/race.Acquire", "(*internal/sync.Mutex).lockSlow", "internal/sync.runtime_canSpin", "internal/sync.runtime_doSpin", "internal/sync.throw", "internal/sync.runtime_nanotime", "internal/sync.runtime_SemacquireMutex", "sync/atomic.AddInt32", "(*internal/sync.Mutex).Unlock", "internal/race.ReleaseMerge", "(*internal/sync.Mutex).unlockSlow", "internal/sync.fatal", "internal/sync.runtime_Semrelease", "sync/atomic.CompareAndSwapInt64"], unfollowed := true, recurses := true, apart := false }
def PnmheadReadsSaid : Prop := pnmheadReadsRow.holds Try.pinned (OpenSpec.ofChange pnmheadReadsSpec)

/-- ITS FALSE NEIGHBOUR: 'it returns false'. Refute it at one input. -/
def pnmheadReadsWrong : ChangeSpec := { name := "pnmheadReads", fn := fun _ => fun
  | [d] => { results := [.lit (.bool false)], args := [d] }
  | _ => none }
def PnmheadReadsWrongFalsely : Prop := pnmheadReadsRow.holds Try.pinned (OpenSpec.ofChange pnmheadReadsWrong)

/-- 'tintypelaw12.PnmheadSizes': WHATEVER THE INPUT: true; the input reads as it did. -/
def pnmheadSizesSpec : ChangeSpec := { name := "pnmheadSizes", fn := fun _ => fun
  | [d] => { results := [.lit (.bool true)], args := [d] }
  | _ => none }
def pnmheadSizesRow : OpenClaim := { program := "ytbiiojkolgkmhaa", sum := "2b96a3c3203a95b9556b438f709eee213035999ba503793a4a0d93c467025ccd", func := "tintype/tintypelaw12.PnmheadSizes", spec := "pnmheadSizes", inPlace := ["sync/atomic.LoadUint32", "sync/atomic.LoadInt64", "sync/atomic.StoreUint32", "(*internal/sync.Mutex).Lock", "internal/race.Disable", "sync/atomic.CompareAndSwapInt32", "internal/race.Enable", "internal/race.Acquire", "(*internal/sync.Mutex).lockSlow", "internal/sync.runtime_canSpin", "internal/sync.runtime_doSpin", "internal/sync.throw", "internal/sync.runtime_nanotime", "internal/sync.runtime_SemacquireMutex", "sync/atomic.AddInt32", "(*internal/sync.Mutex).Unlock", "internal/race.ReleaseMerge", "(*internal/sync.Mutex).unlockSlow", "internal/sync.fatal", "internal/sync.runtime_Semrelease", "sync/atomic.CompareAndSwapInt64"], unfollowed := true, recurses := true, apart := false }
def PnmheadSizesSaid : Prop := pnmheadSizesRow.holds Try.pinned (OpenSpec.ofChange pnmheadSizesSpec)

/-- ITS FALSE NEIGHBOUR: 'it returns false'. Refute it at one input. -/
def pnmheadSizesWrong : ChangeSpec := { name := "pnmheadSizes", fn := fun _ => fun
  | [d] => { results := [.lit (.bool false)], args := [d] }
  | _ => none }
def PnmheadSizesWrongFalsely : Prop := pnmheadSizesRow.holds Try.pinned (OpenSpec.ofChange pnmheadSizesWrong)

/-- 'tintypelaw12.PnmheadIs': WHATEVER THE INPUT: true; the input reads as it did. -/
def pnmheadIsSpec : ChangeSpec := { name := "pnmheadIs", fn := fun _ => fun
  | [d] => { results := [.lit (.bool true)], args := [d] }
  | _ => none }
def pnmheadIsRow : OpenClaim := { program := "ytbiiojkolgkmhaa", sum := "2b96a3c3203a95b9556b438f709eee213035999ba503793a4a0d93c467025ccd", func := "tintype/tintypelaw12.PnmheadIs", spec := "pnmheadIs", inPlace := ["sync/atomic.LoadUint32", "sync/atomic.LoadInt64", "sync/atomic.StoreUint32", "(*internal/sync.Mutex).Lock", "internal/race.Disable", "sync/atomic.CompareAndSwapInt32", "internal/race.Enable", "internal/race.Acquire", "(*internal/sync.Mutex).lockSlow", "internal/sync.runtime_canSpin", "internal/sync.runtime_doSpin", "internal/sync.throw", "internal/sync.runtime_nanotime", "internal/sync.runtime_SemacquireMutex", "sync/atomic.AddInt32", "(*internal/sync.Mutex).Unlock", "internal/race.ReleaseMerge", "(*internal/sync.Mutex).unlockSlow", "internal/sync.fatal", "internal/sync.runtime_Semrelease", "sync/atomic.CompareAndSwapInt64"], unfollowed := true, recurses := true, apart := false }
def PnmheadIsSaid : Prop := pnmheadIsRow.holds Try.pinned (OpenSpec.ofChange pnmheadIsSpec)

/-- ITS FALSE NEIGHBOUR: 'it returns false'. Refute it at one input. -/
def pnmheadIsWrong : ChangeSpec := { name := "pnmheadIs", fn := fun _ => fun
  | [d] => { results := [.lit (.bool false)], args := [d] }
  | _ => none }
def PnmheadIsWrongFalsely : Prop := pnmheadIsRow.holds Try.pinned (OpenSpec.ofChange pnmheadIsWrong)

/-- 'tintypelaw07.RasterPlays': WHATEVER THE INPUT: true; the input reads as it did. -/
def rasterPlaysSpec : ChangeSpec := { name := "rasterPlays", fn := fun _ => fun
  | [d1, d2, d3] => { results := [.lit (.bool true)], args := [d1, d2, d3] }
  | _ => none }
def rasterPlaysRow : OpenClaim := { program := "ytbiiojkolgkmhaa", sum := "2b96a3c3203a95b9556b438f709eee213035999ba503793a4a0d93c467025ccd", func := "tintype/tintypelaw07.RasterPlays", spec := "rasterPlays", inPlace := ["sync/atomic.LoadUint32", "sync/atomic.StoreUint32", "(*internal/sync.Mutex).Lock", "internal/race.Disable", "sync/atomic.CompareAndSwapInt32", "internal/race.Enable", "internal/race.Acquire", "(*internal/sync.Mutex).lockSlow", "internal/sync.runtime_canSpin", "internal/sync.runtime_doSpin", "internal/sync.throw", "internal/sync.runtime_nanotime", "internal/sync.runtime_SemacquireMutex", "sync/atomic.AddInt32", "(*internal/sync.Mutex).Unlock", "internal/race.ReleaseMerge", "(*internal/sync.Mutex).unlockSlow", "internal/sync.fatal", "internal/sync.runtime_Semrelease", "sync/atomic.LoadInt64", "sync/atomic.CompareAndSwapInt64"], unfollowed := true, recurses := true, apart := false }
def RasterPlaysSaid : Prop := rasterPlaysRow.holds Try.pinned (OpenSpec.ofChange rasterPlaysSpec)

/-- ITS FALSE NEIGHBOUR: 'it returns false'. Refute it at one input. -/
def rasterPlaysWrong : ChangeSpec := { name := "rasterPlays", fn := fun _ => fun
  | [d1, d2, d3] => { results := [.lit (.bool false)], args := [d1, d2, d3] }
  | _ => none }
def RasterPlaysWrongFalsely : Prop := rasterPlaysRow.holds Try.pinned (OpenSpec.ofChange rasterPlaysWrong)

/- THE SECOND FORM. 'bulk': how many values and letters a reading holds, each counted each time it is reached (what is shared counts as often as it is met; a slice's spare places count too). A statement '..UptoSaid' is the law's where the arguments, and the package variables that the reading takes, are together of bulk at most 1048576: NARROWER than '..Said'. Prove '..Said' where nothing that the law and all that it calls make is longer than what came in: it says more and counts as full. Else prove '..UptoSaid'. A law counts once. -/
mutual
def uptoBulk {H : Type} : DataW H → Nat
  | .lit (.string bytes) => bytes.length + 1
  | .lit _ => 1
  | .nil => 1
  | .ptr d => uptoBulk d + 1
  | .slice elems spare => uptoBulkAll elems + uptoBulkAll spare + 1
  | .agg parts => uptoBulkAll parts + 1
  | .iface _ d => uptoBulk d + 1
  | .map entries => uptoBulkEntries entries + 1
  | .held _ => 1
def uptoBulkAll {H : Type} : List (DataW H) → Nat
  | [] => 0
  | d :: r => uptoBulk d + uptoBulkAll r
def uptoBulkEntries {H : Type} : List (Lit × DataW H) → Nat
  | [] => 0
  | x :: r => uptoBulkEntry x + uptoBulkEntries r
def uptoBulkEntry {H : Type} : Lit × DataW H → Nat
  | (.string bytes, d) => bytes.length + uptoBulk d + 1
  | (_, d) => uptoBulk d + 1
 end
def uptoSmall : (H : Type) → List (DataW H) → Bool := fun _ ds => decide (uptoBulkAll ds ≤ 1048576)
def OpenSpec.upto (s : _root_.Go.ChangeSpec) : _root_.Go.OpenSpec := { _root_.Go.OpenSpec.ofChange s with cond := some uptoSmall }

/-- 'tintypelaw18.TgarlePacks', WHERE WHAT IT READS IS OF BULK AT MOST 1048576: true; the input reads as it did. -/
def tgarlePacksUptoRow : OpenClaim := { program := "ytbiiojkolgkmhaa", sum := "2b96a3c3203a95b9556b438f709eee213035999ba503793a4a0d93c467025ccd", func := "tintype/tintypelaw18.TgarlePacks", spec := "tgarlePacks", apart := false, narrowed := true }
def TgarlePacksUptoSaid : Prop := tgarlePacksUptoRow.holds Try.pinned (OpenSpec.upto tgarlePacksSpec)

/-- 'tintypelaw18.TgarlePackets', WHERE WHAT IT READS IS OF BULK AT MOST 1048576: true; the input reads as it did. -/
def tgarlePacketsUptoRow : OpenClaim := { program := "ytbiiojkolgkmhaa", sum := "2b96a3c3203a95b9556b438f709eee213035999ba503793a4a0d93c467025ccd", func := "tintype/tintypelaw18.TgarlePackets", spec := "tgarlePackets", apart := false, narrowed := true }
def TgarlePacketsUptoSaid : Prop := tgarlePacketsUptoRow.holds Try.pinned (OpenSpec.upto tgarlePacketsSpec)

/-- 'tintypelaw26.QoiShort', WHERE WHAT IT READS IS OF BULK AT MOST 1048576: true; the input reads as it did. -/
def qoiShortUptoRow : OpenClaim := { program := "ytbiiojkolgkmhaa", sum := "2b96a3c3203a95b9556b438f709eee213035999ba503793a4a0d93c467025ccd", func := "tintype/tintypelaw26.QoiShort", spec := "qoiShort", unfollowed := true, recurses := true, apart := false, narrowed := true }
def QoiShortUptoSaid : Prop := qoiShortUptoRow.holds Try.pinned (OpenSpec.upto qoiShortSpec)

/-- 'tintypelaw08.ScaleTables', WHERE WHAT IT READS IS OF BULK AT MOST 1048576: true; the input reads as it did. -/
def scaleTablesUptoRow : OpenClaim := { program := "ytbiiojkolgkmhaa", sum := "2b96a3c3203a95b9556b438f709eee213035999ba503793a4a0d93c467025ccd", func := "tintype/tintypelaw08.ScaleTables", spec := "scaleTables", inPlace := ["sync/atomic.LoadUint32", "(*internal/sync.Mutex).Lock", "internal/race.Disable", "sync/atomic.CompareAndSwapInt32", "internal/race.Enable", "internal/race.Acquire", "(*internal/sync.Mutex).lockSlow", "internal/sync.runtime_canSpin", "internal/sync.runtime_doSpin", "internal/sync.throw", "internal/sync.runtime_nanotime", "internal/sync.runtime_SemacquireMutex", "sync/atomic.AddInt32", "(*internal/sync.Mutex).Unlock", "internal/race.ReleaseMerge", "(*internal/sync.Mutex).unlockSlow", "internal/sync.fatal", "internal/sync.runtime_Semrelease", "sync/atomic.StoreUint32"], unfollowed := true, recurses := true, apart := false, narrowed := true }
def ScaleTablesUptoSaid : Prop := scaleTablesUptoRow.holds Try.pinned (OpenSpec.upto scaleTablesSpec)

/-- 'tintypelaw04.BufMany', WHERE WHAT IT READS IS OF BULK AT MOST 1048576: true; the input reads as it did. -/
def bufManyUptoRow : OpenClaim := { program := "ytbiiojkolgkmhaa", sum := "2b96a3c3203a95b9556b438f709eee213035999ba503793a4a0d93c467025ccd", func := "tintype/tintypelaw04.BufMany", spec := "bufMany", inPlace := ["sync/atomic.LoadUint32", "sync/atomic.LoadInt64", "sync/atomic.StoreUint32", "(*internal/sync.Mutex).Lock", "internal/race.Disable", "sync/atomic.CompareAndSwapInt32", "internal/race.Enable", "internal/race.Acquire", "(*internal/sync.Mutex).lockSlow", "internal/sync.runtime_canSpin", "internal/sync.runtime_doSpin", "internal/sync.throw", "internal/sync.runtime_nanotime", "internal/sync.runtime_SemacquireMutex", "sync/atomic.AddInt32", "(*internal/sync.Mutex).Unlock", "internal/race.ReleaseMerge", "(*internal/sync.Mutex).unlockSlow", "internal/sync.fatal", "internal/sync.runtime_Semrelease", "sync/atomic.CompareAndSwapInt64"], unfollowed := true, recurses := true, apart := false, narrowed := true }
def BufManyUptoSaid : Prop := bufManyUptoRow.holds Try.pinned (OpenSpec.upto bufManySpec)

/-- 'tintypelaw04.BufMakes', WHERE WHAT IT READS IS OF BULK AT MOST 1048576: true; the input reads as it did. -/
def bufMakesUptoRow : OpenClaim := { program := "ytbiiojkolgkmhaa", sum := "2b96a3c3203a95b9556b438f709eee213035999ba503793a4a0d93c467025ccd", func := "tintype/tintypelaw04.BufMakes", spec := "bufMakes", inPlace := ["sync/atomic.LoadUint32", "sync/atomic.LoadInt64", "sync/atomic.StoreUint32", "(*internal/sync.Mutex).Lock", "internal/race.Disable", "sync/atomic.CompareAndSwapInt32", "internal/race.Enable", "internal/race.Acquire", "(*internal/sync.Mutex).lockSlow", "internal/sync.runtime_canSpin", "internal/sync.runtime_doSpin", "internal/sync.throw", "internal/sync.runtime_nanotime", "internal/sync.runtime_SemacquireMutex", "sync/atomic.AddInt32", "(*internal/sync.Mutex).Unlock", "internal/race.ReleaseMerge", "(*internal/sync.Mutex).unlockSlow", "internal/sync.fatal", "internal/sync.runtime_Semrelease", "sync/atomic.CompareAndSwapInt64"], unfollowed := true, recurses := true, apart := false, narrowed := true }
def BufMakesUptoSaid : Prop := bufMakesUptoRow.holds Try.pinned (OpenSpec.upto bufMakesSpec)

/-- 'tintypelaw10.PaletteNew', WHERE WHAT IT READS IS OF BULK AT MOST 1048576: true; the input reads as it did. -/
def paletteNewUptoRow : OpenClaim := { program := "ytbiiojkolgkmhaa", sum := "2b96a3c3203a95b9556b438f709eee213035999ba503793a4a0d93c467025ccd", func := "tintype/tintypelaw10.PaletteNew", spec := "paletteNew", inPlace := ["sync/atomic.LoadUint32", "sync/atomic.LoadInt64", "sync/atomic.StoreUint32", "(*internal/sync.Mutex).Lock", "internal/race.Disable", "sync/atomic.CompareAndSwapInt32", "internal/race.Enable", "internal/race.Acquire", "(*internal/sync.Mutex).lockSlow", "internal/sync.runtime_canSpin", "internal/sync.runtime_doSpin", "internal/sync.throw", "internal/sync.runtime_nanotime", "internal/sync.runtime_SemacquireMutex", "sync/atomic.AddInt32", "(*internal/sync.Mutex).Unlock", "internal/race.ReleaseMerge", "(*internal/sync.Mutex).unlockSlow", "internal/sync.fatal", "internal/sync.runtime_Semrelease", "sync/atomic.CompareAndSwapInt64"], unfollowed := true, recurses := true, apart := false, narrowed := true }
def PaletteNewUptoSaid : Prop := paletteNewUptoRow.holds Try.pinned (OpenSpec.upto paletteNewSpec)

/-- 'tintypelaw04.BufPlays', WHERE WHAT IT READS IS OF BULK AT MOST 1048576: true; the input reads as it did. -/
def bufPlaysUptoRow : OpenClaim := { program := "ytbiiojkolgkmhaa", sum := "2b96a3c3203a95b9556b438f709eee213035999ba503793a4a0d93c467025ccd", func := "tintype/tintypelaw04.BufPlays", spec := "bufPlays", inPlace := ["sync/atomic.LoadUint32", "sync/atomic.LoadInt64", "sync/atomic.StoreUint32", "(*internal/sync.Mutex).Lock", "internal/race.Disable", "sync/atomic.CompareAndSwapInt32", "internal/race.Enable", "internal/race.Acquire", "(*internal/sync.Mutex).lockSlow", "internal/sync.runtime_canSpin", "internal/sync.runtime_doSpin", "internal/sync.throw", "internal/sync.runtime_nanotime", "internal/sync.runtime_SemacquireMutex", "sync/atomic.AddInt32", "(*internal/sync.Mutex).Unlock", "internal/race.ReleaseMerge", "(*internal/sync.Mutex).unlockSlow", "internal/sync.fatal", "internal/sync.runtime_Semrelease", "sync/atomic.CompareAndSwapInt64"], unfollowed := true, recurses := true, apart := false, narrowed := true }
def BufPlaysUptoSaid : Prop := bufPlaysUptoRow.holds Try.pinned (OpenSpec.upto bufPlaysSpec)

/-- 'tintypelaw11.TokenNumbers', WHERE WHAT IT READS IS OF BULK AT MOST 1048576: true; the input reads as it did. -/
def tokenNumbersUptoRow : OpenClaim := { program := "ytbiiojkolgkmhaa", sum := "2b96a3c3203a95b9556b438f709eee213035999ba503793a4a0d93c467025ccd", func := "tintype/tintypelaw11.TokenNumbers", spec := "tokenNumbers", inPlace := ["sync/atomic.LoadUint32", "sync/atomic.LoadInt64", "sync/atomic.StoreUint32", "(*internal/sync.Mutex).Lock", "internal/race.Disable", "sync/atomic.CompareAndSwapInt32", "internal/race.Enable", "internal/race.Acquire", "(*internal/sync.Mutex).lockSlow", "internal/sync.runtime_canSpin", "internal/sync.runtime_doSpin", "internal/sync.throw", "internal/sync.runtime_nanotime", "internal/sync.runtime_SemacquireMutex", "sync/atomic.AddInt32", "(*internal/sync.Mutex).Unlock", "internal/race.ReleaseMerge", "(*internal/sync.Mutex).unlockSlow", "internal/sync.fatal", "internal/sync.runtime_Semrelease", "sync/atomic.CompareAndSwapInt64"], unfollowed := true, recurses := true, apart := false, narrowed := true }
def TokenNumbersUptoSaid : Prop := tokenNumbersUptoRow.holds Try.pinned (OpenSpec.upto tokenNumbersSpec)

/-- 'tintypelaw11.TokenBlanks', WHERE WHAT IT READS IS OF BULK AT MOST 1048576: true; the input reads as it did. -/
def tokenBlanksUptoRow : OpenClaim := { program := "ytbiiojkolgkmhaa", sum := "2b96a3c3203a95b9556b438f709eee213035999ba503793a4a0d93c467025ccd", func := "tintype/tintypelaw11.TokenBlanks", spec := "tokenBlanks", inPlace := ["sync/atomic.LoadUint32", "sync/atomic.LoadInt64", "sync/atomic.StoreUint32", "(*internal/sync.Mutex).Lock", "internal/race.Disable", "sync/atomic.CompareAndSwapInt32", "internal/race.Enable", "internal/race.Acquire", "(*internal/sync.Mutex).lockSlow", "internal/sync.runtime_canSpin", "internal/sync.runtime_doSpin", "internal/sync.throw", "internal/sync.runtime_nanotime", "internal/sync.runtime_SemacquireMutex", "sync/atomic.AddInt32", "(*internal/sync.Mutex).Unlock", "internal/race.ReleaseMerge", "(*internal/sync.Mutex).unlockSlow", "internal/sync.fatal", "internal/sync.runtime_Semrelease", "sync/atomic.CompareAndSwapInt64"], unfollowed := true, recurses := true, apart := false, narrowed := true }
def TokenBlanksUptoSaid : Prop := tokenBlanksUptoRow.holds Try.pinned (OpenSpec.upto tokenBlanksSpec)

/-- 'tintypelaw11.TokenSpent', WHERE WHAT IT READS IS OF BULK AT MOST 1048576: true; the input reads as it did. -/
def tokenSpentUptoRow : OpenClaim := { program := "ytbiiojkolgkmhaa", sum := "2b96a3c3203a95b9556b438f709eee213035999ba503793a4a0d93c467025ccd", func := "tintype/tintypelaw11.TokenSpent", spec := "tokenSpent", inPlace := ["sync/atomic.LoadUint32", "sync/atomic.LoadInt64", "sync/atomic.StoreUint32", "(*internal/sync.Mutex).Lock", "internal/race.Disable", "sync/atomic.CompareAndSwapInt32", "internal/race.Enable", "internal/race.Acquire", "(*internal/sync.Mutex).lockSlow", "internal/sync.runtime_canSpin", "internal/sync.runtime_doSpin", "internal/sync.throw", "internal/sync.runtime_nanotime", "internal/sync.runtime_SemacquireMutex", "sync/atomic.AddInt32", "(*internal/sync.Mutex).Unlock", "internal/race.ReleaseMerge", "(*internal/sync.Mutex).unlockSlow", "internal/sync.fatal", "internal/sync.runtime_Semrelease", "sync/atomic.CompareAndSwapInt64"], unfollowed := true, recurses := true, apart := false, narrowed := true }
def TokenSpentUptoSaid : Prop := tokenSpentUptoRow.holds Try.pinned (OpenSpec.upto tokenSpentSpec)

/-- 'tintypelaw11.TokenDigits', WHERE WHAT IT READS IS OF BULK AT MOST 1048576: true; the input reads as it did. -/
def tokenDigitsUptoRow : OpenClaim := { program := "ytbiiojkolgkmhaa", sum := "2b96a3c3203a95b9556b438f709eee213035999ba503793a4a0d93c467025ccd", func := "tintype/tintypelaw11.TokenDigits", spec := "tokenDigits", inPlace := ["sync/atomic.LoadUint32", "sync/atomic.LoadInt64", "sync/atomic.StoreUint32", "(*internal/sync.Mutex).Lock", "internal/race.Disable", "sync/atomic.CompareAndSwapInt32", "internal/race.Enable", "internal/race.Acquire", "(*internal/sync.Mutex).lockSlow", "internal/sync.runtime_canSpin", "internal/sync.runtime_doSpin", "internal/sync.throw", "internal/sync.runtime_nanotime", "internal/sync.runtime_SemacquireMutex", "sync/atomic.AddInt32", "(*internal/sync.Mutex).Unlock", "internal/race.ReleaseMerge", "(*internal/sync.Mutex).unlockSlow", "internal/sync.fatal", "internal/sync.runtime_Semrelease", "sync/atomic.CompareAndSwapInt64"], unfollowed := true, recurses := true, apart := false, narrowed := true }
def TokenDigitsUptoSaid : Prop := tokenDigitsUptoRow.holds Try.pinned (OpenSpec.upto tokenDigitsSpec)

/-- 'tintypelaw07.RasterNew', WHERE WHAT IT READS IS OF BULK AT MOST 1048576: true; the input reads as it did. -/
def rasterNewUptoRow : OpenClaim := { program := "ytbiiojkolgkmhaa", sum := "2b96a3c3203a95b9556b438f709eee213035999ba503793a4a0d93c467025ccd", func := "tintype/tintypelaw07.RasterNew", spec := "rasterNew", inPlace := ["sync/atomic.LoadUint32", "sync/atomic.StoreUint32", "(*internal/sync.Mutex).Lock", "internal/race.Disable", "sync/atomic.CompareAndSwapInt32", "internal/race.Enable", "internal/race.Acquire", "(*internal/sync.Mutex).lockSlow", "internal/sync.runtime_canSpin", "internal/sync.runtime_doSpin", "internal/sync.throw", "internal/sync.runtime_nanotime", "internal/sync.runtime_SemacquireMutex", "sync/atomic.AddInt32", "(*internal/sync.Mutex).Unlock", "internal/race.ReleaseMerge", "(*internal/sync.Mutex).unlockSlow", "internal/sync.fatal", "internal/sync.runtime_Semrelease", "sync/atomic.LoadInt64", "sync/atomic.CompareAndSwapInt64"], unfollowed := true, recurses := true, apart := false, narrowed := true }
def RasterNewUptoSaid : Prop := rasterNewUptoRow.holds Try.pinned (OpenSpec.upto rasterNewSpec)

/-- 'tintypelaw10.PaletteReads', WHERE WHAT IT READS IS OF BULK AT MOST 1048576: true; the input reads as it did. -/
def paletteReadsUptoRow : OpenClaim := { program := "ytbiiojkolgkmhaa", sum := "2b96a3c3203a95b9556b438f709eee213035999ba503793a4a0d93c467025ccd", func := "tintype/tintypelaw10.PaletteReads", spec := "paletteReads", inPlace := ["sync/atomic.LoadUint32", "sync/atomic.LoadInt64", "sync/atomic.StoreUint32", "(*internal/sync.Mutex).Lock", "internal/race.Disable", "sync/atomic.CompareAndSwapInt32", "internal/race.Enable", "internal/race.Acquire", "(*internal/sync.Mutex).lockSlow", "internal/sync.runtime_canSpin", "internal/sync.runtime_doSpin", "internal/sync.throw", "internal/sync.runtime_nanotime", "internal/sync.runtime_SemacquireMutex", "sync/atomic.AddInt32", "(*internal/sync.Mutex).Unlock", "internal/race.ReleaseMerge", "(*internal/sync.Mutex).unlockSlow", "internal/sync.fatal", "internal/sync.runtime_Semrelease", "sync/atomic.CompareAndSwapInt64"], unfollowed := true, recurses := true, apart := false, narrowed := true }
def PaletteReadsUptoSaid : Prop := paletteReadsUptoRow.holds Try.pinned (OpenSpec.upto paletteReadsSpec)

/-- 'tintypelaw07.RasterImages', WHERE WHAT IT READS IS OF BULK AT MOST 1048576: true; the input reads as it did. -/
def rasterImagesUptoRow : OpenClaim := { program := "ytbiiojkolgkmhaa", sum := "2b96a3c3203a95b9556b438f709eee213035999ba503793a4a0d93c467025ccd", func := "tintype/tintypelaw07.RasterImages", spec := "rasterImages", inPlace := ["sync/atomic.LoadUint32", "sync/atomic.StoreUint32", "(*internal/sync.Mutex).Lock", "internal/race.Disable", "sync/atomic.CompareAndSwapInt32", "internal/race.Enable", "internal/race.Acquire", "(*internal/sync.Mutex).lockSlow", "internal/sync.runtime_canSpin", "internal/sync.runtime_doSpin", "internal/sync.throw", "internal/sync.runtime_nanotime", "internal/sync.runtime_SemacquireMutex", "sync/atomic.AddInt32", "(*internal/sync.Mutex).Unlock", "internal/race.ReleaseMerge", "(*internal/sync.Mutex).unlockSlow", "internal/sync.fatal", "internal/sync.runtime_Semrelease", "sync/atomic.LoadInt64", "sync/atomic.CompareAndSwapInt64"], unfollowed := true, recurses := true, apart := false, narrowed := true }
def RasterImagesUptoSaid : Prop := rasterImagesUptoRow.holds Try.pinned (OpenSpec.upto rasterImagesSpec)

/-- 'tintypelaw12.PnmheadReads', WHERE WHAT IT READS IS OF BULK AT MOST 1048576: true; the input reads as it did. -/
def pnmheadReadsUptoRow : OpenClaim := { program := "ytbiiojkolgkmhaa", sum := "2b96a3c3203a95b9556b438f709eee213035999ba503793a4a0d93c467025ccd", func := "tintype/tintypelaw12.PnmheadReads", spec := "pnmheadReads", inPlace := ["sync/atomic.LoadUint32", "sync/atomic.LoadInt64", "sync/atomic.StoreUint32", "(*internal/sync.Mutex).Lock", "internal/race.Disable", "sync/atomic.CompareAndSwapInt32", "internal/race.Enable", "internal/race.Acquire", "(*internal/sync.Mutex).lockSlow", "internal/sync.runtime_canSpin", "internal/sync.runtime_doSpin", "internal/sync.throw", "internal/sync.runtime_nanotime", "internal/sync.runtime_SemacquireMutex", "sync/atomic.AddInt32", "(*internal/sync.Mutex).Unlock", "internal/race.ReleaseMerge", "(*internal/sync.Mutex).unlockSlow", "internal/sync.fatal", "internal/sync.runtime_Semrelease", "sync/atomic.CompareAndSwapInt64"], unfollowed := true, recurses := true, apart := false, narrowed := true }
def PnmheadReadsUptoSaid : Prop := pnmheadReadsUptoRow.holds Try.pinned (OpenSpec.upto pnmheadReadsSpec)

/-- 'tintypelaw12.PnmheadSizes', WHERE WHAT IT READS IS OF BULK AT MOST 1048576: true; the input reads as it did. -/
def pnmheadSizesUptoRow : OpenClaim := { program := "ytbiiojkolgkmhaa", sum := "2b96a3c3203a95b9556b438f709eee213035999ba503793a4a0d93c467025ccd", func := "tintype/tintypelaw12.PnmheadSizes", spec := "pnmheadSizes", inPlace := ["sync/atomic.LoadUint32", "sync/atomic.LoadInt64", "sync/atomic.StoreUint32", "(*internal/sync.Mutex).Lock", "internal/race.Disable", "sync/atomic.CompareAndSwapInt32", "internal/race.Enable", "internal/race.Acquire", "(*internal/sync.Mutex).lockSlow", "internal/sync.runtime_canSpin", "internal/sync.runtime_doSpin", "internal/sync.throw", "internal/sync.runtime_nanotime", "internal/sync.runtime_SemacquireMutex", "sync/atomic.AddInt32", "(*internal/sync.Mutex).Unlock", "internal/race.ReleaseMerge", "(*internal/sync.Mutex).unlockSlow", "internal/sync.fatal", "internal/sync.runtime_Semrelease", "sync/atomic.CompareAndSwapInt64"], unfollowed := true, recurses := true, apart := false, narrowed := true }
def PnmheadSizesUptoSaid : Prop := pnmheadSizesUptoRow.holds Try.pinned (OpenSpec.upto pnmheadSizesSpec)

/-- 'tintypelaw12.PnmheadIs', WHERE WHAT IT READS IS OF BULK AT MOST 1048576: true; the input reads as it did. -/
def pnmheadIsUptoRow : OpenClaim := { program := "ytbiiojkolgkmhaa", sum := "2b96a3c3203a95b9556b438f709eee213035999ba503793a4a0d93c467025ccd", func := "tintype/tintypelaw12.PnmheadIs", spec := "pnmheadIs", inPlace := ["sync/atomic.LoadUint32", "sync/atomic.LoadInt64", "sync/atomic.StoreUint32", "(*internal/sync.Mutex).Lock", "internal/race.Disable", "sync/atomic.CompareAndSwapInt32", "internal/race.Enable", "internal/race.Acquire", "(*internal/sync.Mutex).lockSlow", "internal/sync.runtime_canSpin", "internal/sync.runtime_doSpin", "internal/sync.throw", "internal/sync.runtime_nanotime", "internal/sync.runtime_SemacquireMutex", "sync/atomic.AddInt32", "(*internal/sync.Mutex).Unlock", "internal/race.ReleaseMerge", "(*internal/sync.Mutex).unlockSlow", "internal/sync.fatal", "internal/sync.runtime_Semrelease", "sync/atomic.CompareAndSwapInt64"], unfollowed := true, recurses := true, apart := false, narrowed := true }
def PnmheadIsUptoSaid : Prop := pnmheadIsUptoRow.holds Try.pinned (OpenSpec.upto pnmheadIsSpec)

/-- 'tintypelaw07.RasterPlays', WHERE WHAT IT READS IS OF BULK AT MOST 1048576: true; the input reads as it did. -/
def rasterPlaysUptoRow : OpenClaim := { program := "ytbiiojkolgkmhaa", sum := "2b96a3c3203a95b9556b438f709eee213035999ba503793a4a0d93c467025ccd", func := "tintype/tintypelaw07.RasterPlays", spec := "rasterPlays", inPlace := ["sync/atomic.LoadUint32", "sync/atomic.StoreUint32", "(*internal/sync.Mutex).Lock", "internal/race.Disable", "sync/atomic.CompareAndSwapInt32", "internal/race.Enable", "internal/race.Acquire", "(*internal/sync.Mutex).lockSlow", "internal/sync.runtime_canSpin", "internal/sync.runtime_doSpin", "internal/sync.throw", "internal/sync.runtime_nanotime", "internal/sync.runtime_SemacquireMutex", "sync/atomic.AddInt32", "(*internal/sync.Mutex).Unlock", "internal/race.ReleaseMerge", "(*internal/sync.Mutex).unlockSlow", "internal/sync.fatal", "internal/sync.runtime_Semrelease", "sync/atomic.LoadInt64", "sync/atomic.CompareAndSwapInt64"], unfollowed := true, recurses := true, apart := false, narrowed := true }
def RasterPlaysUptoSaid : Prop := rasterPlaysUptoRow.holds Try.pinned (OpenSpec.upto rasterPlaysSpec)

end Rows
end Go.Proofs.Ytbiiojkolgkmhaa
