/-
  No cell of these rows narrows 'for every input' (looked for: loops, veiled, ifaces, maps, wideKeys, modest, calm, conditions, laid).
  DERIVED. THE GIVEN ROWS OF THIS SEAT. 6 by the template 'for every input the law returns true; each argument reads behind the call as it read before'; 0 by the template 'total and deterministic' (their statements: YtkaijekdnbhjaaaTotals.lean).
  GIVEN WITH THE SEED: the statements are not yours to turn. If you find one false, say at which input.
  Laid BY PROGRAM, IN A SANDBOX (cutbox-rows.mjs): the forced cells as the released guide's own fill.sh prints them over the translation 8fedfbf1284f407f… (all of the seat's roots in one cut). By AI agents, Wed Nov 11 2026. No macro, syntax, notation, axiom, sorry.
-/
import Derived.Test.YtkaijekdnbhjaaaChecked
import GoSem.Claim
import GoSem.ClaimJoined
import GoSem.ClaimMapViews
import Derived.JoinedTies
import Derived.KernelRfl
namespace Go.Proofs.Ytkaijekdnbhjaaa
/- THE CELL 'sum', in the pinned program and in every row, IS THE sha256 OF THE DUMP (.gsa) THAT YtkaijekdnbhjaaaProg.lean LOADS. Nothing in Lean hashes anything: it is a label: what it is worth is what the hold of that sum in a sandbox is worth. -/
noncomputable def Try.pinned : Pinned := { name := "ytkaijekdnbhjaaa", sum := "8fedfbf1284f407f47b5d2c48b880a7ac4b5f6fa14aace704e19b48b19186689", checked := Try.checked }
namespace Rows
def none {H : Type} : Left H := { results := [], args := [] }

/-- 'tintypelaw10.PaletteReads': WHATEVER THE INPUT: true; the input reads as it did. -/
def paletteReadsSpec : ChangeSpec := { name := "paletteReads", fn := fun _ => fun
  | [d1, d2, d3, d4, d5] => { results := [.lit (.bool true)], args := [d1, d2, d3, d4, d5] }
  | _ => none }
def paletteReadsRow : OpenClaim := { program := "ytkaijekdnbhjaaa", sum := "8fedfbf1284f407f47b5d2c48b880a7ac4b5f6fa14aace704e19b48b19186689", func := "tintype/tintypelaw10.PaletteReads", spec := "paletteReads", inPlace := ["sync/atomic.LoadUint32", "sync/atomic.LoadInt64", "sync/atomic.StoreUint32", "(*internal/sync.Mutex).Lock", "internal/race.Disable", "sync/atomic.CompareAndSwapInt32", "internal/race.Enable", "internal/race.Acquire", "(*internal/sync.Mutex).lockSlow", "internal/sync.runtime_canSpin", "internal/sync.runtime_doSpin", "internal/sync.throw", "internal/sync.runtime_nanotime", "internal/sync.runtime_SemacquireMutex", "sync/atomic.AddInt32", "(*internal/sync.Mutex).Unlock", "internal/race.ReleaseMerge", "(*internal/sync.Mutex).unlockSlow", "internal/sync.fatal", "internal/sync.runtime_Semrelease", "sync/atomic.CompareAndSwapInt64"], unfollowed := true, recurses := true, apart := false }
def PaletteReadsSaid : Prop := paletteReadsRow.holds Try.pinned (OpenSpec.ofChange paletteReadsSpec)

/-- ITS FALSE NEIGHBOUR: 'it returns false'. Refute it at one input. -/
def paletteReadsWrong : ChangeSpec := { name := "paletteReads", fn := fun _ => fun
  | [d1, d2, d3, d4, d5] => { results := [.lit (.bool false)], args := [d1, d2, d3, d4, d5] }
  | _ => none }
def PaletteReadsWrongFalsely : Prop := paletteReadsRow.holds Try.pinned (OpenSpec.ofChange paletteReadsWrong)

/-- 'tintypelaw18.TgarlePackets': WHATEVER THE INPUT: true; the input reads as it did. -/
def tgarlePacketsSpec : ChangeSpec := { name := "tgarlePackets", fn := fun _ => fun
  | [d1, d2, d3] => { results := [.lit (.bool true)], args := [d1, d2, d3] }
  | _ => none }
def tgarlePacketsRow : OpenClaim := { program := "ytkaijekdnbhjaaa", sum := "8fedfbf1284f407f47b5d2c48b880a7ac4b5f6fa14aace704e19b48b19186689", func := "tintype/tintypelaw18.TgarlePackets", spec := "tgarlePackets", apart := false }
def TgarlePacketsSaid : Prop := tgarlePacketsRow.holds Try.pinned (OpenSpec.ofChange tgarlePacketsSpec)

/-- ITS FALSE NEIGHBOUR: 'it returns false'. Refute it at one input. -/
def tgarlePacketsWrong : ChangeSpec := { name := "tgarlePackets", fn := fun _ => fun
  | [d1, d2, d3] => { results := [.lit (.bool false)], args := [d1, d2, d3] }
  | _ => none }
def TgarlePacketsWrongFalsely : Prop := tgarlePacketsRow.holds Try.pinned (OpenSpec.ofChange tgarlePacketsWrong)

/-- 'tintypelaw18.TgarlePacks': WHATEVER THE INPUT: true; the input reads as it did. -/
def tgarlePacksSpec : ChangeSpec := { name := "tgarlePacks", fn := fun _ => fun
  | [d] => { results := [.lit (.bool true)], args := [d] }
  | _ => none }
def tgarlePacksRow : OpenClaim := { program := "ytkaijekdnbhjaaa", sum := "8fedfbf1284f407f47b5d2c48b880a7ac4b5f6fa14aace704e19b48b19186689", func := "tintype/tintypelaw18.TgarlePacks", spec := "tgarlePacks", apart := false }
def TgarlePacksSaid : Prop := tgarlePacksRow.holds Try.pinned (OpenSpec.ofChange tgarlePacksSpec)

/-- ITS FALSE NEIGHBOUR: 'it returns false'. Refute it at one input. -/
def tgarlePacksWrong : ChangeSpec := { name := "tgarlePacks", fn := fun _ => fun
  | [d] => { results := [.lit (.bool false)], args := [d] }
  | _ => none }
def TgarlePacksWrongFalsely : Prop := tgarlePacksRow.holds Try.pinned (OpenSpec.ofChange tgarlePacksWrong)

/-- 'tintypelaw26.QoiShort': WHATEVER THE INPUT: true; the input reads as it did. -/
def qoiShortSpec : ChangeSpec := { name := "qoiShort", fn := fun _ => fun
  | [d1, d2, d3] => { results := [.lit (.bool true)], args := [d1, d2, d3] }
  | _ => none }
def qoiShortRow : OpenClaim := { program := "ytkaijekdnbhjaaa", sum := "8fedfbf1284f407f47b5d2c48b880a7ac4b5f6fa14aace704e19b48b19186689", func := "tintype/tintypelaw26.QoiShort", spec := "qoiShort", unfollowed := true, recurses := true, apart := false }
def QoiShortSaid : Prop := qoiShortRow.holds Try.pinned (OpenSpec.ofChange qoiShortSpec)

/-- ITS FALSE NEIGHBOUR: 'it returns false'. Refute it at one input. -/
def qoiShortWrong : ChangeSpec := { name := "qoiShort", fn := fun _ => fun
  | [d1, d2, d3] => { results := [.lit (.bool false)], args := [d1, d2, d3] }
  | _ => none }
def QoiShortWrongFalsely : Prop := qoiShortRow.holds Try.pinned (OpenSpec.ofChange qoiShortWrong)

/-- 'tintypelaw07.RasterImages': WHATEVER THE INPUT: true; the input reads as it did. -/
def rasterImagesSpec : ChangeSpec := { name := "rasterImages", fn := fun _ => fun
  | [d1, d2, d3, d4] => { results := [.lit (.bool true)], args := [d1, d2, d3, d4] }
  | _ => none }
def rasterImagesRow : OpenClaim := { program := "ytkaijekdnbhjaaa", sum := "8fedfbf1284f407f47b5d2c48b880a7ac4b5f6fa14aace704e19b48b19186689", func := "tintype/tintypelaw07.RasterImages", spec := "rasterImages", inPlace := ["sync/atomic.LoadUint32", "sync/atomic.StoreUint32", "(*internal/sync.Mutex).Lock", "internal/race.Disable", "sync/atomic.CompareAndSwapInt32", "internal/race.Enable", "internal/race.Acquire", "(*internal/sync.Mutex).lockSlow", "internal/sync.runtime_canSpin", "internal/sync.runtime_doSpin", "internal/sync.throw", "internal/sync.runtime_nanotime", "internal/sync.runtime_SemacquireMutex", "sync/atomic.AddInt32", "(*internal/sync.Mutex).Unlock", "internal/race.ReleaseMerge", "(*internal/sync.Mutex).unlockSlow", "internal/sync.fatal", "internal/sync.runtime_Semrelease", "sync/atomic.LoadInt64", "sync/atomic.CompareAndSwapInt64"], unfollowed := true, recurses := true, apart := false }
def RasterImagesSaid : Prop := rasterImagesRow.holds Try.pinned (OpenSpec.ofChange rasterImagesSpec)

/-- ITS FALSE NEIGHBOUR: 'it returns false'. Refute it at one input. -/
def rasterImagesWrong : ChangeSpec := { name := "rasterImages", fn := fun _ => fun
  | [d1, d2, d3, d4] => { results := [.lit (.bool false)], args := [d1, d2, d3, d4] }
  | _ => none }
def RasterImagesWrongFalsely : Prop := rasterImagesRow.holds Try.pinned (OpenSpec.ofChange rasterImagesWrong)

/-- 'tintypelaw07.RasterPlays': WHATEVER THE INPUT: true; the input reads as it did. -/
def rasterPlaysSpec : ChangeSpec := { name := "rasterPlays", fn := fun _ => fun
  | [d1, d2, d3] => { results := [.lit (.bool true)], args := [d1, d2, d3] }
  | _ => none }
def rasterPlaysRow : OpenClaim := { program := "ytkaijekdnbhjaaa", sum := "8fedfbf1284f407f47b5d2c48b880a7ac4b5f6fa14aace704e19b48b19186689", func := "tintype/tintypelaw07.RasterPlays", spec := "rasterPlays", inPlace := ["sync/atomic.LoadUint32", "sync/atomic.StoreUint32", "(*internal/sync.Mutex).Lock", "internal/race.Disable", "sync/atomic.CompareAndSwapInt32", "internal/race.Enable", "internal/race.Acquire", "(*internal/sync.Mutex).lockSlow", "internal/sync.runtime_canSpin", "internal/sync.runtime_doSpin", "internal/sync.throw", "internal/sync.runtime_nanotime", "internal/sync.runtime_SemacquireMutex", "sync/atomic.AddInt32", "(*internal/sync.Mutex).Unlock", "internal/race.ReleaseMerge", "(*internal/sync.Mutex).unlockSlow", "internal/sync.fatal", "internal/sync.runtime_Semrelease", "sync/atomic.LoadInt64", "sync/atomic.CompareAndSwapInt64"], unfollowed := true, recurses := true, apart := false }
def RasterPlaysSaid : Prop := rasterPlaysRow.holds Try.pinned (OpenSpec.ofChange rasterPlaysSpec)

/-- ITS FALSE NEIGHBOUR: 'it returns false'. Refute it at one input. -/
def rasterPlaysWrong : ChangeSpec := { name := "rasterPlays", fn := fun _ => fun
  | [d1, d2, d3] => { results := [.lit (.bool false)], args := [d1, d2, d3] }
  | _ => none }
def RasterPlaysWrongFalsely : Prop := rasterPlaysRow.holds Try.pinned (OpenSpec.ofChange rasterPlaysWrong)

/- THE SECOND FORM. 'bulk': how many values and letters a reading holds, each counted each time it is reached (what is shared counts as often as it is met; a slice's spare places count too). A statement '..UptoSaid' is the law's where the arguments, and the package variables that the reading takes, are together of bulk at most 1048576: NARROWER than '..Said'. Prove '..Said' where nothing that the law and all that it calls make is longer than what came in: it says more and counts as full. Else prove '..UptoSaid'. A law counts once. -/
mutual
def uptoBulk {H : Type} : DataW H → Nat
  | .lit (.string bytes) => bytes.length + 1
  | .lit _ => 1
  | .nil => 1
  | .ptr d => uptoBulk d + 1
  | .slice elems spare => uptoBulkAll elems + uptoBulkAll spare + 1
  | .agg parts => uptoBulkAll parts + 1
  | .iface _ d => uptoBulk d + 1
  | .map entries => uptoBulkEntries entries + 1
  | .held _ => 1
def uptoBulkAll {H : Type} : List (DataW H) → Nat
  | [] => 0
  | d :: r => uptoBulk d + uptoBulkAll r
def uptoBulkEntries {H : Type} : List (Lit × DataW H) → Nat
  | [] => 0
  | x :: r => uptoBulkEntry x + uptoBulkEntries r
def uptoBulkEntry {H : Type} : Lit × DataW H → Nat
  | (.string bytes, d) => bytes.length + uptoBulk d + 1
  | (_, d) => uptoBulk d + 1
 end
def uptoSmall : (H : Type) → List (DataW H) → Bool := fun _ ds => decide (uptoBulkAll ds ≤ 1048576)
def OpenSpec.upto (s : _root_.Go.ChangeSpec) : _root_.Go.OpenSpec := { _root_.Go.OpenSpec.ofChange s with cond := some uptoSmall }

/-- 'tintypelaw10.PaletteReads', WHERE WHAT IT READS IS OF BULK AT MOST 1048576: true; the input reads as it did. -/
def paletteReadsUptoRow : OpenClaim := { program := "ytkaijekdnbhjaaa", sum := "8fedfbf1284f407f47b5d2c48b880a7ac4b5f6fa14aace704e19b48b19186689", func := "tintype/tintypelaw10.PaletteReads", spec := "paletteReads", inPlace := ["sync/atomic.LoadUint32", "sync/atomic.LoadInt64", "sync/atomic.StoreUint32", "(*internal/sync.Mutex).Lock", "internal/race.Disable", "sync/atomic.CompareAndSwapInt32", "internal/race.Enable", "internal/race.Acquire", "(*internal/sync.Mutex).lockSlow", "internal/sync.runtime_canSpin", "internal/sync.runtime_doSpin", "internal/sync.throw", "internal/sync.runtime_nanotime", "internal/sync.runtime_SemacquireMutex", "sync/atomic.AddInt32", "(*internal/sync.Mutex).Unlock", "internal/race.ReleaseMerge", "(*internal/sync.Mutex).unlockSlow", "internal/sync.fatal", "internal/sync.runtime_Semrelease", "sync/atomic.CompareAndSwapInt64"], unfollowed := true, recurses := true, apart := false, narrowed := true }
def PaletteReadsUptoSaid : Prop := paletteReadsUptoRow.holds Try.pinned (OpenSpec.upto paletteReadsSpec)

/-- 'tintypelaw18.TgarlePackets', WHERE WHAT IT READS IS OF BULK AT MOST 1048576: true; the input reads as it did. -/
def tgarlePacketsUptoRow : OpenClaim := { program := "ytkaijekdnbhjaaa", sum := "8fedfbf1284f407f47b5d2c48b880a7ac4b5f6fa14aace704e19b48b19186689", func := "tintype/tintypelaw18.TgarlePackets", spec := "tgarlePackets", apart := false, narrowed := true }
def TgarlePacketsUptoSaid : Prop := tgarlePacketsUptoRow.holds Try.pinned (OpenSpec.upto tgarlePacketsSpec)

/-- 'tintypelaw18.TgarlePacks', WHERE WHAT IT READS IS OF BULK AT MOST 1048576: true; the input reads as it did. -/
def tgarlePacksUptoRow : OpenClaim := { program := "ytkaijekdnbhjaaa", sum := "8fedfbf1284f407f47b5d2c48b880a7ac4b5f6fa14aace704e19b48b19186689", func := "tintype/tintypelaw18.TgarlePacks", spec := "tgarlePacks", apart := false, narrowed := true }
def TgarlePacksUptoSaid : Prop := tgarlePacksUptoRow.holds Try.pinned (OpenSpec.upto tgarlePacksSpec)

/-- 'tintypelaw26.QoiShort', WHERE WHAT IT READS IS OF BULK AT MOST 1048576: true; the input reads as it did. -/
def qoiShortUptoRow : OpenClaim := { program := "ytkaijekdnbhjaaa", sum := "8fedfbf1284f407f47b5d2c48b880a7ac4b5f6fa14aace704e19b48b19186689", func := "tintype/tintypelaw26.QoiShort", spec := "qoiShort", unfollowed := true, recurses := true, apart := false, narrowed := true }
def QoiShortUptoSaid : Prop := qoiShortUptoRow.holds Try.pinned (OpenSpec.upto qoiShortSpec)

/-- 'tintypelaw07.RasterImages', WHERE WHAT IT READS IS OF BULK AT MOST 1048576: true; the input reads as it did. -/
def rasterImagesUptoRow : OpenClaim := { program := "ytkaijekdnbhjaaa", sum := "8fedfbf1284f407f47b5d2c48b880a7ac4b5f6fa14aace704e19b48b19186689", func := "tintype/tintypelaw07.RasterImages", spec := "rasterImages", inPlace := ["sync/atomic.LoadUint32", "sync/atomic.StoreUint32", "(*internal/sync.Mutex).Lock", "internal/race.Disable", "sync/atomic.CompareAndSwapInt32", "internal/race.Enable", "internal/race.Acquire", "(*internal/sync.Mutex).lockSlow", "internal/sync.runtime_canSpin", "internal/sync.runtime_doSpin", "internal/sync.throw", "internal/sync.runtime_nanotime", "internal/sync.runtime_SemacquireMutex", "sync/atomic.AddInt32", "(*internal/sync.Mutex).Unlock", "internal/race.ReleaseMerge", "(*internal/sync.Mutex).unlockSlow", "internal/sync.fatal", "internal/sync.runtime_Semrelease", "sync/atomic.LoadInt64", "sync/atomic.CompareAndSwapInt64"], unfollowed := true, recurses := true, apart := false, narrowed := true }
def RasterImagesUptoSaid : Prop := rasterImagesUptoRow.holds Try.pinned (OpenSpec.upto rasterImagesSpec)

/-- 'tintypelaw07.RasterPlays', WHERE WHAT IT READS IS OF BULK AT MOST 1048576: true; the input reads as it did. -/
def rasterPlaysUptoRow : OpenClaim := { program := "ytkaijekdnbhjaaa", sum := "8fedfbf1284f407f47b5d2c48b880a7ac4b5f6fa14aace704e19b48b19186689", func := "tintype/tintypelaw07.RasterPlays", spec := "rasterPlays", inPlace := ["sync/atomic.LoadUint32", "sync/atomic.StoreUint32", "(*internal/sync.Mutex).Lock", "internal/race.Disable", "sync/atomic.CompareAndSwapInt32", "internal/race.Enable", "internal/race.Acquire", "(*internal/sync.Mutex).lockSlow", "internal/sync.runtime_canSpin", "internal/sync.runtime_doSpin", "internal/sync.throw", "internal/sync.runtime_nanotime", "internal/sync.runtime_SemacquireMutex", "sync/atomic.AddInt32", "(*internal/sync.Mutex).Unlock", "internal/race.ReleaseMerge", "(*internal/sync.Mutex).unlockSlow", "internal/sync.fatal", "internal/sync.runtime_Semrelease", "sync/atomic.LoadInt64", "sync/atomic.CompareAndSwapInt64"], unfollowed := true, recurses := true, apart := false, narrowed := true }
def RasterPlaysUptoSaid : Prop := rasterPlaysUptoRow.holds Try.pinned (OpenSpec.upto rasterPlaysSpec)

end Rows
end Go.Proofs.Ytkaijekdnbhjaaa
