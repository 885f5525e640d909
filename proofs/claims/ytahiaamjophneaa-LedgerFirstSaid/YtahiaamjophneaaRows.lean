/-
  No cell of these rows narrows 'for every input' (looked for: loops, veiled, ifaces, maps, wideKeys, modest, calm, conditions, laid).
  DERIVED. THE GIVEN ROWS OF THIS SEAT. 14 by the template 'for every input the law returns true; each argument reads behind the call as it read before'; 0 by the template 'total and deterministic' (their statements: YtahiaamjophneaaTotals.lean).
  GIVEN WITH THE SEED: the statements are not yours to turn. If you find one false, say at which input.
  Laid BY PROGRAM, IN A SANDBOX (cutbox-rows.mjs): the forced cells as the released guide's own fill.sh prints them over the translation 580b16a1f59bbdb9… (all of the seat's roots in one cut). By AI agents, Wed Nov 11 2026. No macro, syntax, notation, axiom, sorry.
-/
import Derived.Test.YtahiaamjophneaaChecked
import GoSem.Claim
import GoSem.ClaimJoined
import GoSem.ClaimMapViews
import Derived.JoinedTies
import Derived.KernelRfl
namespace Go.Proofs.Ytahiaamjophneaa
/- THE CELL 'sum', in the pinned program and in every row, IS THE sha256 OF THE DUMP (.gsa) THAT YtahiaamjophneaaProg.lean LOADS. Nothing in Lean hashes anything: it is a label: what it is worth is what the hold of that sum in a sandbox is worth. -/
noncomputable def Try.pinned : Pinned := { name := "ytahiaamjophneaa", sum := "580b16a1f59bbdb9baa9c1b06a5be0c538dec038e8be41c84d8977dbecaf63ce", checked := Try.checked }
namespace Rows
def none {H : Type} : Left H := { results := [], args := [] }

/-- 'tintypelaw08.ScaleSamples': WHATEVER THE INPUT: true; the input reads as it did. -/
def scaleSamplesSpec : ChangeSpec := { name := "scaleSamples", fn := fun _ => fun
  | [d1, d2, d3] => { results := [.lit (.bool true)], args := [d1, d2, d3] }
  | _ => none }
def scaleSamplesRow : OpenClaim := { program := "ytahiaamjophneaa", sum := "580b16a1f59bbdb9baa9c1b06a5be0c538dec038e8be41c84d8977dbecaf63ce", func := "tintype/tintypelaw08.ScaleSamples", spec := "scaleSamples", apart := false }
def ScaleSamplesSaid : Prop := scaleSamplesRow.holds Try.pinned (OpenSpec.ofChange scaleSamplesSpec)

/-- ITS FALSE NEIGHBOUR: 'it returns false'. Refute it at one input. -/
def scaleSamplesWrong : ChangeSpec := { name := "scaleSamples", fn := fun _ => fun
  | [d1, d2, d3] => { results := [.lit (.bool false)], args := [d1, d2, d3] }
  | _ => none }
def ScaleSamplesWrongFalsely : Prop := scaleSamplesRow.holds Try.pinned (OpenSpec.ofChange scaleSamplesWrong)

/-- 'tintypelaw08.ScaleRises': WHATEVER THE INPUT: true; the input reads as it did. -/
def scaleRisesSpec : ChangeSpec := { name := "scaleRises", fn := fun _ => fun
  | [d1, d2, d3, d4] => { results := [.lit (.bool true)], args := [d1, d2, d3, d4] }
  | _ => none }
def scaleRisesRow : OpenClaim := { program := "ytahiaamjophneaa", sum := "580b16a1f59bbdb9baa9c1b06a5be0c538dec038e8be41c84d8977dbecaf63ce", func := "tintype/tintypelaw08.ScaleRises", spec := "scaleRises", apart := false }
def ScaleRisesSaid : Prop := scaleRisesRow.holds Try.pinned (OpenSpec.ofChange scaleRisesSpec)

/-- ITS FALSE NEIGHBOUR: 'it returns false'. Refute it at one input. -/
def scaleRisesWrong : ChangeSpec := { name := "scaleRises", fn := fun _ => fun
  | [d1, d2, d3, d4] => { results := [.lit (.bool false)], args := [d1, d2, d3, d4] }
  | _ => none }
def ScaleRisesWrongFalsely : Prop := scaleRisesRow.holds Try.pinned (OpenSpec.ofChange scaleRisesWrong)

/-- 'tintypelaw28.PcxPacks': WHATEVER THE INPUT: true; the input reads as it did. -/
def pcxPacksSpec : ChangeSpec := { name := "pcxPacks", fn := fun _ => fun
  | [d] => { results := [.lit (.bool true)], args := [d] }
  | _ => none }
def pcxPacksRow : OpenClaim := { program := "ytahiaamjophneaa", sum := "580b16a1f59bbdb9baa9c1b06a5be0c538dec038e8be41c84d8977dbecaf63ce", func := "tintype/tintypelaw28.PcxPacks", spec := "pcxPacks", apart := false }
def PcxPacksSaid : Prop := pcxPacksRow.holds Try.pinned (OpenSpec.ofChange pcxPacksSpec)

/-- ITS FALSE NEIGHBOUR: 'it returns false'. Refute it at one input. -/
def pcxPacksWrong : ChangeSpec := { name := "pcxPacks", fn := fun _ => fun
  | [d] => { results := [.lit (.bool false)], args := [d] }
  | _ => none }
def PcxPacksWrongFalsely : Prop := pcxPacksRow.holds Try.pinned (OpenSpec.ofChange pcxPacksWrong)

/-- 'tintypelaw29.SunPacks': WHATEVER THE INPUT: true; the input reads as it did. -/
def sunPacksSpec : ChangeSpec := { name := "sunPacks", fn := fun _ => fun
  | [d] => { results := [.lit (.bool true)], args := [d] }
  | _ => none }
def sunPacksRow : OpenClaim := { program := "ytahiaamjophneaa", sum := "580b16a1f59bbdb9baa9c1b06a5be0c538dec038e8be41c84d8977dbecaf63ce", func := "tintype/tintypelaw29.SunPacks", spec := "sunPacks", apart := false }
def SunPacksSaid : Prop := sunPacksRow.holds Try.pinned (OpenSpec.ofChange sunPacksSpec)

/-- ITS FALSE NEIGHBOUR: 'it returns false'. Refute it at one input. -/
def sunPacksWrong : ChangeSpec := { name := "sunPacks", fn := fun _ => fun
  | [d] => { results := [.lit (.bool false)], args := [d] }
  | _ => none }
def SunPacksWrongFalsely : Prop := sunPacksRow.holds Try.pinned (OpenSpec.ofChange sunPacksWrong)

/-- 'tintypelaw08.ScaleLeast': WHATEVER THE INPUT: true; the input reads as it did. -/
def scaleLeastSpec : ChangeSpec := { name := "scaleLeast", fn := fun _ => fun
  | [d1, d2] => { results := [.lit (.bool true)], args := [d1, d2] }
  | _ => none }
def scaleLeastRow : OpenClaim := { program := "ytahiaamjophneaa", sum := "580b16a1f59bbdb9baa9c1b06a5be0c538dec038e8be41c84d8977dbecaf63ce", func := "tintype/tintypelaw08.ScaleLeast", spec := "scaleLeast", apart := false }
def ScaleLeastSaid : Prop := scaleLeastRow.holds Try.pinned (OpenSpec.ofChange scaleLeastSpec)

/-- ITS FALSE NEIGHBOUR: 'it returns false'. Refute it at one input. -/
def scaleLeastWrong : ChangeSpec := { name := "scaleLeast", fn := fun _ => fun
  | [d1, d2] => { results := [.lit (.bool false)], args := [d1, d2] }
  | _ => none }
def ScaleLeastWrongFalsely : Prop := scaleLeastRow.holds Try.pinned (OpenSpec.ofChange scaleLeastWrong)

/-- 'tintypelaw10.PaletteEntries': WHATEVER THE INPUT: true; the input reads as it did. -/
def paletteEntriesSpec : ChangeSpec := { name := "paletteEntries", fn := fun _ => fun
  | [d1, d2] => { results := [.lit (.bool true)], args := [d1, d2] }
  | _ => none }
def paletteEntriesRow : OpenClaim := { program := "ytahiaamjophneaa", sum := "580b16a1f59bbdb9baa9c1b06a5be0c538dec038e8be41c84d8977dbecaf63ce", func := "tintype/tintypelaw10.PaletteEntries", spec := "paletteEntries", apart := false }
def PaletteEntriesSaid : Prop := paletteEntriesRow.holds Try.pinned (OpenSpec.ofChange paletteEntriesSpec)

/-- ITS FALSE NEIGHBOUR: 'it returns false'. Refute it at one input. -/
def paletteEntriesWrong : ChangeSpec := { name := "paletteEntries", fn := fun _ => fun
  | [d1, d2] => { results := [.lit (.bool false)], args := [d1, d2] }
  | _ => none }
def PaletteEntriesWrongFalsely : Prop := paletteEntriesRow.holds Try.pinned (OpenSpec.ofChange paletteEntriesWrong)

/-- 'tintypelaw10.PaletteNearest': WHATEVER THE INPUT: true; the input reads as it did. -/
def paletteNearestSpec : ChangeSpec := { name := "paletteNearest", fn := fun _ => fun
  | [d1, d2] => { results := [.lit (.bool true)], args := [d1, d2] }
  | _ => none }
def paletteNearestRow : OpenClaim := { program := "ytahiaamjophneaa", sum := "580b16a1f59bbdb9baa9c1b06a5be0c538dec038e8be41c84d8977dbecaf63ce", func := "tintype/tintypelaw10.PaletteNearest", spec := "paletteNearest", apart := false }
def PaletteNearestSaid : Prop := paletteNearestRow.holds Try.pinned (OpenSpec.ofChange paletteNearestSpec)

/-- ITS FALSE NEIGHBOUR: 'it returns false'. Refute it at one input. -/
def paletteNearestWrong : ChangeSpec := { name := "paletteNearest", fn := fun _ => fun
  | [d1, d2] => { results := [.lit (.bool false)], args := [d1, d2] }
  | _ => none }
def PaletteNearestWrongFalsely : Prop := paletteNearestRow.holds Try.pinned (OpenSpec.ofChange paletteNearestWrong)

/-- 'tintypelaw18.TgarlePacks': WHATEVER THE INPUT: true; the input reads as it did. -/
def tgarlePacksSpec : ChangeSpec := { name := "tgarlePacks", fn := fun _ => fun
  | [d] => { results := [.lit (.bool true)], args := [d] }
  | _ => none }
def tgarlePacksRow : OpenClaim := { program := "ytahiaamjophneaa", sum := "580b16a1f59bbdb9baa9c1b06a5be0c538dec038e8be41c84d8977dbecaf63ce", func := "tintype/tintypelaw18.TgarlePacks", spec := "tgarlePacks", apart := false }
def TgarlePacksSaid : Prop := tgarlePacksRow.holds Try.pinned (OpenSpec.ofChange tgarlePacksSpec)

/-- ITS FALSE NEIGHBOUR: 'it returns false'. Refute it at one input. -/
def tgarlePacksWrong : ChangeSpec := { name := "tgarlePacks", fn := fun _ => fun
  | [d] => { results := [.lit (.bool false)], args := [d] }
  | _ => none }
def TgarlePacksWrongFalsely : Prop := tgarlePacksRow.holds Try.pinned (OpenSpec.ofChange tgarlePacksWrong)

/-- 'tintypelaw18.TgarlePackets': WHATEVER THE INPUT: true; the input reads as it did. -/
def tgarlePacketsSpec : ChangeSpec := { name := "tgarlePackets", fn := fun _ => fun
  | [d1, d2, d3] => { results := [.lit (.bool true)], args := [d1, d2, d3] }
  | _ => none }
def tgarlePacketsRow : OpenClaim := { program := "ytahiaamjophneaa", sum := "580b16a1f59bbdb9baa9c1b06a5be0c538dec038e8be41c84d8977dbecaf63ce", func := "tintype/tintypelaw18.TgarlePackets", spec := "tgarlePackets", apart := false }
def TgarlePacketsSaid : Prop := tgarlePacketsRow.holds Try.pinned (OpenSpec.ofChange tgarlePacketsSpec)

/-- ITS FALSE NEIGHBOUR: 'it returns false'. Refute it at one input. -/
def tgarlePacketsWrong : ChangeSpec := { name := "tgarlePackets", fn := fun _ => fun
  | [d1, d2, d3] => { results := [.lit (.bool false)], args := [d1, d2, d3] }
  | _ => none }
def TgarlePacketsWrongFalsely : Prop := tgarlePacketsRow.holds Try.pinned (OpenSpec.ofChange tgarlePacketsWrong)

/-- 'tintypelaw26.QoiShort': WHATEVER THE INPUT: true; the input reads as it did. -/
def qoiShortSpec : ChangeSpec := { name := "qoiShort", fn := fun _ => fun
  | [d1, d2, d3] => { results := [.lit (.bool true)], args := [d1, d2, d3] }
  | _ => none }
def qoiShortRow : OpenClaim := { program := "ytahiaamjophneaa", sum := "580b16a1f59bbdb9baa9c1b06a5be0c538dec038e8be41c84d8977dbecaf63ce", func := "tintype/tintypelaw26.QoiShort", spec := "qoiShort", unfollowed := true, recurses := true, apart := false }
def QoiShortSaid : Prop := qoiShortRow.holds Try.pinned (OpenSpec.ofChange qoiShortSpec)

/-- ITS FALSE NEIGHBOUR: 'it returns false'. Refute it at one input. -/
def qoiShortWrong : ChangeSpec := { name := "qoiShort", fn := fun _ => fun
  | [d1, d2, d3] => { results := [.lit (.bool false)], args := [d1, d2, d3] }
  | _ => none }
def QoiShortWrongFalsely : Prop := qoiShortRow.holds Try.pinned (OpenSpec.ofChange qoiShortWrong)

/-- 'tintypelaw08.ScaleTables': WHATEVER THE INPUT: true; the input reads as it did. -/
def scaleTablesSpec : ChangeSpec := { name := "scaleTables", fn := fun _ => fun
  | [d1, d2] => { results := [.lit (.bool true)], args := [d1, d2] }
  | _ => none }
def scaleTablesRow : OpenClaim := { program := "ytahiaamjophneaa", sum := "580b16a1f59bbdb9baa9c1b06a5be0c538dec038e8be41c84d8977dbecaf63ce", func := "tintype/tintypelaw08.ScaleTables", spec := "scaleTables", inPlace := ["sync/atomic.LoadUint32", "(*internal/sync.Mutex).Lock", "internal/race.Disable", "sync/atomic.CompareAndSwapInt32", "internal/race.Enable", "internal/race.Acquire", "(*internal/sync.Mutex).lockSlow", "internal/sync.runtime_canSpin", "internal/sync.runtime_doSpin", "internal/sync.throw", "internal/sync.runtime_nanotime", "internal/sync.runtime_SemacquireMutex", "sync/atomic.AddInt32", "(*internal/sync.Mutex).Unlock", "internal/race.ReleaseMerge", "(*internal/sync.Mutex).unlockSlow", "internal/sync.fatal", "internal/sync.runtime_Semrelease", "sync/atomic.StoreUint32"], unfollowed := true, recurses := true, apart := false }
def ScaleTablesSaid : Prop := scaleTablesRow.holds Try.pinned (OpenSpec.ofChange scaleTablesSpec)

/-- ITS FALSE NEIGHBOUR: 'it returns false'. Refute it at one input. -/
def scaleTablesWrong : ChangeSpec := { name := "scaleTables", fn := fun _ => fun
  | [d1, d2] => { results := [.lit (.bool false)], args := [d1, d2] }
  | _ => none }
def ScaleTablesWrongFalsely : Prop := scaleTablesRow.holds Try.pinned (OpenSpec.ofChange scaleTablesWrong)

/-- 'tintypelaw02.LedgerRoom': WHATEVER THE INPUT: true; the input reads as it did. -/
def ledgerRoomSpec : ChangeSpec := { name := "ledgerRoom", fn := fun _ => fun
  | [d1, d2] => { results := [.lit (.bool true)], args := [d1, d2] }
  | _ => none }
def ledgerRoomRow : OpenClaim := { program := "ytahiaamjophneaa", sum := "580b16a1f59bbdb9baa9c1b06a5be0c538dec038e8be41c84d8977dbecaf63ce", func := "tintype/tintypelaw02.LedgerRoom", spec := "ledgerRoom", inPlace := ["sync/atomic.LoadUint32", "sync/atomic.LoadInt64", "sync/atomic.StoreUint32", "(*internal/sync.Mutex).Lock", "internal/race.Disable", "sync/atomic.CompareAndSwapInt32", "internal/race.Enable", "internal/race.Acquire", "(*internal/sync.Mutex).lockSlow", "internal/sync.runtime_canSpin", "internal/sync.runtime_doSpin", "internal/sync.throw", "internal/sync.runtime_nanotime", "internal/sync.runtime_SemacquireMutex", "sync/atomic.AddInt32", "(*internal/sync.Mutex).Unlock", "internal/race.ReleaseMerge", "(*internal/sync.Mutex).unlockSlow", "internal/sync.fatal", "internal/sync.runtime_Semrelease", "sync/atomic.CompareAndSwapInt64"], unfollowed := true, recurses := true, apart := false }
def LedgerRoomSaid : Prop := ledgerRoomRow.holds Try.pinned (OpenSpec.ofChange ledgerRoomSpec)

/-- ITS FALSE NEIGHBOUR: 'it returns false'. Refute it at one input. -/
def ledgerRoomWrong : ChangeSpec := { name := "ledgerRoom", fn := fun _ => fun
  | [d1, d2] => { results := [.lit (.bool false)], args := [d1, d2] }
  | _ => none }
def LedgerRoomWrongFalsely : Prop := ledgerRoomRow.holds Try.pinned (OpenSpec.ofChange ledgerRoomWrong)

/-- 'tintypelaw04.BufMany': WHATEVER THE INPUT: true; the input reads as it did. -/
def bufManySpec : ChangeSpec := { name := "bufMany", fn := fun _ => fun
  | [d1, d2] => { results := [.lit (.bool true)], args := [d1, d2] }
  | _ => none }
def bufManyRow : OpenClaim := { program := "ytahiaamjophneaa", sum := "580b16a1f59bbdb9baa9c1b06a5be0c538dec038e8be41c84d8977dbecaf63ce", func := "tintype/tintypelaw04.BufMany", spec := "bufMany", inPlace := ["sync/atomic.LoadUint32", "sync/atomic.LoadInt64", "sync/atomic.StoreUint32", "(*internal/sync.Mutex).Lock", "internal/race.Disable", "sync/atomic.CompareAndSwapInt32", "internal/race.Enable", "internal/race.Acquire", "(*internal/sync.Mutex).lockSlow", "internal/sync.runtime_canSpin", "internal/sync.runtime_doSpin", "internal/sync.throw", "internal/sync.runtime_nanotime", "internal/sync.runtime_SemacquireMutex", "sync/atomic.AddInt32", "(*internal/sync.Mutex).Unlock", "internal/race.ReleaseMerge", "(*internal/sync.Mutex).unlockSlow", "internal/sync.fatal", "internal/sync.runtime_Semrelease", "sync/atomic.CompareAndSwapInt64"], unfollowed := true, recurses := true, apart := false }
def BufManySaid : Prop := bufManyRow.holds Try.pinned (OpenSpec.ofChange bufManySpec)

/-- ITS FALSE NEIGHBOUR: 'it returns false'. Refute it at one input. -/
def bufManyWrong : ChangeSpec := { name := "bufMany", fn := fun _ => fun
  | [d1, d2] => { results := [.lit (.bool false)], args := [d1, d2] }
  | _ => none }
def BufManyWrongFalsely : Prop := bufManyRow.holds Try.pinned (OpenSpec.ofChange bufManyWrong)

/-- 'tintypelaw02.LedgerFirst': WHATEVER THE INPUT: true; the input reads as it did. -/
def ledgerFirstSpec : ChangeSpec := { name := "ledgerFirst", fn := fun _ => fun
  | [d1, d2] => { results := [.lit (.bool true)], args := [d1, d2] }
  | _ => none }
def ledgerFirstRow : OpenClaim := { program := "ytahiaamjophneaa", sum := "580b16a1f59bbdb9baa9c1b06a5be0c538dec038e8be41c84d8977dbecaf63ce", func := "tintype/tintypelaw02.LedgerFirst", spec := "ledgerFirst", inPlace := ["sync/atomic.LoadUint32", "sync/atomic.StoreUint32", "(*internal/sync.Mutex).Lock", "internal/race.Disable", "sync/atomic.CompareAndSwapInt32", "internal/race.Enable", "internal/race.Acquire", "(*internal/sync.Mutex).lockSlow", "internal/sync.runtime_canSpin", "internal/sync.runtime_doSpin", "internal/sync.throw", "internal/sync.runtime_nanotime", "internal/sync.runtime_SemacquireMutex", "sync/atomic.AddInt32", "(*internal/sync.Mutex).Unlock", "internal/race.ReleaseMerge", "(*internal/sync.Mutex).unlockSlow", "internal/sync.fatal", "internal/sync.runtime_Semrelease", "sync/atomic.LoadInt64", "sync/atomic.CompareAndSwapInt64"], unfollowed := true, recurses := true, apart := false }
def LedgerFirstSaid : Prop := ledgerFirstRow.holds Try.pinned (OpenSpec.ofChange ledgerFirstSpec)

/-- ITS FALSE NEIGHBOUR: 'it returns false'. Refute it at one input. -/
def ledgerFirstWrong : ChangeSpec := { name := "ledgerFirst", fn := fun _ => fun
  | [d1, d2] => { results := [.lit (.bool false)], args := [d1, d2] }
  | _ => none }
def LedgerFirstWrongFalsely : Prop := ledgerFirstRow.holds Try.pinned (OpenSpec.ofChange ledgerFirstWrong)

/- THE SECOND FORM. 'bulk': how many values and letters a reading holds, each counted each time it is reached (what is shared counts as often as it is met; a slice's spare places count too). A statement '..UptoSaid' is the law's where the arguments, and the package variables that the reading takes, are together of bulk at most 1048576: NARROWER than '..Said'. Prove '..Said' where nothing that the law and all that it calls make is longer than what came in: it says more and counts as full. Else prove '..UptoSaid'. A law counts once. -/
mutual
def uptoBulk {H : Type} : DataW H → Nat
  | .lit (.string bytes) => bytes.length + 1
  | .lit _ => 1
  | .nil => 1
  | .ptr d => uptoBulk d + 1
  | .slice elems spare => uptoBulkAll elems + uptoBulkAll spare + 1
  | .agg parts => uptoBulkAll parts + 1
  | .iface _ d => uptoBulk d + 1
  | .map entries => uptoBulkEntries entries + 1
  | .held _ => 1
def uptoBulkAll {H : Type} : List (DataW H) → Nat
  | [] => 0
  | d :: r => uptoBulk d + uptoBulkAll r
def uptoBulkEntries {H : Type} : List (Lit × DataW H) → Nat
  | [] => 0
  | x :: r => uptoBulkEntry x + uptoBulkEntries r
def uptoBulkEntry {H : Type} : Lit × DataW H → Nat
  | (.string bytes, d) => bytes.length + uptoBulk d + 1
  | (_, d) => uptoBulk d + 1
 end
def uptoSmall : (H : Type) → List (DataW H) → Bool := fun _ ds => decide (uptoBulkAll ds ≤ 1048576)
def OpenSpec.upto (s : _root_.Go.ChangeSpec) : _root_.Go.OpenSpec := { _root_.Go.OpenSpec.ofChange s with cond := some uptoSmall }

/-- 'tintypelaw08.ScaleSamples', WHERE WHAT IT READS IS OF BULK AT MOST 1048576: true; the input reads as it did. -/
def scaleSamplesUptoRow : OpenClaim := { program := "ytahiaamjophneaa", sum := "580b16a1f59bbdb9baa9c1b06a5be0c538dec038e8be41c84d8977dbecaf63ce", func := "tintype/tintypelaw08.ScaleSamples", spec := "scaleSamples", apart := false, narrowed := true }
def ScaleSamplesUptoSaid : Prop := scaleSamplesUptoRow.holds Try.pinned (OpenSpec.upto scaleSamplesSpec)

/-- 'tintypelaw08.ScaleRises', WHERE WHAT IT READS IS OF BULK AT MOST 1048576: true; the input reads as it did. -/
def scaleRisesUptoRow : OpenClaim := { program := "ytahiaamjophneaa", sum := "580b16a1f59bbdb9baa9c1b06a5be0c538dec038e8be41c84d8977dbecaf63ce", func := "tintype/tintypelaw08.ScaleRises", spec := "scaleRises", apart := false, narrowed := true }
def ScaleRisesUptoSaid : Prop := scaleRisesUptoRow.holds Try.pinned (OpenSpec.upto scaleRisesSpec)

/-- 'tintypelaw28.PcxPacks', WHERE WHAT IT READS IS OF BULK AT MOST 1048576: true; the input reads as it did. -/
def pcxPacksUptoRow : OpenClaim := { program := "ytahiaamjophneaa", sum := "580b16a1f59bbdb9baa9c1b06a5be0c538dec038e8be41c84d8977dbecaf63ce", func := "tintype/tintypelaw28.PcxPacks", spec := "pcxPacks", apart := false, narrowed := true }
def PcxPacksUptoSaid : Prop := pcxPacksUptoRow.holds Try.pinned (OpenSpec.upto pcxPacksSpec)

/-- 'tintypelaw29.SunPacks', WHERE WHAT IT READS IS OF BULK AT MOST 1048576: true; the input reads as it did. -/
def sunPacksUptoRow : OpenClaim := { program := "ytahiaamjophneaa", sum := "580b16a1f59bbdb9baa9c1b06a5be0c538dec038e8be41c84d8977dbecaf63ce", func := "tintype/tintypelaw29.SunPacks", spec := "sunPacks", apart := false, narrowed := true }
def SunPacksUptoSaid : Prop := sunPacksUptoRow.holds Try.pinned (OpenSpec.upto sunPacksSpec)

/-- 'tintypelaw08.ScaleLeast', WHERE WHAT IT READS IS OF BULK AT MOST 1048576: true; the input reads as it did. -/
def scaleLeastUptoRow : OpenClaim := { program := "ytahiaamjophneaa", sum := "580b16a1f59bbdb9baa9c1b06a5be0c538dec038e8be41c84d8977dbecaf63ce", func := "tintype/tintypelaw08.ScaleLeast", spec := "scaleLeast", apart := false, narrowed := true }
def ScaleLeastUptoSaid : Prop := scaleLeastUptoRow.holds Try.pinned (OpenSpec.upto scaleLeastSpec)

/-- 'tintypelaw10.PaletteEntries', WHERE WHAT IT READS IS OF BULK AT MOST 1048576: true; the input reads as it did. -/
def paletteEntriesUptoRow : OpenClaim := { program := "ytahiaamjophneaa", sum := "580b16a1f59bbdb9baa9c1b06a5be0c538dec038e8be41c84d8977dbecaf63ce", func := "tintype/tintypelaw10.PaletteEntries", spec := "paletteEntries", apart := false, narrowed := true }
def PaletteEntriesUptoSaid : Prop := paletteEntriesUptoRow.holds Try.pinned (OpenSpec.upto paletteEntriesSpec)

/-- 'tintypelaw10.PaletteNearest', WHERE WHAT IT READS IS OF BULK AT MOST 1048576: true; the input reads as it did. -/
def paletteNearestUptoRow : OpenClaim := { program := "ytahiaamjophneaa", sum := "580b16a1f59bbdb9baa9c1b06a5be0c538dec038e8be41c84d8977dbecaf63ce", func := "tintype/tintypelaw10.PaletteNearest", spec := "paletteNearest", apart := false, narrowed := true }
def PaletteNearestUptoSaid : Prop := paletteNearestUptoRow.holds Try.pinned (OpenSpec.upto paletteNearestSpec)

/-- 'tintypelaw18.TgarlePacks', WHERE WHAT IT READS IS OF BULK AT MOST 1048576: true; the input reads as it did. -/
def tgarlePacksUptoRow : OpenClaim := { program := "ytahiaamjophneaa", sum := "580b16a1f59bbdb9baa9c1b06a5be0c538dec038e8be41c84d8977dbecaf63ce", func := "tintype/tintypelaw18.TgarlePacks", spec := "tgarlePacks", apart := false, narrowed := true }
def TgarlePacksUptoSaid : Prop := tgarlePacksUptoRow.holds Try.pinned (OpenSpec.upto tgarlePacksSpec)

/-- 'tintypelaw18.TgarlePackets', WHERE WHAT IT READS IS OF BULK AT MOST 1048576: true; the input reads as it did. -/
def tgarlePacketsUptoRow : OpenClaim := { program := "ytahiaamjophneaa", sum := "580b16a1f59bbdb9baa9c1b06a5be0c538dec038e8be41c84d8977dbecaf63ce", func := "tintype/tintypelaw18.TgarlePackets", spec := "tgarlePackets", apart := false, narrowed := true }
def TgarlePacketsUptoSaid : Prop := tgarlePacketsUptoRow.holds Try.pinned (OpenSpec.upto tgarlePacketsSpec)

/-- 'tintypelaw26.QoiShort', WHERE WHAT IT READS IS OF BULK AT MOST 1048576: true; the input reads as it did. -/
def qoiShortUptoRow : OpenClaim := { program := "ytahiaamjophneaa", sum := "580b16a1f59bbdb9baa9c1b06a5be0c538dec038e8be41c84d8977dbecaf63ce", func := "tintype/tintypelaw26.QoiShort", spec := "qoiShort", unfollowed := true, recurses := true, apart := false, narrowed := true }
def QoiShortUptoSaid : Prop := qoiShortUptoRow.holds Try.pinned (OpenSpec.upto qoiShortSpec)

/-- 'tintypelaw08.ScaleTables', WHERE WHAT IT READS IS OF BULK AT MOST 1048576: true; the input reads as it did. -/
def scaleTablesUptoRow : OpenClaim := { program := "ytahiaamjophneaa", sum := "580b16a1f59bbdb9baa9c1b06a5be0c538dec038e8be41c84d8977dbecaf63ce", func := "tintype/tintypelaw08.ScaleTables", spec := "scaleTables", inPlace := ["sync/atomic.LoadUint32", "(*internal/sync.Mutex).Lock", "internal/race.Disable", "sync/atomic.CompareAndSwapInt32", "internal/race.Enable", "internal/race.Acquire", "(*internal/sync.Mutex).lockSlow", "internal/sync.runtime_canSpin", "internal/sync.runtime_doSpin", "internal/sync.throw", "internal/sync.runtime_nanotime", "internal/sync.runtime_SemacquireMutex", "sync/atomic.AddInt32", "(*internal/sync.Mutex).Unlock", "internal/race.ReleaseMerge", "(*internal/sync.Mutex).unlockSlow", "internal/sync.fatal", "internal/sync.runtime_Semrelease", "sync/atomic.StoreUint32"], unfollowed := true, recurses := true, apart := false, narrowed := true }
def ScaleTablesUptoSaid : Prop := scaleTablesUptoRow.holds Try.pinned (OpenSpec.upto scaleTablesSpec)

/-- 'tintypelaw02.LedgerRoom', WHERE WHAT IT READS IS OF BULK AT MOST 1048576: true; the input reads as it did. -/
def ledgerRoomUptoRow : OpenClaim := { program := "ytahiaamjophneaa", sum := "580b16a1f59bbdb9baa9c1b06a5be0c538dec038e8be41c84d8977dbecaf63ce", func := "tintype/tintypelaw02.LedgerRoom", spec := "ledgerRoom", inPlace := ["sync/atomic.LoadUint32", "sync/atomic.LoadInt64", "sync/atomic.StoreUint32", "(*internal/sync.Mutex).Lock", "internal/race.Disable", "sync/atomic.CompareAndSwapInt32", "internal/race.Enable", "internal/race.Acquire", "(*internal/sync.Mutex).lockSlow", "internal/sync.runtime_canSpin", "internal/sync.runtime_doSpin", "internal/sync.throw", "internal/sync.runtime_nanotime", "internal/sync.runtime_SemacquireMutex", "sync/atomic.AddInt32", "(*internal/sync.Mutex).Unlock", "internal/race.ReleaseMerge", "(*internal/sync.Mutex).unlockSlow", "internal/sync.fatal", "internal/sync.runtime_Semrelease", "sync/atomic.CompareAndSwapInt64"], unfollowed := true, recurses := true, apart := false, narrowed := true }
def LedgerRoomUptoSaid : Prop := ledgerRoomUptoRow.holds Try.pinned (OpenSpec.upto ledgerRoomSpec)

/-- 'tintypelaw04.BufMany', WHERE WHAT IT READS IS OF BULK AT MOST 1048576: true; the input reads as it did. -/
def bufManyUptoRow : OpenClaim := { program := "ytahiaamjophneaa", sum := "580b16a1f59bbdb9baa9c1b06a5be0c538dec038e8be41c84d8977dbecaf63ce", func := "tintype/tintypelaw04.BufMany", spec := "bufMany", inPlace := ["sync/atomic.LoadUint32", "sync/atomic.LoadInt64", "sync/atomic.StoreUint32", "(*internal/sync.Mutex).Lock", "internal/race.Disable", "sync/atomic.CompareAndSwapInt32", "internal/race.Enable", "internal/race.Acquire", "(*internal/sync.Mutex).lockSlow", "internal/sync.runtime_canSpin", "internal/sync.runtime_doSpin", "internal/sync.throw", "internal/sync.runtime_nanotime", "internal/sync.runtime_SemacquireMutex", "sync/atomic.AddInt32", "(*internal/sync.Mutex).Unlock", "internal/race.ReleaseMerge", "(*internal/sync.Mutex).unlockSlow", "internal/sync.fatal", "internal/sync.runtime_Semrelease", "sync/atomic.CompareAndSwapInt64"], unfollowed := true, recurses := true, apart := false, narrowed := true }
def BufManyUptoSaid : Prop := bufManyUptoRow.holds Try.pinned (OpenSpec.upto bufManySpec)

/-- 'tintypelaw02.LedgerFirst', WHERE WHAT IT READS IS OF BULK AT MOST 1048576: true; the input reads as it did. -/
def ledgerFirstUptoRow : OpenClaim := { program := "ytahiaamjophneaa", sum := "580b16a1f59bbdb9baa9c1b06a5be0c538dec038e8be41c84d8977dbecaf63ce", func := "tintype/tintypelaw02.LedgerFirst", spec := "ledgerFirst", inPlace := ["sync/atomic.LoadUint32", "sync/atomic.StoreUint32", "(*internal/sync.Mutex).Lock", "internal/race.Disable", "sync/atomic.CompareAndSwapInt32", "internal/race.Enable", "internal/race.Acquire", "(*internal/sync.Mutex).lockSlow", "internal/sync.runtime_canSpin", "internal/sync.runtime_doSpin", "internal/sync.throw", "internal/sync.runtime_nanotime", "internal/sync.runtime_SemacquireMutex", "sync/atomic.AddInt32", "(*internal/sync.Mutex).Unlock", "internal/race.ReleaseMerge", "(*internal/sync.Mutex).unlockSlow", "internal/sync.fatal", "internal/sync.runtime_Semrelease", "sync/atomic.LoadInt64", "sync/atomic.CompareAndSwapInt64"], unfollowed := true, recurses := true, apart := false, narrowed := true }
def LedgerFirstUptoSaid : Prop := ledgerFirstUptoRow.holds Try.pinned (OpenSpec.upto ledgerFirstSpec)

end Rows
end Go.Proofs.Ytahiaamjophneaa
