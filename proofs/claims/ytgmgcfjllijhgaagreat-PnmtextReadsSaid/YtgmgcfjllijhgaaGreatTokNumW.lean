/- awake of chapter 11; the law TokenNumbers. -/
import Derived.Test.YtgmgcfjllijhgaaGreatTokNum
namespace Go.Proofs.YtgmgcfjllijhgaaGreat
open Go.RowKit
set_option linter.unusedVariables false
set_option linter.unusedSimpArgs false

def awS : ByteArray := ⟨#[32, 35, 120, 10, 49, 50, 32]⟩
theorem awS1 : overN false ((nats awS).drop 0) = 4 := by decide +kernel
theorem awS2 : isDigit (bat awS 4) = true := by decide +kernel
theorem awS3 : digN ((nats awS).drop 4) = 2 := by decide +kernel
theorem awS4 : digV 0 ((nats awS).drop 4) = 12 := by decide +kernel
theorem awB1 : isBlank 32 = true := by decide
theorem awB2 : isBlank 49 = false := by decide
theorem awNumber {w1 : World} {p g : Nat} (h : SrcAt w1 p g awS 0 awS.size 0) (hl : LedAt w1 g T0) : Calls Tryz.prog 81 #[.pointer (some ⟨p, 0, none⟩)] w1 fun e w' => e = .returned (.tuple #[.int .i64 12, .int .i64 4, .agg #[.int .i64 0, .int .i64 0, .int .i64 0]]) ∧ Turn [p, g] w1 w' := by
  have := tokNumber_yes (k := 0) (f := 4) (dn := 2) (dt := 1) h ⟨Nat.le_refl _, Nat.zero_le _, Nat.le_refl _, by decide⟩ (by rw [Led.used_zero]; exact hl) rfl T0.ok (by rw [awS1]) (by decide) awS2 awS3.symm (by decide) (by decide)
  rw [awS4] at this
  refine this.mono ?_
  rintro e w' ⟨rfl, _, _, q⟩
  exact ⟨rfl, q⟩
end Go.Proofs.YtgmgcfjllijhgaaGreat
