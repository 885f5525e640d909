/- fault: the text of one fault; the law's example. -/
import Derived.Test.YtcngapfncnjlcaaDoorLatch
namespace Go.Proofs.YtcngapfncnjlcaaDoor
open Go.RowKit
set_option linter.unusedVariables false
set_option linter.unusedSimpArgs false

def tMal : ByteArray := ⟨#[109, 97, 108, 102, 111, 114, 109, 101, 100]⟩
def tBmp : ByteArray := ⟨#[98, 109, 112]⟩
def t14 : ByteArray := ⟨#[49, 52]⟩
theorem kind2 (w : World) : Calls Tryd.prog 15 #[.int .i64 2] w fun e w' => e = .returned (.string tMal) ∧ w = w' := by
  go_enter Tryd.func15, Tryd.ntmps15
  go_wp2_with fail
  go_ret
  exact ⟨rfl, rfl⟩
theorem format1 (w : World) : Calls Tryd.prog 16 #[.int .i64 1] w fun e w' => e = .returned (.string tBmp) ∧ w = w' := by
  go_enter Tryd.func16, Tryd.ntmps16
  go_wp2_with fail
  go_ret
  exact ⟨rfl, rfl⟩
set_option maxRecDepth 100000 in
theorem small14 (w : World) : Calls Tryd.prog 28 #[.int .i64 14] w fun e w' => e = .returned (.string t14) ∧ w = w' := by
  go_enter Tryd.func28, Tryd.ntmps28
  go_wp2_with fail
  go_ret
  exact ⟨rfl, rfl⟩
theorem formatInt14 (w : World) : Calls Tryd.prog 25 #[.int .i64 14, .int .i64 10] w fun e w' => e = .returned (.string t14) ∧ w = w' := by
  go_enter Tryd.func25, Tryd.ntmps25
  go_wp2_with (go_at_call 28; refine (small14 _).mono ?_; rintro e w' ⟨rfl, rfl⟩)
  go_ret
  exact ⟨rfl, rfl⟩
theorem itoa14i (w : World) : Calls Tryd.prog 22 #[.int .i64 14] w fun e w' => e = .returned (.string t14) ∧ w = w' := by
  go_enter Tryd.func22, Tryd.ntmps22
  go_wp2_with (go_at_call 25; refine (formatInt14 _).mono ?_; rintro e w' ⟨rfl, rfl⟩)
  go_ret
  exact ⟨rfl, rfl⟩
theorem itoa14 (w : World) : Calls Tryd.prog 17 #[.int .i64 14] w fun e w' => e = .returned (.string t14) ∧ w = w' := by
  go_enter Tryd.func17, Tryd.ntmps17
  go_wp2_with (go_at_call 22; refine (itoa14i _).mono ?_; rintro e w' ⟨rfl, rfl⟩)
  go_ret
  exact ⟨rfl, rfl⟩
theorem right14 (w : World) : Calls Tryd.prog 14 #[.agg #[.int .i64 2, .int .i64 1, .int .i64 14]] w fun e w' => e = .returned (.bool true) ∧ Below w.heap.size w w' := by
  have h1 : ¬ tMal.toList = [] := by rw [ByteArray.toList_eq]; decide
  have h2 : ¬ tBmp.toList = [] := by rw [ByteArray.toList_eq]; decide
  have h3 : tMal.toList.isEmpty = false := by rw [ByteArray.toList_eq]; decide
  have h4 : tBmp.toList.isEmpty = false := by rw [ByteArray.toList_eq]; decide
  have HK := Lib.hid kind2
  have HF := Lib.hid format1
  generalize tMal = m at h1 h3 HK
  generalize tBmp = b at h2 h4 HF
  go_enter Tryd.func14, Tryd.ntmps14
  go_wp2_with (first
    | (go_at_call 15; refine (HK.out _).mono ?_; rintro e w' ⟨rfl, rfl⟩)
    | (go_at_call 16; refine (HF.out _).mono ?_; rintro e w' ⟨rfl, rfl⟩))
  go_ret
  exact ⟨rfl, (Below.refl _ _).alloc (Nat.le_refl _) _⟩
def tAll : ByteArray := ⟨#[109, 97, 108, 102, 111, 114, 109, 101, 100, 32, 98, 109, 112, 32, 49, 52]⟩
theorem text14 (w : World) : Calls Tryd.prog 9 #[.agg #[.int .i64 2, .int .i64 1, .int .i64 14]] w fun e w' => e = .returned (.tuple #[.string (tMal ++ ⟨#[32]⟩ ++ tBmp ++ ⟨#[32]⟩ ++ t14), .int .i64 0]) ∧ Below w.heap.size w w' := by
  have HK := Lib.hid kind2
  have HF := Lib.hid format1
  have HI := Lib.hid itoa14
  have A1 : ∀ w : World, (Op.stringOp .add tMal ⟨#[32]⟩).run Tryd.prog w = .ok (.string (tMal ++ ⟨#[32]⟩)) w := fun w => run_string_add_sum w _ _ (by decide)
  have A2 : ∀ w : World, (Op.stringOp .add (tMal ++ ⟨#[32]⟩) tBmp).run Tryd.prog w = .ok (.string (tMal ++ ⟨#[32]⟩ ++ tBmp)) w := fun w => run_string_add_sum w _ _ (by decide)
  have A3 : ∀ w : World, (Op.stringOp .add (tMal ++ ⟨#[32]⟩ ++ tBmp) ⟨#[32]⟩).run Tryd.prog w = .ok (.string (tMal ++ ⟨#[32]⟩ ++ tBmp ++ ⟨#[32]⟩)) w := fun w => run_string_add_sum w _ _ (by decide)
  have A4 : ∀ w : World, (Op.stringOp .add (tMal ++ ⟨#[32]⟩ ++ tBmp ++ ⟨#[32]⟩) t14).run Tryd.prog w = .ok (.string (tMal ++ ⟨#[32]⟩ ++ tBmp ++ ⟨#[32]⟩ ++ t14)) w := fun w => run_string_add_sum w _ _ (by decide)
  generalize tMal ++ ⟨#[32]⟩ ++ tBmp ++ ⟨#[32]⟩ ++ t14 = c4 at A4 ⊢
  generalize tMal ++ ⟨#[32]⟩ ++ tBmp ++ ⟨#[32]⟩ = c3 at A3 A4
  generalize tMal ++ ⟨#[32]⟩ ++ tBmp = c2 at A2 A3
  generalize tMal ++ ⟨#[32]⟩ = c1 at A1 A2
  generalize tMal = m at HK A1
  generalize tBmp = b at HF A2
  generalize t14 = n at HI A4
  have A : Blk (w.alloc (.cells #[.int .i64 2, .int .i64 1, .int .i64 14] 27)) w.heap.size 27 #[.int .i64 2, .int .i64 1, .int .i64 14] := Blk.new _ _ _
  have HA := Lib.hid A
  clear A
  go_enter Tryd.func9, Tryd.ntmps9
  go_upto_region 3 with (go_at_call 14; refine (right14 _).mono ?_; rintro e w1 ⟨rfl, b1⟩)
  have A9 := Blk.below HA.out b1 (Blk.lt HA.out)
  have B1 : Below w.heap.size w w1 := below_next ((Below.refl _ _).alloc (Nat.le_refl _) _) b1
  have a0 := Blk.cell A9 0
  have a1 := Blk.cell A9 1
  have a2 := Blk.cell A9 2
  have al := Blk.lt A9
  have HB := Lib.hid B1
  clear b1 B1 A9 HA
  go_quiet ((first | (go_at_call 15; exact Calls.quiet_of_same ((HK.out _).mono fun _ _ ⟨h, k⟩ => ⟨h, k.symm⟩)) | (go_at_call 16; exact Calls.quiet_of_same ((HF.out _).mono fun _ _ ⟨h, k⟩ => ⟨h, k.symm⟩)) | (go_at_call 17; exact Calls.quiet_of_same ((HI.out _).mono fun _ _ ⟨h, k⟩ => ⟨h, k.symm⟩))))
  all_goals go_wp2_with fail
  all_goals go_ret2
  all_goals exact ⟨rfl, below_drewN HB.out _⟩
theorem awake03_any (w : World) : Calls Tryd.prog 5 #[] w fun e w' => e = .returned (.bool true) ∧ Below w.heap.size w w' := by
  have HT := Lib.hid text14
  have he : tMal ++ ⟨#[32]⟩ ++ tBmp ++ ⟨#[32]⟩ ++ t14 = tAll := by decide
  rw [he] at HT
  have h1 : (tAll.toList == [109, 97, 108, 102, 111, 114, 109, 101, 100, 32, 98, 109, 112, 32, 49, 52]) = true := by rw [ByteArray.toList_eq]; decide
  have h2 : tAll.toList = [109, 97, 108, 102, 111, 114, 109, 101, 100, 32, 98, 109, 112, 32, 49, 52] := by rw [ByteArray.toList_eq]; rfl
  generalize tAll = q at h1 h2 HT
  clear he
  go_enter Tryd.func5, Tryd.ntmps5
  go_wp2_with (go_at_call 9; refine (HT.out _).mono ?_; rintro e w1 ⟨rfl, b1⟩)
  go_ret
  exact ⟨rfl, b1⟩
end Go.Proofs.YtcngapfncnjlcaaDoor
