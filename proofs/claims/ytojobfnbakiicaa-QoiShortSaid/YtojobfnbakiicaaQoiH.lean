/- qoi: Is; the chapter's example. -/
import Derived.Test.YtojobfnbakiicaaQoiG
import Derived.Test.YtojobfnbakiicaaPrefix
namespace Go.Proofs.Ytojobfnbakiicaa
open Go.RowKit
set_option linter.unusedVariables false
set_option linter.unusedSimpArgs false

theorem qoiIs {s : ByteArray} {b : Bool} (hb : decide (4 ≤ s.size ∧ s.extract 0 4 = ⟨#[113, 111, 105, 102]⟩) = b) (w : World) : Calls Try.prog 14 #[.string s] w fun e w' => e = .returned (.bool b) ∧ w = w' := by
  have H := Lib.hid (hasPrefix (s := s) (p := ⟨#[113, 111, 105, 102]⟩) hb w (by decide))
  clear hb
  go_enter Try.func14, Try.ntmps14
  go_wp2_with (go_at_call 18; refine H.out.mono ?_; rintro e w' ⟨rfl, rfl⟩)
  go_ret
  exact ⟨rfl, rfl⟩
def qoiOne : ByteArray := ⟨#[113, 111, 105, 102, 0, 0, 0, 1, 0, 0, 0, 1, 4, 0, 192, 0, 0, 0, 0, 0, 0, 0, 1]⟩
theorem qoiOne_is : strOf (qoiFile 1 1 [q255]) = qoiOne := by
  have e : qoiFile 1 1 [q255] = [113, 111, 105, 102, 0, 0, 0, 1, 0, 0, 0, 1, 4, 0, 192, 0, 0, 0, 0, 0, 0, 0, 1] := by decide
  rw [e]
  rfl
theorem qoiWrite_one (w : World) : Calls Try.prog 4 #[.agg #[.int .i64 1, .int .i64 1, .slice (some ⟨w.heap.size, 0, none⟩) 4 4]] (w.alloc (.cells #[.int .u8 0, .int .u8 0, .int .u8 0, .int .u8 255] 5)) fun e w' => e = .returned (.tuple #[.string qoiOne, .int .i64 0]) ∧ Below w.heap.size w w' := by
  have h := qoiWrite_yes (w := w.alloc (.cells #[.int .u8 0, .int .u8 0, .int .u8 0, .int .u8 255] 5)) (W := 1) (H := 1) (N := 1) (n := 4) (c := 4) (b := w.heap.size) (off := 0) (l := [0, 0, 0, 255]) (L := [q255]) (by decide) (by decide) rfl ⟨by decide, by decide, by decide⟩ rfl rfl rfl (Nat.le_refl _) (fun j hj => by
    rw [Nat.zero_add]
    exact cells_new w [0, 0, 0, 255] _ rfl j _ (List.getElem?_eq_getElem hj)) (by simp)
  refine h.mono ?_
  rintro e w' ⟨rfl, b⟩
  exact ⟨by rw [qoiOne_is], below_next ((Below.refl _ _).alloc (Nat.le_refl _) _) b⟩
set_option maxRecDepth 100000 in
set_option maxHeartbeats 2000000 in
theorem awake26_any (w : World) : Calls Try.prog 7 #[] w fun e w' => e = .returned (.bool true) ∧ Below w.heap.size w w' := by
  have HW := Lib.hid (qoiWrite_one w)
  have H1 := Lib.hid (fun w => qoiIs (s := qoiOne) (b := true) (by decide) w)
  have H2 := Lib.hid (fun w => qoiIs (s := ⟨#[113, 111, 105]⟩) (b := false) (by decide) w)
  have hz : qoiOne.size = 23 := rfl
  have hi : ∀ w : World, (Instr.index 9 (.string qoiOne) (.int .i64 14)).run Try.prog w = .ok (.int .u8 192) w := fun _ => by kernel_rfl
  generalize qoiOne = Q at HW H1 hz hi
  go_enter Try.func7, Try.ntmps7
  go_wp2_with (first
    | (go_at_call 4; refine HW.out.mono ?_; rintro e w1 ⟨rfl, b1⟩)
    | (go_at_call_of 14 (Value.string Q); refine (H1.out _).mono ?_; rintro e w2 ⟨rfl, rfl⟩)
    | (go_at_call 14; refine (H2.out _).mono ?_; rintro e w2 ⟨rfl, rfl⟩))
  go_ret
  exact ⟨rfl, b1⟩
end Go.Proofs.Ytojobfnbakiicaa
