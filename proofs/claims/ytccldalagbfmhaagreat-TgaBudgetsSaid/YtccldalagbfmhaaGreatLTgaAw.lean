/- The chapter's example of a file of TGA's. -/
import Derived.Test.YtccldalagbfmhaaGreatLTgaW
import Derived.Test.YtccldalagbfmhaaGreatKTgaBy
namespace Go.Proofs.YtccldalagbfmhaaGreat
open Go.RowKit
set_option linter.unusedVariables false
set_option linter.unusedSimpArgs false

def tgaOneH : ByteArray := tgaBb (tgaBl 0 2 1 1 32 8)
def tgaOne : ByteArray := tgaOneH ++ ⟨#[1, 2, 3, 4]⟩
set_option maxRecDepth 100000 in
theorem tgaOne_told : (tgaDec tgaOne).told = .img 1 1 [3, 2, 1, 4] := by kernel_rfl
theorem tgaOne_sides : tgaSides tgaOne = (1, 1, 0) := by kernel_rfl
theorem tgaOne_byv : tgaByV 0 32 8 0 2 1 1 32 8 8 = .tuple #[.string tgaOneH, .int .i64 0] := by
  unfold tgaByV
  rw [if_pos ⟨by kernel_rfl, rfl, rfl, rfl⟩]
  rfl
set_option maxRecDepth 100000 in
set_option maxHeartbeats 2000000 in
theorem awake19_any (w : World) : Calls Tryz.prog 46 #[] w fun e w' => e = .returned (.bool true) ∧ Below w.heap.size w w' := by
  have HB0 := fun w => tgaBytes_ff (n := 0) (d := 32) (a := 8) (m := 0) (t := 2) (W := 1) (H := 1) (q := 32) (u := 8) (x := 8) (by rfl) (by decide) (by decide) (by decide) (by rfl) (by kernel_rfl) (by decide) (by rfl) w
  rw [tgaOne_byv] at HB0
  have HB : Hid (∀ w : World, Calls Tryz.prog 113 #[.agg #[.int .i64 0, .bool false, .int .i64 2, .int .i64 0, .int .i64 0, .int .i64 0, .int .i64 1, .int .i64 1, .int .i64 32, .int .i64 8, .bool false, .bool false]] w fun e w' => e = .returned (.tuple #[.string tgaOneH, .int .i64 0]) ∧ Below w.heap.size w w') := Lib.hid HB0
  have HN0 := fun w => tgaRunW (s := tgaOne) (by decide) (by rw [tgaOne_sides]; decide) (by rw [tgaOne_sides]; decide) (by rw [tgaOne_sides]; decide) w
  rw [tgaOne_told] at HN0
  have HN := Lib.hid HN0
  have ho : tgaOneH ++ ⟨#[1, 2, 3, 4]⟩ = tgaOne := rfl
  have hz : tgaOneH.size = 18 := rfl
  clear HB0 HN0
  generalize tgaOneH = h at HB ho hz
  generalize tgaOne = s at HN ho
  go_enter Tryz.func46, Tryz.ntmps46
  go_upto_region 3 with (first
    | (go_at_call 113; refine (HB.out _).mono ?_; rintro e w1 ⟨rfl, b1⟩)
    | (go_at_call 22; refine (wide15 _).mono ?_; rintro e w2 ⟨rfl, b2⟩)
    | (go_at_call 15; (try rw [ho]); refine (HN.out _).mono ?_; rintro e w3 ⟨g, y, l3, hy, b3, hor⟩; obtain ⟨W', H', l', d, hr, rfl, hbt⟩ := hor.elim (fun ⟨_, _, _, h, _⟩ => by cases h) id; injection hr with hr1 hr2 hr3; subst hr1 hr2 hr3))
  have B3 := below_next (below_next b1 b2) b3
  have T4 : BytesAt ((w3.alloc (.cells #[.int .i64 1, .int .i64 1, .slice (some ⟨d, 0, none⟩) 4 4] 29)).alloc (.cells #[.int .i64 0, .int .i64 0, .int .i64 0] 31)) (some ⟨d, 0, none⟩) 4 [3, 2, 1, 4] := (hbt.alloc _).alloc _
  have I4 : IB ((w3.alloc (.cells #[.int .i64 1, .int .i64 1, .slice (some ⟨d, 0, none⟩) 4 4] 29)).alloc (.cells #[.int .i64 0, .int .i64 0, .int .i64 0] 31)) w3.heap.size 1 1 (some ⟨d, 0, none⟩) 4 4 := Blk.alloc (Blk.new _ _ _) _
  have F4 : FB ((w3.alloc (.cells #[.int .i64 1, .int .i64 1, .slice (some ⟨d, 0, none⟩) 4 4] 29)).alloc (.cells #[.int .i64 0, .int .i64 0, .int .i64 0] 31)) (w3.heap.size + 1) 0 0 0 := Blk.new_at _ _ _ (by simp)
  have B4 : Below w.heap.size w ((w3.alloc (.cells #[.int .i64 1, .int .i64 1, .slice (some ⟨d, 0, none⟩) 4 4] 29)).alloc (.cells #[.int .i64 0, .int .i64 0, .int .i64 0] 31)) := (B3.alloc B3.size _).alloc (by have := B3.size; simp; omega) _
  clear hbt b1 b2 b3 B3 hor l3 hy
  generalize ((w3.alloc (.cells #[.int .i64 1, .int .i64 1, .slice (some ⟨d, 0, none⟩) 4 4] 29)).alloc (.cells #[.int .i64 0, .int .i64 0, .int .i64 0] 31)) = w4 at T4 I4 F4 B4 ⊢
  generalize w3.heap.size + 1 = qf at F4 ⊢
  generalize w3.heap.size = qm at I4 ⊢
  have hcv : (convert 27 9 (.slice (some ⟨d, 0, none⟩) 4 4)).run Tryz.prog w4 = .ok (.string ⟨#[3, 2, 1, 4]⟩) w4 := bytesText T4 4
  obtain ⟨c0, c1, c2, z0, z1, z2, fl⟩ := FB.all F4
  obtain ⟨e0, e1, e2, v0, v1, v2, il⟩ := IB.all I4
  go_wp2_with fail
  go_ret
  exact ⟨rfl, B4⟩
end Go.Proofs.YtccldalagbfmhaaGreat
