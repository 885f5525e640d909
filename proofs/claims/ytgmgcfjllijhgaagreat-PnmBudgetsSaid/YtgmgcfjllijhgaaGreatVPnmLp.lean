/- The laws' reading in plain words. -/
import Derived.Test.YtgmgcfjllijhgaaGreatVPnmHd
import Derived.Test.YtgmgcfjllijhgaaGreatVRasRef
import Derived.Test.YtgmgcfjllijhgaaGreatVFfM
namespace Go.Proofs.YtgmgcfjllijhgaaGreat
open Go.RowKit
set_option linter.unusedVariables false
set_option linter.unusedSimpArgs false

theorem give_zero (y : Led) : (y.give 0).1 = y := by
 unfold Led.give
 split
 ·rfl
 ·simp
theorem headOk_of {s : ByteArray} (hk : (headAt (nats s)).Kind = 0) : HeadOk s (headAt (nats s)) := by
 have h := headD_all (s := s) (z := 0) (P := fun d => d.told = .bad 4 0 → HeadOk s (headAt (nats s))) ⟨fun _ _ _ h e => h e, fun kd pl h1 _ e => absurd (DRes.bad_inj e).1 h1⟩ (k := fun _ => .fin (.bad 4 0)) (fun h h0 hK hW hH hM ha e _ => by rw [e]; exact ⟨e, h0, hK, hW, hH, hM, ha⟩)
 exact h (by rw [headD_told, if_neg (by rw [hk]; simp)]; rfl)
deriving instance DecidableEq for HeadR
end Go.Proofs.YtgmgcfjllijhgaaGreat
