/- qoi: a pixel's step: the ways behind the alpha. -/
import Derived.Test.YtojobfnbakiicaaGreatQoiB
namespace Go.Proofs.YtojobfnbakiicaaGreat
open Go.RowKit
set_option linter.unusedVariables false
set_option linter.unusedSimpArgs false

theorem qc_if {q c : Qc} (h : q ≠ c) : ∀ (α : Type) (A B : α), (if (q.r.toNat : Int) = (c.r.toNat : Int) then (if (q.g.toNat : Int) = (c.g.toNat : Int) then (if (q.b.toNat : Int) = (c.b.toNat : Int) then (if (q.a.toNat : Int) = (c.a.toNat : Int) then A else B) else B) else B) else B) = B := by
  intro α A B
  rcases qc_ne h with k0 | ⟨k, k0⟩ | ⟨k, k', k0⟩ | ⟨k, k', k'', k0⟩
  · rw [if_neg k0]
  · rw [if_pos (by omega), if_neg k0]
  · rw [if_pos (by omega), if_pos (by omega), if_neg k0]
  · rw [if_pos (by omega), if_pos (by omega), if_pos (by omega), if_neg k0]
set_option maxRecDepth 100000 in
set_option maxHeartbeats 4000000 in
theorem qoiWrite_near {w : World} {x p : Nat} {last c : Qc} {seen : List Qc} (h : CodAt w x last seen) (hp : qplace c = p) {q : Qc} (hs : seen[p]? = some q) (hq : q ≠ c) (ha : c.a = last.a) {r g b : Int} (er : qapart c.r last.r = r) (eg : qapart c.g last.g = g) (eb : qapart c.b last.b = b) (hr : -2 ≤ r ∧ r ≤ 1) (hg : -2 ≤ g ∧ g ≤ 1) (hb : -2 ≤ b ∧ b ≤ 1) : Calls Tryz.prog 52 #[.pointer (some ⟨x, 0, none⟩), .agg #[.int .u8 (c.r.toNat : Int), .int .u8 (c.g.toNat : Int), .int .u8 (c.b.toNat : Int), .int .u8 (c.a.toNat : Int)]] w fun e w' => (∃ v, e = .returned v ∧ Row8 w' v w.heap.size [UInt8.ofNat (64 + (r + 2) * 16 + (g + 2) * 4 + b + 2).toNat]) ∧ Below w.heap.size w w' := by
  have hxl := Blk.lt h.1
  have HP := Lib.hid (fun w => qoiPlace hp w)
  have hp64 : p < 64 := by rw [← hp]; exact qplace_lt c
  have H := Lib.hid h
  have HS := Lib.hid (show (last :: seen)[p + 1]? = some q from hs)
  have HA : Hid (∀ w : World, (Calls Tryz.prog 105 #[.int .u8 (c.r.toNat : Int), .int .u8 (last.r.toNat : Int)] w fun e w' => e = .returned (.int .i64 r) ∧ w = w') ∧ (Calls Tryz.prog 105 #[.int .u8 (c.g.toNat : Int), .int .u8 (last.g.toNat : Int)] w fun e w' => e = .returned (.int .i64 g) ∧ w = w') ∧ (Calls Tryz.prog 105 #[.int .u8 (c.b.toNat : Int), .int .u8 (last.b.toNat : Int)] w fun e w' => e = .returned (.int .i64 b) ∧ w = w')) := Lib.hid (fun w => ⟨er ▸ qoiApart c.r last.r w, eg ▸ qoiApart c.g last.g w, eb ▸ qoiApart c.b last.b w⟩)
  have RBD : Hid (-128 ≤ r ∧ r ≤ 127 ∧ -128 ≤ g ∧ g ≤ 127 ∧ -128 ≤ b ∧ b ≤ 127) := Lib.hid (by rw [← er, ← eg, ← eb]; unfold qapart; omega)
  have HF := Lib.hid (And.intro hr (And.intro hg hb))
  have HLA := Lib.hid ha
  clear h hp hs er eg eb hr hg hb ha
  go_enter Tryz.func52, Tryz.ntmps52
  have Q0 : QB (w.alloc (.cells #[.int .u8 (c.r.toNat : Int), .int .u8 (c.g.toNat : Int), .int .u8 (c.b.toNat : Int), .int .u8 (c.a.toNat : Int)] 67)) w.heap.size c := Blk.new _ _ _
  have C0 : CodAt (w.alloc (.cells #[.int .u8 (c.r.toNat : Int), .int .u8 (c.g.toNat : Int), .int .u8 (c.b.toNat : Int), .int .u8 (c.a.toNat : Int)] 67)) x last seen := ⟨Blk.alloc H.out.1 _, H.out.2⟩
  have B0 : Below w.heap.size w (w.alloc (.cells #[.int .u8 (c.r.toNat : Int), .int .u8 (c.g.toNat : Int), .int .u8 (c.b.toNat : Int), .int .u8 (c.a.toNat : Int)] 67)) := (Below.refl _ _).alloc (Nat.le_refl _) _
  have W0 := Lib.hid (And.intro Q0 (And.intro C0 B0))
  clear Q0 C0 B0
  go_wp2_with (go_at_call 104; refine (HP.out _).mono ?_; rintro e w4 ⟨rfl, b4⟩; have Q4 : QB w4 w.heap.size c := Blk.below W0.out.1 b4 (Blk.lt W0.out.1); have C4 : CodAt w4 x last seen := ⟨Blk.below W0.out.2.1.1 b4 (Blk.lt W0.out.2.1.1), W0.out.2.1.2⟩; have B4 : Below w.heap.size w w4 := W0.out.2.2.trans (b4.mono (by simp)); clear b4)
  obtain ⟨q0, q1, q2, q3, ql⟩ := QB.all Q4
  obtain ⟨s0', s1', s2', s3'⟩ := CodAt.cell C4 (p + 1) q HS.out
  have e4 : ∀ j, 4 + p * 4 + j = (p + 1) * 4 + j := fun j => by omega
  have s0 : w4.cell? ⟨x, 4 + p * 4, none⟩ = some (.int .u8 (q.r.toNat : Int)) := by rw [show 4 + p * 4 = (p + 1) * 4 from by omega]; exact s0'
  have s1 : w4.cell? ⟨x, 4 + p * 4 + 1, none⟩ = some (.int .u8 (q.g.toNat : Int)) := by rw [e4]; exact s1'
  have s2 : w4.cell? ⟨x, 4 + p * 4 + 2, none⟩ = some (.int .u8 (q.b.toNat : Int)) := by rw [e4]; exact s2'
  have s3 : w4.cell? ⟨x, 4 + p * 4 + 3, none⟩ = some (.int .u8 (q.a.toNat : Int)) := by rw [e4]; exact s3'
  clear e4 s0' s1' s2' s3'
  have xl := Blk.lt C4.1
  have HQ := Lib.hid (And.intro Q4 (And.intro C4 B4))
  clear Q4 C4 B4
  have g0 : (0 : Int) ≤ (p : Int) := Int.natCast_nonneg _
  have g1 : (p : Int) < 64 := by omega
  have g2 : (p : Int) < ((64 : Nat) : Int) := by omega
  obtain ⟨l0, l1, l2, l3⟩ := CodAt.cell HQ.out.2.1 0 last rfl
  simp only [Nat.zero_mul, Nat.zero_add] at l0 l1 l2 l3
  rw [← HLA.out] at l3
  have hif := qc_if hq
  go_region
  go_wp2_with fail
  go_region
  go_wp2_with fail
  obtain ⟨w5, e5⟩ : ∃ w5, w4.drew.drew = w5 := ⟨_, rfl⟩
  have H5 : Hid (QB w5 w.heap.size c ∧ CodAt w5 x last seen ∧ Below w.heap.size w w5) := Lib.hid (by subst e5; exact ⟨Blk.drew (Blk.drew HQ.out.1), ⟨Blk.drew (Blk.drew HQ.out.2.1.1), HQ.out.2.1.2⟩, HQ.out.2.2.drew.drew⟩)
  rw [e5]
  clear e5 q0 q1 q2 q3 ql s0 s1 s2 s3 xl l0 l1 l2 l3
  obtain ⟨q0, q1, q2, q3, ql⟩ := QB.all H5.out.1
  obtain ⟨l0, l1, l2, l3⟩ := CodAt.cell H5.out.2.1 0 last rfl
  simp only [Nat.zero_mul, Nat.zero_add] at l0 l1 l2 l3
  have xl := Blk.lt H5.out.2.1.1
  go_quiet (first | (go_at_call_of 105 (Value.int .u8 (c.r.toNat : Int)); exact Calls.quiet_of_same (((HA.out _).1).mono fun _ _ ⟨h, k⟩ => ⟨h, k.symm⟩)) | (go_at_call_of 105 (Value.int .u8 (c.g.toNat : Int)); exact Calls.quiet_of_same (((HA.out _).2.1).mono fun _ _ ⟨h, k⟩ => ⟨h, k.symm⟩)) | (go_at_call_of 105 (Value.int .u8 (c.b.toNat : Int)); exact Calls.quiet_of_same (((HA.out _).2.2).mono fun _ _ ⟨h, k⟩ => ⟨h, k.symm⟩)))
  have HW : Hid (∀ w : World, (Calls Tryz.prog 106 #[.int .i64 r, .int .i64 (-2), .int .i64 1] w fun e w' => e = .returned (.bool true) ∧ w = w') ∧ (Calls Tryz.prog 106 #[.int .i64 g, .int .i64 (-2), .int .i64 1] w fun e w' => e = .returned (.bool true) ∧ w = w') ∧ (Calls Tryz.prog 106 #[.int .i64 b, .int .i64 (-2), .int .i64 1] w fun e w' => e = .returned (.bool true) ∧ w = w')) := Lib.hid (fun w => ⟨qoiWithin (decide_eq_true HF.out.1) w, qoiWithin (decide_eq_true HF.out.2.1) w, qoiWithin (decide_eq_true HF.out.2.2) w⟩)
  go_wp2_with (first | (go_at_call_of 106 (Value.int .i64 r); refine (HW.out _).1.mono ?_; rintro e w' ⟨rfl, rfl⟩) | (go_at_call_of 106 (Value.int .i64 g); refine (HW.out _).2.1.mono ?_; rintro e w' ⟨rfl, rfl⟩) | (go_at_call_of 106 (Value.int .i64 b); refine (HW.out _).2.2.mono ?_; rintro e w' ⟨rfl, rfl⟩))
  go_ret
  refine ⟨⟨_, rfl, row8_new (w5.drewN nq) H5.out.2.2.size _ [UInt8.ofNat (64 + (r + 2) * 16 + (g + 2) * 4 + b + 2).toNat] ?_⟩, ?_⟩
  · have hf := HF.out
    simp [C8]
    simp only [wrap64]
    omega
  · exact ((show Below w.heap.size w (w5.drewN nq) from ⟨H5.out.2.2.os, H5.out.2.2.tape, H5.out.2.2.output, H5.out.2.2.size, H5.out.2.2.block⟩).alloc H5.out.2.2.size _)
set_option maxRecDepth 100000 in
set_option maxHeartbeats 4000000 in
theorem qoiWrite_far03 {w : World} {x p : Nat} {last c : Qc} {seen : List Qc} (h : CodAt w x last seen) (hp : qplace c = p) {q : Qc} (hs : seen[p]? = some q) (hq : q ≠ c) (ha : c.a = last.a) {r g b : Int} (er : qapart c.r last.r = r) (eg : qapart c.g last.g = g) (eb : qapart c.b last.b = b) (hr : ¬ (-2 ≤ r ∧ r ≤ 1)) (hg : (-32 ≤ g ∧ g ≤ 31) ∧ (-8 ≤ (r - g) ∧ (r - g) ≤ 7) ∧ (-8 ≤ (b - g) ∧ (b - g) ≤ 7)) (hb : True) : Calls Tryz.prog 52 #[.pointer (some ⟨x, 0, none⟩), .agg #[.int .u8 (c.r.toNat : Int), .int .u8 (c.g.toNat : Int), .int .u8 (c.b.toNat : Int), .int .u8 (c.a.toNat : Int)]] w fun e w' => (∃ v, e = .returned v ∧ Row8 w' v w.heap.size [UInt8.ofNat (128 + g + 32).toNat, UInt8.ofNat ((r - g + 8) * 16 + (b - g) + 8).toNat]) ∧ Below w.heap.size w w' := by
  have hxl := Blk.lt h.1
  have HP := Lib.hid (fun w => qoiPlace hp w)
  have hp64 : p < 64 := by rw [← hp]; exact qplace_lt c
  have H := Lib.hid h
  have HS := Lib.hid (show (last :: seen)[p + 1]? = some q from hs)
  have HA : Hid (∀ w : World, (Calls Tryz.prog 105 #[.int .u8 (c.r.toNat : Int), .int .u8 (last.r.toNat : Int)] w fun e w' => e = .returned (.int .i64 r) ∧ w = w') ∧ (Calls Tryz.prog 105 #[.int .u8 (c.g.toNat : Int), .int .u8 (last.g.toNat : Int)] w fun e w' => e = .returned (.int .i64 g) ∧ w = w') ∧ (Calls Tryz.prog 105 #[.int .u8 (c.b.toNat : Int), .int .u8 (last.b.toNat : Int)] w fun e w' => e = .returned (.int .i64 b) ∧ w = w')) := Lib.hid (fun w => ⟨er ▸ qoiApart c.r last.r w, eg ▸ qoiApart c.g last.g w, eb ▸ qoiApart c.b last.b w⟩)
  have RBD : Hid (-128 ≤ r ∧ r ≤ 127 ∧ -128 ≤ g ∧ g ≤ 127 ∧ -128 ≤ b ∧ b ≤ 127) := Lib.hid (by rw [← er, ← eg, ← eb]; unfold qapart; omega)
  have HF := Lib.hid (And.intro hr hg)
  have HLA := Lib.hid ha
  clear h hp hs er eg eb hr hg hb ha
  go_enter Tryz.func52, Tryz.ntmps52
  have Q0 : QB (w.alloc (.cells #[.int .u8 (c.r.toNat : Int), .int .u8 (c.g.toNat : Int), .int .u8 (c.b.toNat : Int), .int .u8 (c.a.toNat : Int)] 67)) w.heap.size c := Blk.new _ _ _
  have C0 : CodAt (w.alloc (.cells #[.int .u8 (c.r.toNat : Int), .int .u8 (c.g.toNat : Int), .int .u8 (c.b.toNat : Int), .int .u8 (c.a.toNat : Int)] 67)) x last seen := ⟨Blk.alloc H.out.1 _, H.out.2⟩
  have B0 : Below w.heap.size w (w.alloc (.cells #[.int .u8 (c.r.toNat : Int), .int .u8 (c.g.toNat : Int), .int .u8 (c.b.toNat : Int), .int .u8 (c.a.toNat : Int)] 67)) := (Below.refl _ _).alloc (Nat.le_refl _) _
  have W0 := Lib.hid (And.intro Q0 (And.intro C0 B0))
  clear Q0 C0 B0
  go_wp2_with (go_at_call 104; refine (HP.out _).mono ?_; rintro e w4 ⟨rfl, b4⟩; have Q4 : QB w4 w.heap.size c := Blk.below W0.out.1 b4 (Blk.lt W0.out.1); have C4 : CodAt w4 x last seen := ⟨Blk.below W0.out.2.1.1 b4 (Blk.lt W0.out.2.1.1), W0.out.2.1.2⟩; have B4 : Below w.heap.size w w4 := W0.out.2.2.trans (b4.mono (by simp)); clear b4)
  obtain ⟨q0, q1, q2, q3, ql⟩ := QB.all Q4
  obtain ⟨s0', s1', s2', s3'⟩ := CodAt.cell C4 (p + 1) q HS.out
  have e4 : ∀ j, 4 + p * 4 + j = (p + 1) * 4 + j := fun j => by omega
  have s0 : w4.cell? ⟨x, 4 + p * 4, none⟩ = some (.int .u8 (q.r.toNat : Int)) := by rw [show 4 + p * 4 = (p + 1) * 4 from by omega]; exact s0'
  have s1 : w4.cell? ⟨x, 4 + p * 4 + 1, none⟩ = some (.int .u8 (q.g.toNat : Int)) := by rw [e4]; exact s1'
  have s2 : w4.cell? ⟨x, 4 + p * 4 + 2, none⟩ = some (.int .u8 (q.b.toNat : Int)) := by rw [e4]; exact s2'
  have s3 : w4.cell? ⟨x, 4 + p * 4 + 3, none⟩ = some (.int .u8 (q.a.toNat : Int)) := by rw [e4]; exact s3'
  clear e4 s0' s1' s2' s3'
  have xl := Blk.lt C4.1
  have HQ := Lib.hid (And.intro Q4 (And.intro C4 B4))
  clear Q4 C4 B4
  have g0 : (0 : Int) ≤ (p : Int) := Int.natCast_nonneg _
  have g1 : (p : Int) < 64 := by omega
  have g2 : (p : Int) < ((64 : Nat) : Int) := by omega
  obtain ⟨l0, l1, l2, l3⟩ := CodAt.cell HQ.out.2.1 0 last rfl
  simp only [Nat.zero_mul, Nat.zero_add] at l0 l1 l2 l3
  rw [← HLA.out] at l3
  have hif := qc_if hq
  go_region
  go_wp2_with fail
  go_region
  go_wp2_with fail
  obtain ⟨w5, e5⟩ : ∃ w5, w4.drew.drew = w5 := ⟨_, rfl⟩
  have H5 : Hid (QB w5 w.heap.size c ∧ CodAt w5 x last seen ∧ Below w.heap.size w w5) := Lib.hid (by subst e5; exact ⟨Blk.drew (Blk.drew HQ.out.1), ⟨Blk.drew (Blk.drew HQ.out.2.1.1), HQ.out.2.1.2⟩, HQ.out.2.2.drew.drew⟩)
  rw [e5]
  clear e5 q0 q1 q2 q3 ql s0 s1 s2 s3 xl l0 l1 l2 l3
  obtain ⟨q0, q1, q2, q3, ql⟩ := QB.all H5.out.1
  obtain ⟨l0, l1, l2, l3⟩ := CodAt.cell H5.out.2.1 0 last rfl
  simp only [Nat.zero_mul, Nat.zero_add] at l0 l1 l2 l3
  have xl := Blk.lt H5.out.2.1.1
  go_quiet (first | (go_at_call_of 105 (Value.int .u8 (c.r.toNat : Int)); exact Calls.quiet_of_same (((HA.out _).1).mono fun _ _ ⟨h, k⟩ => ⟨h, k.symm⟩)) | (go_at_call_of 105 (Value.int .u8 (c.g.toNat : Int)); exact Calls.quiet_of_same (((HA.out _).2.1).mono fun _ _ ⟨h, k⟩ => ⟨h, k.symm⟩)) | (go_at_call_of 105 (Value.int .u8 (c.b.toNat : Int)); exact Calls.quiet_of_same (((HA.out _).2.2).mono fun _ _ ⟨h, k⟩ => ⟨h, k.symm⟩)))
  have ERG : Hid (wrap64 (r - g) = r - g) := Lib.hid (by have := RBD.out; unfold wrap64; omega)
  have EBG : Hid (wrap64 (b - g) = b - g) := Lib.hid (by have := RBD.out; unfold wrap64; omega)
  have HN : Hid (∀ w : World, (Calls Tryz.prog 106 #[.int .i64 r, .int .i64 (-2), .int .i64 1] w fun e w' => e = .returned (.bool false) ∧ w = w')) := Lib.hid (fun w => qoiWithin (decide_eq_false HF.out.1) w)
  have HM : Hid (∀ w : World, (Calls Tryz.prog 106 #[.int .i64 g, .int .i64 (-32), .int .i64 31] w fun e w' => e = .returned (.bool true) ∧ w = w') ∧ (Calls Tryz.prog 106 #[.int .i64 (wrap64 (r - g)), .int .i64 (-8), .int .i64 7] w fun e w' => e = .returned (.bool true) ∧ w = w') ∧ (Calls Tryz.prog 106 #[.int .i64 (wrap64 (b - g)), .int .i64 (-8), .int .i64 7] w fun e w' => e = .returned (.bool true) ∧ w = w')) := Lib.hid (fun w => ⟨qoiWithin (decide_eq_true HF.out.2.1) w, qoiWithin (by rw [ERG.out]; exact decide_eq_true HF.out.2.2.1) w, qoiWithin (by rw [EBG.out]; exact decide_eq_true HF.out.2.2.2) w⟩)
  go_wp2_with (first | (go_at_call_of 106 (Value.int .i64 r); go_at_call_of 106 (Value.int .i64 1); refine ((HN.out _)).mono ?_; rintro e w' ⟨rfl, rfl⟩) | (go_at_call_of 106 (Value.int .i64 g); go_at_call_of 106 (Value.int .i64 31); refine ((HM.out _).1).mono ?_; rintro e w' ⟨rfl, rfl⟩) | (go_at_call_of 106 (Value.int .i64 (wrap64 (r - g))); go_at_call_of 106 (Value.int .i64 7); refine ((HM.out _).2.1).mono ?_; rintro e w' ⟨rfl, rfl⟩) | (go_at_call_of 106 (Value.int .i64 (wrap64 (b - g))); go_at_call_of 106 (Value.int .i64 7); refine ((HM.out _).2.2).mono ?_; rintro e w' ⟨rfl, rfl⟩))
  go_ret
  refine ⟨⟨_, rfl, row8_new (w5.drewN nq) H5.out.2.2.size _ [UInt8.ofNat (128 + g + 32).toNat, UInt8.ofNat ((r - g + 8) * 16 + (b - g) + 8).toNat] ?_⟩, ?_⟩
  · have hf := HF.out
    have hb := RBD.out
    simp [C8]
    simp only [wrap64]
    omega
  · exact ((show Below w.heap.size w (w5.drewN nq) from ⟨H5.out.2.2.os, H5.out.2.2.tape, H5.out.2.2.output, H5.out.2.2.size, H5.out.2.2.block⟩).alloc H5.out.2.2.size _)
set_option maxRecDepth 100000 in
set_option maxHeartbeats 4000000 in
theorem qoiWrite_far13 {w : World} {x p : Nat} {last c : Qc} {seen : List Qc} (h : CodAt w x last seen) (hp : qplace c = p) {q : Qc} (hs : seen[p]? = some q) (hq : q ≠ c) (ha : c.a = last.a) {r g b : Int} (er : qapart c.r last.r = r) (eg : qapart c.g last.g = g) (eb : qapart c.b last.b = b) (hr : (-2 ≤ r ∧ r ≤ 1) ∧ ¬ (-2 ≤ g ∧ g ≤ 1)) (hg : (-32 ≤ g ∧ g ≤ 31) ∧ (-8 ≤ (r - g) ∧ (r - g) ≤ 7) ∧ (-8 ≤ (b - g) ∧ (b - g) ≤ 7)) (hb : True) : Calls Tryz.prog 52 #[.pointer (some ⟨x, 0, none⟩), .agg #[.int .u8 (c.r.toNat : Int), .int .u8 (c.g.toNat : Int), .int .u8 (c.b.toNat : Int), .int .u8 (c.a.toNat : Int)]] w fun e w' => (∃ v, e = .returned v ∧ Row8 w' v w.heap.size [UInt8.ofNat (128 + g + 32).toNat, UInt8.ofNat ((r - g + 8) * 16 + (b - g) + 8).toNat]) ∧ Below w.heap.size w w' := by
  have hxl := Blk.lt h.1
  have HP := Lib.hid (fun w => qoiPlace hp w)
  have hp64 : p < 64 := by rw [← hp]; exact qplace_lt c
  have H := Lib.hid h
  have HS := Lib.hid (show (last :: seen)[p + 1]? = some q from hs)
  have HA : Hid (∀ w : World, (Calls Tryz.prog 105 #[.int .u8 (c.r.toNat : Int), .int .u8 (last.r.toNat : Int)] w fun e w' => e = .returned (.int .i64 r) ∧ w = w') ∧ (Calls Tryz.prog 105 #[.int .u8 (c.g.toNat : Int), .int .u8 (last.g.toNat : Int)] w fun e w' => e = .returned (.int .i64 g) ∧ w = w') ∧ (Calls Tryz.prog 105 #[.int .u8 (c.b.toNat : Int), .int .u8 (last.b.toNat : Int)] w fun e w' => e = .returned (.int .i64 b) ∧ w = w')) := Lib.hid (fun w => ⟨er ▸ qoiApart c.r last.r w, eg ▸ qoiApart c.g last.g w, eb ▸ qoiApart c.b last.b w⟩)
  have RBD : Hid (-128 ≤ r ∧ r ≤ 127 ∧ -128 ≤ g ∧ g ≤ 127 ∧ -128 ≤ b ∧ b ≤ 127) := Lib.hid (by rw [← er, ← eg, ← eb]; unfold qapart; omega)
  have HF := Lib.hid (And.intro hr hg)
  have HLA := Lib.hid ha
  clear h hp hs er eg eb hr hg hb ha
  go_enter Tryz.func52, Tryz.ntmps52
  have Q0 : QB (w.alloc (.cells #[.int .u8 (c.r.toNat : Int), .int .u8 (c.g.toNat : Int), .int .u8 (c.b.toNat : Int), .int .u8 (c.a.toNat : Int)] 67)) w.heap.size c := Blk.new _ _ _
  have C0 : CodAt (w.alloc (.cells #[.int .u8 (c.r.toNat : Int), .int .u8 (c.g.toNat : Int), .int .u8 (c.b.toNat : Int), .int .u8 (c.a.toNat : Int)] 67)) x last seen := ⟨Blk.alloc H.out.1 _, H.out.2⟩
  have B0 : Below w.heap.size w (w.alloc (.cells #[.int .u8 (c.r.toNat : Int), .int .u8 (c.g.toNat : Int), .int .u8 (c.b.toNat : Int), .int .u8 (c.a.toNat : Int)] 67)) := (Below.refl _ _).alloc (Nat.le_refl _) _
  have W0 := Lib.hid (And.intro Q0 (And.intro C0 B0))
  clear Q0 C0 B0
  go_wp2_with (go_at_call 104; refine (HP.out _).mono ?_; rintro e w4 ⟨rfl, b4⟩; have Q4 : QB w4 w.heap.size c := Blk.below W0.out.1 b4 (Blk.lt W0.out.1); have C4 : CodAt w4 x last seen := ⟨Blk.below W0.out.2.1.1 b4 (Blk.lt W0.out.2.1.1), W0.out.2.1.2⟩; have B4 : Below w.heap.size w w4 := W0.out.2.2.trans (b4.mono (by simp)); clear b4)
  obtain ⟨q0, q1, q2, q3, ql⟩ := QB.all Q4
  obtain ⟨s0', s1', s2', s3'⟩ := CodAt.cell C4 (p + 1) q HS.out
  have e4 : ∀ j, 4 + p * 4 + j = (p + 1) * 4 + j := fun j => by omega
  have s0 : w4.cell? ⟨x, 4 + p * 4, none⟩ = some (.int .u8 (q.r.toNat : Int)) := by rw [show 4 + p * 4 = (p + 1) * 4 from by omega]; exact s0'
  have s1 : w4.cell? ⟨x, 4 + p * 4 + 1, none⟩ = some (.int .u8 (q.g.toNat : Int)) := by rw [e4]; exact s1'
  have s2 : w4.cell? ⟨x, 4 + p * 4 + 2, none⟩ = some (.int .u8 (q.b.toNat : Int)) := by rw [e4]; exact s2'
  have s3 : w4.cell? ⟨x, 4 + p * 4 + 3, none⟩ = some (.int .u8 (q.a.toNat : Int)) := by rw [e4]; exact s3'
  clear e4 s0' s1' s2' s3'
  have xl := Blk.lt C4.1
  have HQ := Lib.hid (And.intro Q4 (And.intro C4 B4))
  clear Q4 C4 B4
  have g0 : (0 : Int) ≤ (p : Int) := Int.natCast_nonneg _
  have g1 : (p : Int) < 64 := by omega
  have g2 : (p : Int) < ((64 : Nat) : Int) := by omega
  obtain ⟨l0, l1, l2, l3⟩ := CodAt.cell HQ.out.2.1 0 last rfl
  simp only [Nat.zero_mul, Nat.zero_add] at l0 l1 l2 l3
  rw [← HLA.out] at l3
  have hif := qc_if hq
  go_region
  go_wp2_with fail
  go_region
  go_wp2_with fail
  obtain ⟨w5, e5⟩ : ∃ w5, w4.drew.drew = w5 := ⟨_, rfl⟩
  have H5 : Hid (QB w5 w.heap.size c ∧ CodAt w5 x last seen ∧ Below w.heap.size w w5) := Lib.hid (by subst e5; exact ⟨Blk.drew (Blk.drew HQ.out.1), ⟨Blk.drew (Blk.drew HQ.out.2.1.1), HQ.out.2.1.2⟩, HQ.out.2.2.drew.drew⟩)
  rw [e5]
  clear e5 q0 q1 q2 q3 ql s0 s1 s2 s3 xl l0 l1 l2 l3
  obtain ⟨q0, q1, q2, q3, ql⟩ := QB.all H5.out.1
  obtain ⟨l0, l1, l2, l3⟩ := CodAt.cell H5.out.2.1 0 last rfl
  simp only [Nat.zero_mul, Nat.zero_add] at l0 l1 l2 l3
  have xl := Blk.lt H5.out.2.1.1
  go_quiet (first | (go_at_call_of 105 (Value.int .u8 (c.r.toNat : Int)); exact Calls.quiet_of_same (((HA.out _).1).mono fun _ _ ⟨h, k⟩ => ⟨h, k.symm⟩)) | (go_at_call_of 105 (Value.int .u8 (c.g.toNat : Int)); exact Calls.quiet_of_same (((HA.out _).2.1).mono fun _ _ ⟨h, k⟩ => ⟨h, k.symm⟩)) | (go_at_call_of 105 (Value.int .u8 (c.b.toNat : Int)); exact Calls.quiet_of_same (((HA.out _).2.2).mono fun _ _ ⟨h, k⟩ => ⟨h, k.symm⟩)))
  have ERG : Hid (wrap64 (r - g) = r - g) := Lib.hid (by have := RBD.out; unfold wrap64; omega)
  have EBG : Hid (wrap64 (b - g) = b - g) := Lib.hid (by have := RBD.out; unfold wrap64; omega)
  have HN : Hid (∀ w : World, (Calls Tryz.prog 106 #[.int .i64 r, .int .i64 (-2), .int .i64 1] w fun e w' => e = .returned (.bool true) ∧ w = w') ∧ (Calls Tryz.prog 106 #[.int .i64 g, .int .i64 (-2), .int .i64 1] w fun e w' => e = .returned (.bool false) ∧ w = w')) := Lib.hid (fun w => ⟨qoiWithin (decide_eq_true HF.out.1.1) w, qoiWithin (decide_eq_false HF.out.1.2) w⟩)
  have HM : Hid (∀ w : World, (Calls Tryz.prog 106 #[.int .i64 g, .int .i64 (-32), .int .i64 31] w fun e w' => e = .returned (.bool true) ∧ w = w') ∧ (Calls Tryz.prog 106 #[.int .i64 (wrap64 (r - g)), .int .i64 (-8), .int .i64 7] w fun e w' => e = .returned (.bool true) ∧ w = w') ∧ (Calls Tryz.prog 106 #[.int .i64 (wrap64 (b - g)), .int .i64 (-8), .int .i64 7] w fun e w' => e = .returned (.bool true) ∧ w = w')) := Lib.hid (fun w => ⟨qoiWithin (decide_eq_true HF.out.2.1) w, qoiWithin (by rw [ERG.out]; exact decide_eq_true HF.out.2.2.1) w, qoiWithin (by rw [EBG.out]; exact decide_eq_true HF.out.2.2.2) w⟩)
  go_wp2_with (first | (go_at_call_of 106 (Value.int .i64 r); go_at_call_of 106 (Value.int .i64 1); refine ((HN.out _).1).mono ?_; rintro e w' ⟨rfl, rfl⟩) | (go_at_call_of 106 (Value.int .i64 g); go_at_call_of 106 (Value.int .i64 1); refine ((HN.out _).2).mono ?_; rintro e w' ⟨rfl, rfl⟩) | (go_at_call_of 106 (Value.int .i64 g); go_at_call_of 106 (Value.int .i64 31); refine ((HM.out _).1).mono ?_; rintro e w' ⟨rfl, rfl⟩) | (go_at_call_of 106 (Value.int .i64 (wrap64 (r - g))); go_at_call_of 106 (Value.int .i64 7); refine ((HM.out _).2.1).mono ?_; rintro e w' ⟨rfl, rfl⟩) | (go_at_call_of 106 (Value.int .i64 (wrap64 (b - g))); go_at_call_of 106 (Value.int .i64 7); refine ((HM.out _).2.2).mono ?_; rintro e w' ⟨rfl, rfl⟩))
  go_ret
  refine ⟨⟨_, rfl, row8_new (w5.drewN nq) H5.out.2.2.size _ [UInt8.ofNat (128 + g + 32).toNat, UInt8.ofNat ((r - g + 8) * 16 + (b - g) + 8).toNat] ?_⟩, ?_⟩
  · have hf := HF.out
    have hb := RBD.out
    simp [C8]
    simp only [wrap64]
    omega
  · exact ((show Below w.heap.size w (w5.drewN nq) from ⟨H5.out.2.2.os, H5.out.2.2.tape, H5.out.2.2.output, H5.out.2.2.size, H5.out.2.2.block⟩).alloc H5.out.2.2.size _)
set_option maxRecDepth 100000 in
set_option maxHeartbeats 4000000 in
theorem qoiWrite_far23 {w : World} {x p : Nat} {last c : Qc} {seen : List Qc} (h : CodAt w x last seen) (hp : qplace c = p) {q : Qc} (hs : seen[p]? = some q) (hq : q ≠ c) (ha : c.a = last.a) {r g b : Int} (er : qapart c.r last.r = r) (eg : qapart c.g last.g = g) (eb : qapart c.b last.b = b) (hr : (-2 ≤ r ∧ r ≤ 1) ∧ (-2 ≤ g ∧ g ≤ 1) ∧ ¬ (-2 ≤ b ∧ b ≤ 1)) (hg : (-32 ≤ g ∧ g ≤ 31) ∧ (-8 ≤ (r - g) ∧ (r - g) ≤ 7) ∧ (-8 ≤ (b - g) ∧ (b - g) ≤ 7)) (hb : True) : Calls Tryz.prog 52 #[.pointer (some ⟨x, 0, none⟩), .agg #[.int .u8 (c.r.toNat : Int), .int .u8 (c.g.toNat : Int), .int .u8 (c.b.toNat : Int), .int .u8 (c.a.toNat : Int)]] w fun e w' => (∃ v, e = .returned v ∧ Row8 w' v w.heap.size [UInt8.ofNat (128 + g + 32).toNat, UInt8.ofNat ((r - g + 8) * 16 + (b - g) + 8).toNat]) ∧ Below w.heap.size w w' := by
  have hxl := Blk.lt h.1
  have HP := Lib.hid (fun w => qoiPlace hp w)
  have hp64 : p < 64 := by rw [← hp]; exact qplace_lt c
  have H := Lib.hid h
  have HS := Lib.hid (show (last :: seen)[p + 1]? = some q from hs)
  have HA : Hid (∀ w : World, (Calls Tryz.prog 105 #[.int .u8 (c.r.toNat : Int), .int .u8 (last.r.toNat : Int)] w fun e w' => e = .returned (.int .i64 r) ∧ w = w') ∧ (Calls Tryz.prog 105 #[.int .u8 (c.g.toNat : Int), .int .u8 (last.g.toNat : Int)] w fun e w' => e = .returned (.int .i64 g) ∧ w = w') ∧ (Calls Tryz.prog 105 #[.int .u8 (c.b.toNat : Int), .int .u8 (last.b.toNat : Int)] w fun e w' => e = .returned (.int .i64 b) ∧ w = w')) := Lib.hid (fun w => ⟨er ▸ qoiApart c.r last.r w, eg ▸ qoiApart c.g last.g w, eb ▸ qoiApart c.b last.b w⟩)
  have RBD : Hid (-128 ≤ r ∧ r ≤ 127 ∧ -128 ≤ g ∧ g ≤ 127 ∧ -128 ≤ b ∧ b ≤ 127) := Lib.hid (by rw [← er, ← eg, ← eb]; unfold qapart; omega)
  have HF := Lib.hid (And.intro hr hg)
  have HLA := Lib.hid ha
  clear h hp hs er eg eb hr hg hb ha
  go_enter Tryz.func52, Tryz.ntmps52
  have Q0 : QB (w.alloc (.cells #[.int .u8 (c.r.toNat : Int), .int .u8 (c.g.toNat : Int), .int .u8 (c.b.toNat : Int), .int .u8 (c.a.toNat : Int)] 67)) w.heap.size c := Blk.new _ _ _
  have C0 : CodAt (w.alloc (.cells #[.int .u8 (c.r.toNat : Int), .int .u8 (c.g.toNat : Int), .int .u8 (c.b.toNat : Int), .int .u8 (c.a.toNat : Int)] 67)) x last seen := ⟨Blk.alloc H.out.1 _, H.out.2⟩
  have B0 : Below w.heap.size w (w.alloc (.cells #[.int .u8 (c.r.toNat : Int), .int .u8 (c.g.toNat : Int), .int .u8 (c.b.toNat : Int), .int .u8 (c.a.toNat : Int)] 67)) := (Below.refl _ _).alloc (Nat.le_refl _) _
  have W0 := Lib.hid (And.intro Q0 (And.intro C0 B0))
  clear Q0 C0 B0
  go_wp2_with (go_at_call 104; refine (HP.out _).mono ?_; rintro e w4 ⟨rfl, b4⟩; have Q4 : QB w4 w.heap.size c := Blk.below W0.out.1 b4 (Blk.lt W0.out.1); have C4 : CodAt w4 x last seen := ⟨Blk.below W0.out.2.1.1 b4 (Blk.lt W0.out.2.1.1), W0.out.2.1.2⟩; have B4 : Below w.heap.size w w4 := W0.out.2.2.trans (b4.mono (by simp)); clear b4)
  obtain ⟨q0, q1, q2, q3, ql⟩ := QB.all Q4
  obtain ⟨s0', s1', s2', s3'⟩ := CodAt.cell C4 (p + 1) q HS.out
  have e4 : ∀ j, 4 + p * 4 + j = (p + 1) * 4 + j := fun j => by omega
  have s0 : w4.cell? ⟨x, 4 + p * 4, none⟩ = some (.int .u8 (q.r.toNat : Int)) := by rw [show 4 + p * 4 = (p + 1) * 4 from by omega]; exact s0'
  have s1 : w4.cell? ⟨x, 4 + p * 4 + 1, none⟩ = some (.int .u8 (q.g.toNat : Int)) := by rw [e4]; exact s1'
  have s2 : w4.cell? ⟨x, 4 + p * 4 + 2, none⟩ = some (.int .u8 (q.b.toNat : Int)) := by rw [e4]; exact s2'
  have s3 : w4.cell? ⟨x, 4 + p * 4 + 3, none⟩ = some (.int .u8 (q.a.toNat : Int)) := by rw [e4]; exact s3'
  clear e4 s0' s1' s2' s3'
  have xl := Blk.lt C4.1
  have HQ := Lib.hid (And.intro Q4 (And.intro C4 B4))
  clear Q4 C4 B4
  have g0 : (0 : Int) ≤ (p : Int) := Int.natCast_nonneg _
  have g1 : (p : Int) < 64 := by omega
  have g2 : (p : Int) < ((64 : Nat) : Int) := by omega
  obtain ⟨l0, l1, l2, l3⟩ := CodAt.cell HQ.out.2.1 0 last rfl
  simp only [Nat.zero_mul, Nat.zero_add] at l0 l1 l2 l3
  rw [← HLA.out] at l3
  have hif := qc_if hq
  go_region
  go_wp2_with fail
  go_region
  go_wp2_with fail
  obtain ⟨w5, e5⟩ : ∃ w5, w4.drew.drew = w5 := ⟨_, rfl⟩
  have H5 : Hid (QB w5 w.heap.size c ∧ CodAt w5 x last seen ∧ Below w.heap.size w w5) := Lib.hid (by subst e5; exact ⟨Blk.drew (Blk.drew HQ.out.1), ⟨Blk.drew (Blk.drew HQ.out.2.1.1), HQ.out.2.1.2⟩, HQ.out.2.2.drew.drew⟩)
  rw [e5]
  clear e5 q0 q1 q2 q3 ql s0 s1 s2 s3 xl l0 l1 l2 l3
  obtain ⟨q0, q1, q2, q3, ql⟩ := QB.all H5.out.1
  obtain ⟨l0, l1, l2, l3⟩ := CodAt.cell H5.out.2.1 0 last rfl
  simp only [Nat.zero_mul, Nat.zero_add] at l0 l1 l2 l3
  have xl := Blk.lt H5.out.2.1.1
  go_quiet (first | (go_at_call_of 105 (Value.int .u8 (c.r.toNat : Int)); exact Calls.quiet_of_same (((HA.out _).1).mono fun _ _ ⟨h, k⟩ => ⟨h, k.symm⟩)) | (go_at_call_of 105 (Value.int .u8 (c.g.toNat : Int)); exact Calls.quiet_of_same (((HA.out _).2.1).mono fun _ _ ⟨h, k⟩ => ⟨h, k.symm⟩)) | (go_at_call_of 105 (Value.int .u8 (c.b.toNat : Int)); exact Calls.quiet_of_same (((HA.out _).2.2).mono fun _ _ ⟨h, k⟩ => ⟨h, k.symm⟩)))
  have ERG : Hid (wrap64 (r - g) = r - g) := Lib.hid (by have := RBD.out; unfold wrap64; omega)
  have EBG : Hid (wrap64 (b - g) = b - g) := Lib.hid (by have := RBD.out; unfold wrap64; omega)
  have HN : Hid (∀ w : World, (Calls Tryz.prog 106 #[.int .i64 r, .int .i64 (-2), .int .i64 1] w fun e w' => e = .returned (.bool true) ∧ w = w') ∧ (Calls Tryz.prog 106 #[.int .i64 g, .int .i64 (-2), .int .i64 1] w fun e w' => e = .returned (.bool true) ∧ w = w') ∧ (Calls Tryz.prog 106 #[.int .i64 b, .int .i64 (-2), .int .i64 1] w fun e w' => e = .returned (.bool false) ∧ w = w')) := Lib.hid (fun w => ⟨qoiWithin (decide_eq_true HF.out.1.1) w, qoiWithin (decide_eq_true HF.out.1.2.1) w, qoiWithin (decide_eq_false HF.out.1.2.2) w⟩)
  have HM : Hid (∀ w : World, (Calls Tryz.prog 106 #[.int .i64 g, .int .i64 (-32), .int .i64 31] w fun e w' => e = .returned (.bool true) ∧ w = w') ∧ (Calls Tryz.prog 106 #[.int .i64 (wrap64 (r - g)), .int .i64 (-8), .int .i64 7] w fun e w' => e = .returned (.bool true) ∧ w = w') ∧ (Calls Tryz.prog 106 #[.int .i64 (wrap64 (b - g)), .int .i64 (-8), .int .i64 7] w fun e w' => e = .returned (.bool true) ∧ w = w')) := Lib.hid (fun w => ⟨qoiWithin (decide_eq_true HF.out.2.1) w, qoiWithin (by rw [ERG.out]; exact decide_eq_true HF.out.2.2.1) w, qoiWithin (by rw [EBG.out]; exact decide_eq_true HF.out.2.2.2) w⟩)
  go_wp2_with (first | (go_at_call_of 106 (Value.int .i64 r); go_at_call_of 106 (Value.int .i64 1); refine ((HN.out _).1).mono ?_; rintro e w' ⟨rfl, rfl⟩) | (go_at_call_of 106 (Value.int .i64 g); go_at_call_of 106 (Value.int .i64 1); refine ((HN.out _).2.1).mono ?_; rintro e w' ⟨rfl, rfl⟩) | (go_at_call_of 106 (Value.int .i64 b); go_at_call_of 106 (Value.int .i64 1); refine ((HN.out _).2.2).mono ?_; rintro e w' ⟨rfl, rfl⟩) | (go_at_call_of 106 (Value.int .i64 g); go_at_call_of 106 (Value.int .i64 31); refine ((HM.out _).1).mono ?_; rintro e w' ⟨rfl, rfl⟩) | (go_at_call_of 106 (Value.int .i64 (wrap64 (r - g))); go_at_call_of 106 (Value.int .i64 7); refine ((HM.out _).2.1).mono ?_; rintro e w' ⟨rfl, rfl⟩) | (go_at_call_of 106 (Value.int .i64 (wrap64 (b - g))); go_at_call_of 106 (Value.int .i64 7); refine ((HM.out _).2.2).mono ?_; rintro e w' ⟨rfl, rfl⟩))
  go_ret
  refine ⟨⟨_, rfl, row8_new (w5.drewN nq) H5.out.2.2.size _ [UInt8.ofNat (128 + g + 32).toNat, UInt8.ofNat ((r - g + 8) * 16 + (b - g) + 8).toNat] ?_⟩, ?_⟩
  · have hf := HF.out
    have hb := RBD.out
    simp [C8]
    simp only [wrap64]
    omega
  · exact ((show Below w.heap.size w (w5.drewN nq) from ⟨H5.out.2.2.os, H5.out.2.2.tape, H5.out.2.2.output, H5.out.2.2.size, H5.out.2.2.block⟩).alloc H5.out.2.2.size _)
set_option maxRecDepth 100000 in
set_option maxHeartbeats 4000000 in
theorem qoiWrite_all00 {w : World} {x p : Nat} {last c : Qc} {seen : List Qc} (h : CodAt w x last seen) (hp : qplace c = p) {q : Qc} (hs : seen[p]? = some q) (hq : q ≠ c) (ha : c.a = last.a) {r g b : Int} (er : qapart c.r last.r = r) (eg : qapart c.g last.g = g) (eb : qapart c.b last.b = b) (hr : ¬ (-2 ≤ r ∧ r ≤ 1)) (hg : ¬ (-32 ≤ g ∧ g ≤ 31)) (hb : True) : Calls Tryz.prog 52 #[.pointer (some ⟨x, 0, none⟩), .agg #[.int .u8 (c.r.toNat : Int), .int .u8 (c.g.toNat : Int), .int .u8 (c.b.toNat : Int), .int .u8 (c.a.toNat : Int)]] w fun e w' => (∃ v, e = .returned v ∧ Row8 w' v w.heap.size [254, c.r, c.g, c.b]) ∧ Below w.heap.size w w' := by
  have hxl := Blk.lt h.1
  have HP := Lib.hid (fun w => qoiPlace hp w)
  have hp64 : p < 64 := by rw [← hp]; exact qplace_lt c
  have H := Lib.hid h
  have HS := Lib.hid (show (last :: seen)[p + 1]? = some q from hs)
  have HA : Hid (∀ w : World, (Calls Tryz.prog 105 #[.int .u8 (c.r.toNat : Int), .int .u8 (last.r.toNat : Int)] w fun e w' => e = .returned (.int .i64 r) ∧ w = w') ∧ (Calls Tryz.prog 105 #[.int .u8 (c.g.toNat : Int), .int .u8 (last.g.toNat : Int)] w fun e w' => e = .returned (.int .i64 g) ∧ w = w') ∧ (Calls Tryz.prog 105 #[.int .u8 (c.b.toNat : Int), .int .u8 (last.b.toNat : Int)] w fun e w' => e = .returned (.int .i64 b) ∧ w = w')) := Lib.hid (fun w => ⟨er ▸ qoiApart c.r last.r w, eg ▸ qoiApart c.g last.g w, eb ▸ qoiApart c.b last.b w⟩)
  have RBD : Hid (-128 ≤ r ∧ r ≤ 127 ∧ -128 ≤ g ∧ g ≤ 127 ∧ -128 ≤ b ∧ b ≤ 127) := Lib.hid (by rw [← er, ← eg, ← eb]; unfold qapart; omega)
  have HF := Lib.hid (And.intro hr hg)
  have HLA := Lib.hid ha
  clear h hp hs er eg eb hr hg hb ha
  go_enter Tryz.func52, Tryz.ntmps52
  have Q0 : QB (w.alloc (.cells #[.int .u8 (c.r.toNat : Int), .int .u8 (c.g.toNat : Int), .int .u8 (c.b.toNat : Int), .int .u8 (c.a.toNat : Int)] 67)) w.heap.size c := Blk.new _ _ _
  have C0 : CodAt (w.alloc (.cells #[.int .u8 (c.r.toNat : Int), .int .u8 (c.g.toNat : Int), .int .u8 (c.b.toNat : Int), .int .u8 (c.a.toNat : Int)] 67)) x last seen := ⟨Blk.alloc H.out.1 _, H.out.2⟩
  have B0 : Below w.heap.size w (w.alloc (.cells #[.int .u8 (c.r.toNat : Int), .int .u8 (c.g.toNat : Int), .int .u8 (c.b.toNat : Int), .int .u8 (c.a.toNat : Int)] 67)) := (Below.refl _ _).alloc (Nat.le_refl _) _
  have W0 := Lib.hid (And.intro Q0 (And.intro C0 B0))
  clear Q0 C0 B0
  go_wp2_with (go_at_call 104; refine (HP.out _).mono ?_; rintro e w4 ⟨rfl, b4⟩; have Q4 : QB w4 w.heap.size c := Blk.below W0.out.1 b4 (Blk.lt W0.out.1); have C4 : CodAt w4 x last seen := ⟨Blk.below W0.out.2.1.1 b4 (Blk.lt W0.out.2.1.1), W0.out.2.1.2⟩; have B4 : Below w.heap.size w w4 := W0.out.2.2.trans (b4.mono (by simp)); clear b4)
  obtain ⟨q0, q1, q2, q3, ql⟩ := QB.all Q4
  obtain ⟨s0', s1', s2', s3'⟩ := CodAt.cell C4 (p + 1) q HS.out
  have e4 : ∀ j, 4 + p * 4 + j = (p + 1) * 4 + j := fun j => by omega
  have s0 : w4.cell? ⟨x, 4 + p * 4, none⟩ = some (.int .u8 (q.r.toNat : Int)) := by rw [show 4 + p * 4 = (p + 1) * 4 from by omega]; exact s0'
  have s1 : w4.cell? ⟨x, 4 + p * 4 + 1, none⟩ = some (.int .u8 (q.g.toNat : Int)) := by rw [e4]; exact s1'
  have s2 : w4.cell? ⟨x, 4 + p * 4 + 2, none⟩ = some (.int .u8 (q.b.toNat : Int)) := by rw [e4]; exact s2'
  have s3 : w4.cell? ⟨x, 4 + p * 4 + 3, none⟩ = some (.int .u8 (q.a.toNat : Int)) := by rw [e4]; exact s3'
  clear e4 s0' s1' s2' s3'
  have xl := Blk.lt C4.1
  have HQ := Lib.hid (And.intro Q4 (And.intro C4 B4))
  clear Q4 C4 B4
  have g0 : (0 : Int) ≤ (p : Int) := Int.natCast_nonneg _
  have g1 : (p : Int) < 64 := by omega
  have g2 : (p : Int) < ((64 : Nat) : Int) := by omega
  obtain ⟨l0, l1, l2, l3⟩ := CodAt.cell HQ.out.2.1 0 last rfl
  simp only [Nat.zero_mul, Nat.zero_add] at l0 l1 l2 l3
  rw [← HLA.out] at l3
  have hif := qc_if hq
  go_region
  go_wp2_with fail
  go_region
  go_wp2_with fail
  obtain ⟨w5, e5⟩ : ∃ w5, w4.drew.drew = w5 := ⟨_, rfl⟩
  have H5 : Hid (QB w5 w.heap.size c ∧ CodAt w5 x last seen ∧ Below w.heap.size w w5) := Lib.hid (by subst e5; exact ⟨Blk.drew (Blk.drew HQ.out.1), ⟨Blk.drew (Blk.drew HQ.out.2.1.1), HQ.out.2.1.2⟩, HQ.out.2.2.drew.drew⟩)
  rw [e5]
  clear e5 q0 q1 q2 q3 ql s0 s1 s2 s3 xl l0 l1 l2 l3
  obtain ⟨q0, q1, q2, q3, ql⟩ := QB.all H5.out.1
  obtain ⟨l0, l1, l2, l3⟩ := CodAt.cell H5.out.2.1 0 last rfl
  simp only [Nat.zero_mul, Nat.zero_add] at l0 l1 l2 l3
  have xl := Blk.lt H5.out.2.1.1
  go_quiet (first | (go_at_call_of 105 (Value.int .u8 (c.r.toNat : Int)); exact Calls.quiet_of_same (((HA.out _).1).mono fun _ _ ⟨h, k⟩ => ⟨h, k.symm⟩)) | (go_at_call_of 105 (Value.int .u8 (c.g.toNat : Int)); exact Calls.quiet_of_same (((HA.out _).2.1).mono fun _ _ ⟨h, k⟩ => ⟨h, k.symm⟩)) | (go_at_call_of 105 (Value.int .u8 (c.b.toNat : Int)); exact Calls.quiet_of_same (((HA.out _).2.2).mono fun _ _ ⟨h, k⟩ => ⟨h, k.symm⟩)))
  have ERG : Hid (wrap64 (r - g) = r - g) := Lib.hid (by have := RBD.out; unfold wrap64; omega)
  have EBG : Hid (wrap64 (b - g) = b - g) := Lib.hid (by have := RBD.out; unfold wrap64; omega)
  have HN : Hid (∀ w : World, (Calls Tryz.prog 106 #[.int .i64 r, .int .i64 (-2), .int .i64 1] w fun e w' => e = .returned (.bool false) ∧ w = w')) := Lib.hid (fun w => qoiWithin (decide_eq_false HF.out.1) w)
  have HM : Hid (∀ w : World, (Calls Tryz.prog 106 #[.int .i64 g, .int .i64 (-32), .int .i64 31] w fun e w' => e = .returned (.bool false) ∧ w = w')) := Lib.hid (fun w => qoiWithin (decide_eq_false HF.out.2) w)
  go_wp2_with (first | (go_at_call_of 106 (Value.int .i64 r); go_at_call_of 106 (Value.int .i64 1); refine ((HN.out _)).mono ?_; rintro e w' ⟨rfl, rfl⟩) | (go_at_call_of 106 (Value.int .i64 g); go_at_call_of 106 (Value.int .i64 31); refine ((HM.out _)).mono ?_; rintro e w' ⟨rfl, rfl⟩))
  go_ret
  refine ⟨⟨_, rfl, row8_new (w5.drewN nq) H5.out.2.2.size _ [254, c.r, c.g, c.b] ?_⟩, ?_⟩
  · have hf := HF.out
    have hb := RBD.out
    simp [C8]
  · exact ((show Below w.heap.size w (w5.drewN nq) from ⟨H5.out.2.2.os, H5.out.2.2.tape, H5.out.2.2.output, H5.out.2.2.size, H5.out.2.2.block⟩).alloc H5.out.2.2.size _)
set_option maxRecDepth 100000 in
set_option maxHeartbeats 4000000 in
theorem qoiWrite_all01 {w : World} {x p : Nat} {last c : Qc} {seen : List Qc} (h : CodAt w x last seen) (hp : qplace c = p) {q : Qc} (hs : seen[p]? = some q) (hq : q ≠ c) (ha : c.a = last.a) {r g b : Int} (er : qapart c.r last.r = r) (eg : qapart c.g last.g = g) (eb : qapart c.b last.b = b) (hr : ¬ (-2 ≤ r ∧ r ≤ 1)) (hg : (-32 ≤ g ∧ g ≤ 31) ∧ ¬ (-8 ≤ (r - g) ∧ (r - g) ≤ 7)) (hb : True) : Calls Tryz.prog 52 #[.pointer (some ⟨x, 0, none⟩), .agg #[.int .u8 (c.r.toNat : Int), .int .u8 (c.g.toNat : Int), .int .u8 (c.b.toNat : Int), .int .u8 (c.a.toNat : Int)]] w fun e w' => (∃ v, e = .returned v ∧ Row8 w' v w.heap.size [254, c.r, c.g, c.b]) ∧ Below w.heap.size w w' := by
  have hxl := Blk.lt h.1
  have HP := Lib.hid (fun w => qoiPlace hp w)
  have hp64 : p < 64 := by rw [← hp]; exact qplace_lt c
  have H := Lib.hid h
  have HS := Lib.hid (show (last :: seen)[p + 1]? = some q from hs)
  have HA : Hid (∀ w : World, (Calls Tryz.prog 105 #[.int .u8 (c.r.toNat : Int), .int .u8 (last.r.toNat : Int)] w fun e w' => e = .returned (.int .i64 r) ∧ w = w') ∧ (Calls Tryz.prog 105 #[.int .u8 (c.g.toNat : Int), .int .u8 (last.g.toNat : Int)] w fun e w' => e = .returned (.int .i64 g) ∧ w = w') ∧ (Calls Tryz.prog 105 #[.int .u8 (c.b.toNat : Int), .int .u8 (last.b.toNat : Int)] w fun e w' => e = .returned (.int .i64 b) ∧ w = w')) := Lib.hid (fun w => ⟨er ▸ qoiApart c.r last.r w, eg ▸ qoiApart c.g last.g w, eb ▸ qoiApart c.b last.b w⟩)
  have RBD : Hid (-128 ≤ r ∧ r ≤ 127 ∧ -128 ≤ g ∧ g ≤ 127 ∧ -128 ≤ b ∧ b ≤ 127) := Lib.hid (by rw [← er, ← eg, ← eb]; unfold qapart; omega)
  have HF := Lib.hid (And.intro hr hg)
  have HLA := Lib.hid ha
  clear h hp hs er eg eb hr hg hb ha
  go_enter Tryz.func52, Tryz.ntmps52
  have Q0 : QB (w.alloc (.cells #[.int .u8 (c.r.toNat : Int), .int .u8 (c.g.toNat : Int), .int .u8 (c.b.toNat : Int), .int .u8 (c.a.toNat : Int)] 67)) w.heap.size c := Blk.new _ _ _
  have C0 : CodAt (w.alloc (.cells #[.int .u8 (c.r.toNat : Int), .int .u8 (c.g.toNat : Int), .int .u8 (c.b.toNat : Int), .int .u8 (c.a.toNat : Int)] 67)) x last seen := ⟨Blk.alloc H.out.1 _, H.out.2⟩
  have B0 : Below w.heap.size w (w.alloc (.cells #[.int .u8 (c.r.toNat : Int), .int .u8 (c.g.toNat : Int), .int .u8 (c.b.toNat : Int), .int .u8 (c.a.toNat : Int)] 67)) := (Below.refl _ _).alloc (Nat.le_refl _) _
  have W0 := Lib.hid (And.intro Q0 (And.intro C0 B0))
  clear Q0 C0 B0
  go_wp2_with (go_at_call 104; refine (HP.out _).mono ?_; rintro e w4 ⟨rfl, b4⟩; have Q4 : QB w4 w.heap.size c := Blk.below W0.out.1 b4 (Blk.lt W0.out.1); have C4 : CodAt w4 x last seen := ⟨Blk.below W0.out.2.1.1 b4 (Blk.lt W0.out.2.1.1), W0.out.2.1.2⟩; have B4 : Below w.heap.size w w4 := W0.out.2.2.trans (b4.mono (by simp)); clear b4)
  obtain ⟨q0, q1, q2, q3, ql⟩ := QB.all Q4
  obtain ⟨s0', s1', s2', s3'⟩ := CodAt.cell C4 (p + 1) q HS.out
  have e4 : ∀ j, 4 + p * 4 + j = (p + 1) * 4 + j := fun j => by omega
  have s0 : w4.cell? ⟨x, 4 + p * 4, none⟩ = some (.int .u8 (q.r.toNat : Int)) := by rw [show 4 + p * 4 = (p + 1) * 4 from by omega]; exact s0'
  have s1 : w4.cell? ⟨x, 4 + p * 4 + 1, none⟩ = some (.int .u8 (q.g.toNat : Int)) := by rw [e4]; exact s1'
  have s2 : w4.cell? ⟨x, 4 + p * 4 + 2, none⟩ = some (.int .u8 (q.b.toNat : Int)) := by rw [e4]; exact s2'
  have s3 : w4.cell? ⟨x, 4 + p * 4 + 3, none⟩ = some (.int .u8 (q.a.toNat : Int)) := by rw [e4]; exact s3'
  clear e4 s0' s1' s2' s3'
  have xl := Blk.lt C4.1
  have HQ := Lib.hid (And.intro Q4 (And.intro C4 B4))
  clear Q4 C4 B4
  have g0 : (0 : Int) ≤ (p : Int) := Int.natCast_nonneg _
  have g1 : (p : Int) < 64 := by omega
  have g2 : (p : Int) < ((64 : Nat) : Int) := by omega
  obtain ⟨l0, l1, l2, l3⟩ := CodAt.cell HQ.out.2.1 0 last rfl
  simp only [Nat.zero_mul, Nat.zero_add] at l0 l1 l2 l3
  rw [← HLA.out] at l3
  have hif := qc_if hq
  go_region
  go_wp2_with fail
  go_region
  go_wp2_with fail
  obtain ⟨w5, e5⟩ : ∃ w5, w4.drew.drew = w5 := ⟨_, rfl⟩
  have H5 : Hid (QB w5 w.heap.size c ∧ CodAt w5 x last seen ∧ Below w.heap.size w w5) := Lib.hid (by subst e5; exact ⟨Blk.drew (Blk.drew HQ.out.1), ⟨Blk.drew (Blk.drew HQ.out.2.1.1), HQ.out.2.1.2⟩, HQ.out.2.2.drew.drew⟩)
  rw [e5]
  clear e5 q0 q1 q2 q3 ql s0 s1 s2 s3 xl l0 l1 l2 l3
  obtain ⟨q0, q1, q2, q3, ql⟩ := QB.all H5.out.1
  obtain ⟨l0, l1, l2, l3⟩ := CodAt.cell H5.out.2.1 0 last rfl
  simp only [Nat.zero_mul, Nat.zero_add] at l0 l1 l2 l3
  have xl := Blk.lt H5.out.2.1.1
  go_quiet (first | (go_at_call_of 105 (Value.int .u8 (c.r.toNat : Int)); exact Calls.quiet_of_same (((HA.out _).1).mono fun _ _ ⟨h, k⟩ => ⟨h, k.symm⟩)) | (go_at_call_of 105 (Value.int .u8 (c.g.toNat : Int)); exact Calls.quiet_of_same (((HA.out _).2.1).mono fun _ _ ⟨h, k⟩ => ⟨h, k.symm⟩)) | (go_at_call_of 105 (Value.int .u8 (c.b.toNat : Int)); exact Calls.quiet_of_same (((HA.out _).2.2).mono fun _ _ ⟨h, k⟩ => ⟨h, k.symm⟩)))
  have ERG : Hid (wrap64 (r - g) = r - g) := Lib.hid (by have := RBD.out; unfold wrap64; omega)
  have EBG : Hid (wrap64 (b - g) = b - g) := Lib.hid (by have := RBD.out; unfold wrap64; omega)
  have HN : Hid (∀ w : World, (Calls Tryz.prog 106 #[.int .i64 r, .int .i64 (-2), .int .i64 1] w fun e w' => e = .returned (.bool false) ∧ w = w')) := Lib.hid (fun w => qoiWithin (decide_eq_false HF.out.1) w)
  have HM : Hid (∀ w : World, (Calls Tryz.prog 106 #[.int .i64 g, .int .i64 (-32), .int .i64 31] w fun e w' => e = .returned (.bool true) ∧ w = w') ∧ (Calls Tryz.prog 106 #[.int .i64 (wrap64 (r - g)), .int .i64 (-8), .int .i64 7] w fun e w' => e = .returned (.bool false) ∧ w = w')) := Lib.hid (fun w => ⟨qoiWithin (decide_eq_true HF.out.2.1) w, qoiWithin (by rw [ERG.out]; exact decide_eq_false HF.out.2.2) w⟩)
  go_wp2_with (first | (go_at_call_of 106 (Value.int .i64 r); go_at_call_of 106 (Value.int .i64 1); refine ((HN.out _)).mono ?_; rintro e w' ⟨rfl, rfl⟩) | (go_at_call_of 106 (Value.int .i64 g); go_at_call_of 106 (Value.int .i64 31); refine ((HM.out _).1).mono ?_; rintro e w' ⟨rfl, rfl⟩) | (go_at_call_of 106 (Value.int .i64 (wrap64 (r - g))); go_at_call_of 106 (Value.int .i64 7); refine ((HM.out _).2).mono ?_; rintro e w' ⟨rfl, rfl⟩))
  go_ret
  refine ⟨⟨_, rfl, row8_new (w5.drewN nq) H5.out.2.2.size _ [254, c.r, c.g, c.b] ?_⟩, ?_⟩
  · have hf := HF.out
    have hb := RBD.out
    simp [C8]
  · exact ((show Below w.heap.size w (w5.drewN nq) from ⟨H5.out.2.2.os, H5.out.2.2.tape, H5.out.2.2.output, H5.out.2.2.size, H5.out.2.2.block⟩).alloc H5.out.2.2.size _)
set_option maxRecDepth 100000 in
set_option maxHeartbeats 4000000 in
theorem qoiWrite_all02 {w : World} {x p : Nat} {last c : Qc} {seen : List Qc} (h : CodAt w x last seen) (hp : qplace c = p) {q : Qc} (hs : seen[p]? = some q) (hq : q ≠ c) (ha : c.a = last.a) {r g b : Int} (er : qapart c.r last.r = r) (eg : qapart c.g last.g = g) (eb : qapart c.b last.b = b) (hr : ¬ (-2 ≤ r ∧ r ≤ 1)) (hg : (-32 ≤ g ∧ g ≤ 31) ∧ (-8 ≤ (r - g) ∧ (r - g) ≤ 7) ∧ ¬ (-8 ≤ (b - g) ∧ (b - g) ≤ 7)) (hb : True) : Calls Tryz.prog 52 #[.pointer (some ⟨x, 0, none⟩), .agg #[.int .u8 (c.r.toNat : Int), .int .u8 (c.g.toNat : Int), .int .u8 (c.b.toNat : Int), .int .u8 (c.a.toNat : Int)]] w fun e w' => (∃ v, e = .returned v ∧ Row8 w' v w.heap.size [254, c.r, c.g, c.b]) ∧ Below w.heap.size w w' := by
  have hxl := Blk.lt h.1
  have HP := Lib.hid (fun w => qoiPlace hp w)
  have hp64 : p < 64 := by rw [← hp]; exact qplace_lt c
  have H := Lib.hid h
  have HS := Lib.hid (show (last :: seen)[p + 1]? = some q from hs)
  have HA : Hid (∀ w : World, (Calls Tryz.prog 105 #[.int .u8 (c.r.toNat : Int), .int .u8 (last.r.toNat : Int)] w fun e w' => e = .returned (.int .i64 r) ∧ w = w') ∧ (Calls Tryz.prog 105 #[.int .u8 (c.g.toNat : Int), .int .u8 (last.g.toNat : Int)] w fun e w' => e = .returned (.int .i64 g) ∧ w = w') ∧ (Calls Tryz.prog 105 #[.int .u8 (c.b.toNat : Int), .int .u8 (last.b.toNat : Int)] w fun e w' => e = .returned (.int .i64 b) ∧ w = w')) := Lib.hid (fun w => ⟨er ▸ qoiApart c.r last.r w, eg ▸ qoiApart c.g last.g w, eb ▸ qoiApart c.b last.b w⟩)
  have RBD : Hid (-128 ≤ r ∧ r ≤ 127 ∧ -128 ≤ g ∧ g ≤ 127 ∧ -128 ≤ b ∧ b ≤ 127) := Lib.hid (by rw [← er, ← eg, ← eb]; unfold qapart; omega)
  have HF := Lib.hid (And.intro hr hg)
  have HLA := Lib.hid ha
  clear h hp hs er eg eb hr hg hb ha
  go_enter Tryz.func52, Tryz.ntmps52
  have Q0 : QB (w.alloc (.cells #[.int .u8 (c.r.toNat : Int), .int .u8 (c.g.toNat : Int), .int .u8 (c.b.toNat : Int), .int .u8 (c.a.toNat : Int)] 67)) w.heap.size c := Blk.new _ _ _
  have C0 : CodAt (w.alloc (.cells #[.int .u8 (c.r.toNat : Int), .int .u8 (c.g.toNat : Int), .int .u8 (c.b.toNat : Int), .int .u8 (c.a.toNat : Int)] 67)) x last seen := ⟨Blk.alloc H.out.1 _, H.out.2⟩
  have B0 : Below w.heap.size w (w.alloc (.cells #[.int .u8 (c.r.toNat : Int), .int .u8 (c.g.toNat : Int), .int .u8 (c.b.toNat : Int), .int .u8 (c.a.toNat : Int)] 67)) := (Below.refl _ _).alloc (Nat.le_refl _) _
  have W0 := Lib.hid (And.intro Q0 (And.intro C0 B0))
  clear Q0 C0 B0
  go_wp2_with (go_at_call 104; refine (HP.out _).mono ?_; rintro e w4 ⟨rfl, b4⟩; have Q4 : QB w4 w.heap.size c := Blk.below W0.out.1 b4 (Blk.lt W0.out.1); have C4 : CodAt w4 x last seen := ⟨Blk.below W0.out.2.1.1 b4 (Blk.lt W0.out.2.1.1), W0.out.2.1.2⟩; have B4 : Below w.heap.size w w4 := W0.out.2.2.trans (b4.mono (by simp)); clear b4)
  obtain ⟨q0, q1, q2, q3, ql⟩ := QB.all Q4
  obtain ⟨s0', s1', s2', s3'⟩ := CodAt.cell C4 (p + 1) q HS.out
  have e4 : ∀ j, 4 + p * 4 + j = (p + 1) * 4 + j := fun j => by omega
  have s0 : w4.cell? ⟨x, 4 + p * 4, none⟩ = some (.int .u8 (q.r.toNat : Int)) := by rw [show 4 + p * 4 = (p + 1) * 4 from by omega]; exact s0'
  have s1 : w4.cell? ⟨x, 4 + p * 4 + 1, none⟩ = some (.int .u8 (q.g.toNat : Int)) := by rw [e4]; exact s1'
  have s2 : w4.cell? ⟨x, 4 + p * 4 + 2, none⟩ = some (.int .u8 (q.b.toNat : Int)) := by rw [e4]; exact s2'
  have s3 : w4.cell? ⟨x, 4 + p * 4 + 3, none⟩ = some (.int .u8 (q.a.toNat : Int)) := by rw [e4]; exact s3'
  clear e4 s0' s1' s2' s3'
  have xl := Blk.lt C4.1
  have HQ := Lib.hid (And.intro Q4 (And.intro C4 B4))
  clear Q4 C4 B4
  have g0 : (0 : Int) ≤ (p : Int) := Int.natCast_nonneg _
  have g1 : (p : Int) < 64 := by omega
  have g2 : (p : Int) < ((64 : Nat) : Int) := by omega
  obtain ⟨l0, l1, l2, l3⟩ := CodAt.cell HQ.out.2.1 0 last rfl
  simp only [Nat.zero_mul, Nat.zero_add] at l0 l1 l2 l3
  rw [← HLA.out] at l3
  have hif := qc_if hq
  go_region
  go_wp2_with fail
  go_region
  go_wp2_with fail
  obtain ⟨w5, e5⟩ : ∃ w5, w4.drew.drew = w5 := ⟨_, rfl⟩
  have H5 : Hid (QB w5 w.heap.size c ∧ CodAt w5 x last seen ∧ Below w.heap.size w w5) := Lib.hid (by subst e5; exact ⟨Blk.drew (Blk.drew HQ.out.1), ⟨Blk.drew (Blk.drew HQ.out.2.1.1), HQ.out.2.1.2⟩, HQ.out.2.2.drew.drew⟩)
  rw [e5]
  clear e5 q0 q1 q2 q3 ql s0 s1 s2 s3 xl l0 l1 l2 l3
  obtain ⟨q0, q1, q2, q3, ql⟩ := QB.all H5.out.1
  obtain ⟨l0, l1, l2, l3⟩ := CodAt.cell H5.out.2.1 0 last rfl
  simp only [Nat.zero_mul, Nat.zero_add] at l0 l1 l2 l3
  have xl := Blk.lt H5.out.2.1.1
  go_quiet (first | (go_at_call_of 105 (Value.int .u8 (c.r.toNat : Int)); exact Calls.quiet_of_same (((HA.out _).1).mono fun _ _ ⟨h, k⟩ => ⟨h, k.symm⟩)) | (go_at_call_of 105 (Value.int .u8 (c.g.toNat : Int)); exact Calls.quiet_of_same (((HA.out _).2.1).mono fun _ _ ⟨h, k⟩ => ⟨h, k.symm⟩)) | (go_at_call_of 105 (Value.int .u8 (c.b.toNat : Int)); exact Calls.quiet_of_same (((HA.out _).2.2).mono fun _ _ ⟨h, k⟩ => ⟨h, k.symm⟩)))
  have ERG : Hid (wrap64 (r - g) = r - g) := Lib.hid (by have := RBD.out; unfold wrap64; omega)
  have EBG : Hid (wrap64 (b - g) = b - g) := Lib.hid (by have := RBD.out; unfold wrap64; omega)
  have HN : Hid (∀ w : World, (Calls Tryz.prog 106 #[.int .i64 r, .int .i64 (-2), .int .i64 1] w fun e w' => e = .returned (.bool false) ∧ w = w')) := Lib.hid (fun w => qoiWithin (decide_eq_false HF.out.1) w)
  have HM : Hid (∀ w : World, (Calls Tryz.prog 106 #[.int .i64 g, .int .i64 (-32), .int .i64 31] w fun e w' => e = .returned (.bool true) ∧ w = w') ∧ (Calls Tryz.prog 106 #[.int .i64 (wrap64 (r - g)), .int .i64 (-8), .int .i64 7] w fun e w' => e = .returned (.bool true) ∧ w = w') ∧ (Calls Tryz.prog 106 #[.int .i64 (wrap64 (b - g)), .int .i64 (-8), .int .i64 7] w fun e w' => e = .returned (.bool false) ∧ w = w')) := Lib.hid (fun w => ⟨qoiWithin (decide_eq_true HF.out.2.1) w, qoiWithin (by rw [ERG.out]; exact decide_eq_true HF.out.2.2.1) w, qoiWithin (by rw [EBG.out]; exact decide_eq_false HF.out.2.2.2) w⟩)
  go_wp2_with (first | (go_at_call_of 106 (Value.int .i64 r); go_at_call_of 106 (Value.int .i64 1); refine ((HN.out _)).mono ?_; rintro e w' ⟨rfl, rfl⟩) | (go_at_call_of 106 (Value.int .i64 g); go_at_call_of 106 (Value.int .i64 31); refine ((HM.out _).1).mono ?_; rintro e w' ⟨rfl, rfl⟩) | (go_at_call_of 106 (Value.int .i64 (wrap64 (r - g))); go_at_call_of 106 (Value.int .i64 7); refine ((HM.out _).2.1).mono ?_; rintro e w' ⟨rfl, rfl⟩) | (go_at_call_of 106 (Value.int .i64 (wrap64 (b - g))); go_at_call_of 106 (Value.int .i64 7); refine ((HM.out _).2.2).mono ?_; rintro e w' ⟨rfl, rfl⟩))
  go_ret
  refine ⟨⟨_, rfl, row8_new (w5.drewN nq) H5.out.2.2.size _ [254, c.r, c.g, c.b] ?_⟩, ?_⟩
  · have hf := HF.out
    have hb := RBD.out
    simp [C8]
  · exact ((show Below w.heap.size w (w5.drewN nq) from ⟨H5.out.2.2.os, H5.out.2.2.tape, H5.out.2.2.output, H5.out.2.2.size, H5.out.2.2.block⟩).alloc H5.out.2.2.size _)
set_option maxRecDepth 100000 in
set_option maxHeartbeats 4000000 in
theorem qoiWrite_all10 {w : World} {x p : Nat} {last c : Qc} {seen : List Qc} (h : CodAt w x last seen) (hp : qplace c = p) {q : Qc} (hs : seen[p]? = some q) (hq : q ≠ c) (ha : c.a = last.a) {r g b : Int} (er : qapart c.r last.r = r) (eg : qapart c.g last.g = g) (eb : qapart c.b last.b = b) (hr : (-2 ≤ r ∧ r ≤ 1) ∧ ¬ (-2 ≤ g ∧ g ≤ 1)) (hg : ¬ (-32 ≤ g ∧ g ≤ 31)) (hb : True) : Calls Tryz.prog 52 #[.pointer (some ⟨x, 0, none⟩), .agg #[.int .u8 (c.r.toNat : Int), .int .u8 (c.g.toNat : Int), .int .u8 (c.b.toNat : Int), .int .u8 (c.a.toNat : Int)]] w fun e w' => (∃ v, e = .returned v ∧ Row8 w' v w.heap.size [254, c.r, c.g, c.b]) ∧ Below w.heap.size w w' := by
  have hxl := Blk.lt h.1
  have HP := Lib.hid (fun w => qoiPlace hp w)
  have hp64 : p < 64 := by rw [← hp]; exact qplace_lt c
  have H := Lib.hid h
  have HS := Lib.hid (show (last :: seen)[p + 1]? = some q from hs)
  have HA : Hid (∀ w : World, (Calls Tryz.prog 105 #[.int .u8 (c.r.toNat : Int), .int .u8 (last.r.toNat : Int)] w fun e w' => e = .returned (.int .i64 r) ∧ w = w') ∧ (Calls Tryz.prog 105 #[.int .u8 (c.g.toNat : Int), .int .u8 (last.g.toNat : Int)] w fun e w' => e = .returned (.int .i64 g) ∧ w = w') ∧ (Calls Tryz.prog 105 #[.int .u8 (c.b.toNat : Int), .int .u8 (last.b.toNat : Int)] w fun e w' => e = .returned (.int .i64 b) ∧ w = w')) := Lib.hid (fun w => ⟨er ▸ qoiApart c.r last.r w, eg ▸ qoiApart c.g last.g w, eb ▸ qoiApart c.b last.b w⟩)
  have RBD : Hid (-128 ≤ r ∧ r ≤ 127 ∧ -128 ≤ g ∧ g ≤ 127 ∧ -128 ≤ b ∧ b ≤ 127) := Lib.hid (by rw [← er, ← eg, ← eb]; unfold qapart; omega)
  have HF := Lib.hid (And.intro hr hg)
  have HLA := Lib.hid ha
  clear h hp hs er eg eb hr hg hb ha
  go_enter Tryz.func52, Tryz.ntmps52
  have Q0 : QB (w.alloc (.cells #[.int .u8 (c.r.toNat : Int), .int .u8 (c.g.toNat : Int), .int .u8 (c.b.toNat : Int), .int .u8 (c.a.toNat : Int)] 67)) w.heap.size c := Blk.new _ _ _
  have C0 : CodAt (w.alloc (.cells #[.int .u8 (c.r.toNat : Int), .int .u8 (c.g.toNat : Int), .int .u8 (c.b.toNat : Int), .int .u8 (c.a.toNat : Int)] 67)) x last seen := ⟨Blk.alloc H.out.1 _, H.out.2⟩
  have B0 : Below w.heap.size w (w.alloc (.cells #[.int .u8 (c.r.toNat : Int), .int .u8 (c.g.toNat : Int), .int .u8 (c.b.toNat : Int), .int .u8 (c.a.toNat : Int)] 67)) := (Below.refl _ _).alloc (Nat.le_refl _) _
  have W0 := Lib.hid (And.intro Q0 (And.intro C0 B0))
  clear Q0 C0 B0
  go_wp2_with (go_at_call 104; refine (HP.out _).mono ?_; rintro e w4 ⟨rfl, b4⟩; have Q4 : QB w4 w.heap.size c := Blk.below W0.out.1 b4 (Blk.lt W0.out.1); have C4 : CodAt w4 x last seen := ⟨Blk.below W0.out.2.1.1 b4 (Blk.lt W0.out.2.1.1), W0.out.2.1.2⟩; have B4 : Below w.heap.size w w4 := W0.out.2.2.trans (b4.mono (by simp)); clear b4)
  obtain ⟨q0, q1, q2, q3, ql⟩ := QB.all Q4
  obtain ⟨s0', s1', s2', s3'⟩ := CodAt.cell C4 (p + 1) q HS.out
  have e4 : ∀ j, 4 + p * 4 + j = (p + 1) * 4 + j := fun j => by omega
  have s0 : w4.cell? ⟨x, 4 + p * 4, none⟩ = some (.int .u8 (q.r.toNat : Int)) := by rw [show 4 + p * 4 = (p + 1) * 4 from by omega]; exact s0'
  have s1 : w4.cell? ⟨x, 4 + p * 4 + 1, none⟩ = some (.int .u8 (q.g.toNat : Int)) := by rw [e4]; exact s1'
  have s2 : w4.cell? ⟨x, 4 + p * 4 + 2, none⟩ = some (.int .u8 (q.b.toNat : Int)) := by rw [e4]; exact s2'
  have s3 : w4.cell? ⟨x, 4 + p * 4 + 3, none⟩ = some (.int .u8 (q.a.toNat : Int)) := by rw [e4]; exact s3'
  clear e4 s0' s1' s2' s3'
  have xl := Blk.lt C4.1
  have HQ := Lib.hid (And.intro Q4 (And.intro C4 B4))
  clear Q4 C4 B4
  have g0 : (0 : Int) ≤ (p : Int) := Int.natCast_nonneg _
  have g1 : (p : Int) < 64 := by omega
  have g2 : (p : Int) < ((64 : Nat) : Int) := by omega
  obtain ⟨l0, l1, l2, l3⟩ := CodAt.cell HQ.out.2.1 0 last rfl
  simp only [Nat.zero_mul, Nat.zero_add] at l0 l1 l2 l3
  rw [← HLA.out] at l3
  have hif := qc_if hq
  go_region
  go_wp2_with fail
  go_region
  go_wp2_with fail
  obtain ⟨w5, e5⟩ : ∃ w5, w4.drew.drew = w5 := ⟨_, rfl⟩
  have H5 : Hid (QB w5 w.heap.size c ∧ CodAt w5 x last seen ∧ Below w.heap.size w w5) := Lib.hid (by subst e5; exact ⟨Blk.drew (Blk.drew HQ.out.1), ⟨Blk.drew (Blk.drew HQ.out.2.1.1), HQ.out.2.1.2⟩, HQ.out.2.2.drew.drew⟩)
  rw [e5]
  clear e5 q0 q1 q2 q3 ql s0 s1 s2 s3 xl l0 l1 l2 l3
  obtain ⟨q0, q1, q2, q3, ql⟩ := QB.all H5.out.1
  obtain ⟨l0, l1, l2, l3⟩ := CodAt.cell H5.out.2.1 0 last rfl
  simp only [Nat.zero_mul, Nat.zero_add] at l0 l1 l2 l3
  have xl := Blk.lt H5.out.2.1.1
  go_quiet (first | (go_at_call_of 105 (Value.int .u8 (c.r.toNat : Int)); exact Calls.quiet_of_same (((HA.out _).1).mono fun _ _ ⟨h, k⟩ => ⟨h, k.symm⟩)) | (go_at_call_of 105 (Value.int .u8 (c.g.toNat : Int)); exact Calls.quiet_of_same (((HA.out _).2.1).mono fun _ _ ⟨h, k⟩ => ⟨h, k.symm⟩)) | (go_at_call_of 105 (Value.int .u8 (c.b.toNat : Int)); exact Calls.quiet_of_same (((HA.out _).2.2).mono fun _ _ ⟨h, k⟩ => ⟨h, k.symm⟩)))
  have ERG : Hid (wrap64 (r - g) = r - g) := Lib.hid (by have := RBD.out; unfold wrap64; omega)
  have EBG : Hid (wrap64 (b - g) = b - g) := Lib.hid (by have := RBD.out; unfold wrap64; omega)
  have HN : Hid (∀ w : World, (Calls Tryz.prog 106 #[.int .i64 r, .int .i64 (-2), .int .i64 1] w fun e w' => e = .returned (.bool true) ∧ w = w') ∧ (Calls Tryz.prog 106 #[.int .i64 g, .int .i64 (-2), .int .i64 1] w fun e w' => e = .returned (.bool false) ∧ w = w')) := Lib.hid (fun w => ⟨qoiWithin (decide_eq_true HF.out.1.1) w, qoiWithin (decide_eq_false HF.out.1.2) w⟩)
  have HM : Hid (∀ w : World, (Calls Tryz.prog 106 #[.int .i64 g, .int .i64 (-32), .int .i64 31] w fun e w' => e = .returned (.bool false) ∧ w = w')) := Lib.hid (fun w => qoiWithin (decide_eq_false HF.out.2) w)
  go_wp2_with (first | (go_at_call_of 106 (Value.int .i64 r); go_at_call_of 106 (Value.int .i64 1); refine ((HN.out _).1).mono ?_; rintro e w' ⟨rfl, rfl⟩) | (go_at_call_of 106 (Value.int .i64 g); go_at_call_of 106 (Value.int .i64 1); refine ((HN.out _).2).mono ?_; rintro e w' ⟨rfl, rfl⟩) | (go_at_call_of 106 (Value.int .i64 g); go_at_call_of 106 (Value.int .i64 31); refine ((HM.out _)).mono ?_; rintro e w' ⟨rfl, rfl⟩))
  go_ret
  refine ⟨⟨_, rfl, row8_new (w5.drewN nq) H5.out.2.2.size _ [254, c.r, c.g, c.b] ?_⟩, ?_⟩
  · have hf := HF.out
    have hb := RBD.out
    simp [C8]
  · exact ((show Below w.heap.size w (w5.drewN nq) from ⟨H5.out.2.2.os, H5.out.2.2.tape, H5.out.2.2.output, H5.out.2.2.size, H5.out.2.2.block⟩).alloc H5.out.2.2.size _)
set_option maxRecDepth 100000 in
set_option maxHeartbeats 4000000 in
theorem qoiWrite_all11 {w : World} {x p : Nat} {last c : Qc} {seen : List Qc} (h : CodAt w x last seen) (hp : qplace c = p) {q : Qc} (hs : seen[p]? = some q) (hq : q ≠ c) (ha : c.a = last.a) {r g b : Int} (er : qapart c.r last.r = r) (eg : qapart c.g last.g = g) (eb : qapart c.b last.b = b) (hr : (-2 ≤ r ∧ r ≤ 1) ∧ ¬ (-2 ≤ g ∧ g ≤ 1)) (hg : (-32 ≤ g ∧ g ≤ 31) ∧ ¬ (-8 ≤ (r - g) ∧ (r - g) ≤ 7)) (hb : True) : Calls Tryz.prog 52 #[.pointer (some ⟨x, 0, none⟩), .agg #[.int .u8 (c.r.toNat : Int), .int .u8 (c.g.toNat : Int), .int .u8 (c.b.toNat : Int), .int .u8 (c.a.toNat : Int)]] w fun e w' => (∃ v, e = .returned v ∧ Row8 w' v w.heap.size [254, c.r, c.g, c.b]) ∧ Below w.heap.size w w' := by
  have hxl := Blk.lt h.1
  have HP := Lib.hid (fun w => qoiPlace hp w)
  have hp64 : p < 64 := by rw [← hp]; exact qplace_lt c
  have H := Lib.hid h
  have HS := Lib.hid (show (last :: seen)[p + 1]? = some q from hs)
  have HA : Hid (∀ w : World, (Calls Tryz.prog 105 #[.int .u8 (c.r.toNat : Int), .int .u8 (last.r.toNat : Int)] w fun e w' => e = .returned (.int .i64 r) ∧ w = w') ∧ (Calls Tryz.prog 105 #[.int .u8 (c.g.toNat : Int), .int .u8 (last.g.toNat : Int)] w fun e w' => e = .returned (.int .i64 g) ∧ w = w') ∧ (Calls Tryz.prog 105 #[.int .u8 (c.b.toNat : Int), .int .u8 (last.b.toNat : Int)] w fun e w' => e = .returned (.int .i64 b) ∧ w = w')) := Lib.hid (fun w => ⟨er ▸ qoiApart c.r last.r w, eg ▸ qoiApart c.g last.g w, eb ▸ qoiApart c.b last.b w⟩)
  have RBD : Hid (-128 ≤ r ∧ r ≤ 127 ∧ -128 ≤ g ∧ g ≤ 127 ∧ -128 ≤ b ∧ b ≤ 127) := Lib.hid (by rw [← er, ← eg, ← eb]; unfold qapart; omega)
  have HF := Lib.hid (And.intro hr hg)
  have HLA := Lib.hid ha
  clear h hp hs er eg eb hr hg hb ha
  go_enter Tryz.func52, Tryz.ntmps52
  have Q0 : QB (w.alloc (.cells #[.int .u8 (c.r.toNat : Int), .int .u8 (c.g.toNat : Int), .int .u8 (c.b.toNat : Int), .int .u8 (c.a.toNat : Int)] 67)) w.heap.size c := Blk.new _ _ _
  have C0 : CodAt (w.alloc (.cells #[.int .u8 (c.r.toNat : Int), .int .u8 (c.g.toNat : Int), .int .u8 (c.b.toNat : Int), .int .u8 (c.a.toNat : Int)] 67)) x last seen := ⟨Blk.alloc H.out.1 _, H.out.2⟩
  have B0 : Below w.heap.size w (w.alloc (.cells #[.int .u8 (c.r.toNat : Int), .int .u8 (c.g.toNat : Int), .int .u8 (c.b.toNat : Int), .int .u8 (c.a.toNat : Int)] 67)) := (Below.refl _ _).alloc (Nat.le_refl _) _
  have W0 := Lib.hid (And.intro Q0 (And.intro C0 B0))
  clear Q0 C0 B0
  go_wp2_with (go_at_call 104; refine (HP.out _).mono ?_; rintro e w4 ⟨rfl, b4⟩; have Q4 : QB w4 w.heap.size c := Blk.below W0.out.1 b4 (Blk.lt W0.out.1); have C4 : CodAt w4 x last seen := ⟨Blk.below W0.out.2.1.1 b4 (Blk.lt W0.out.2.1.1), W0.out.2.1.2⟩; have B4 : Below w.heap.size w w4 := W0.out.2.2.trans (b4.mono (by simp)); clear b4)
  obtain ⟨q0, q1, q2, q3, ql⟩ := QB.all Q4
  obtain ⟨s0', s1', s2', s3'⟩ := CodAt.cell C4 (p + 1) q HS.out
  have e4 : ∀ j, 4 + p * 4 + j = (p + 1) * 4 + j := fun j => by omega
  have s0 : w4.cell? ⟨x, 4 + p * 4, none⟩ = some (.int .u8 (q.r.toNat : Int)) := by rw [show 4 + p * 4 = (p + 1) * 4 from by omega]; exact s0'
  have s1 : w4.cell? ⟨x, 4 + p * 4 + 1, none⟩ = some (.int .u8 (q.g.toNat : Int)) := by rw [e4]; exact s1'
  have s2 : w4.cell? ⟨x, 4 + p * 4 + 2, none⟩ = some (.int .u8 (q.b.toNat : Int)) := by rw [e4]; exact s2'
  have s3 : w4.cell? ⟨x, 4 + p * 4 + 3, none⟩ = some (.int .u8 (q.a.toNat : Int)) := by rw [e4]; exact s3'
  clear e4 s0' s1' s2' s3'
  have xl := Blk.lt C4.1
  have HQ := Lib.hid (And.intro Q4 (And.intro C4 B4))
  clear Q4 C4 B4
  have g0 : (0 : Int) ≤ (p : Int) := Int.natCast_nonneg _
  have g1 : (p : Int) < 64 := by omega
  have g2 : (p : Int) < ((64 : Nat) : Int) := by omega
  obtain ⟨l0, l1, l2, l3⟩ := CodAt.cell HQ.out.2.1 0 last rfl
  simp only [Nat.zero_mul, Nat.zero_add] at l0 l1 l2 l3
  rw [← HLA.out] at l3
  have hif := qc_if hq
  go_region
  go_wp2_with fail
  go_region
  go_wp2_with fail
  obtain ⟨w5, e5⟩ : ∃ w5, w4.drew.drew = w5 := ⟨_, rfl⟩
  have H5 : Hid (QB w5 w.heap.size c ∧ CodAt w5 x last seen ∧ Below w.heap.size w w5) := Lib.hid (by subst e5; exact ⟨Blk.drew (Blk.drew HQ.out.1), ⟨Blk.drew (Blk.drew HQ.out.2.1.1), HQ.out.2.1.2⟩, HQ.out.2.2.drew.drew⟩)
  rw [e5]
  clear e5 q0 q1 q2 q3 ql s0 s1 s2 s3 xl l0 l1 l2 l3
  obtain ⟨q0, q1, q2, q3, ql⟩ := QB.all H5.out.1
  obtain ⟨l0, l1, l2, l3⟩ := CodAt.cell H5.out.2.1 0 last rfl
  simp only [Nat.zero_mul, Nat.zero_add] at l0 l1 l2 l3
  have xl := Blk.lt H5.out.2.1.1
  go_quiet (first | (go_at_call_of 105 (Value.int .u8 (c.r.toNat : Int)); exact Calls.quiet_of_same (((HA.out _).1).mono fun _ _ ⟨h, k⟩ => ⟨h, k.symm⟩)) | (go_at_call_of 105 (Value.int .u8 (c.g.toNat : Int)); exact Calls.quiet_of_same (((HA.out _).2.1).mono fun _ _ ⟨h, k⟩ => ⟨h, k.symm⟩)) | (go_at_call_of 105 (Value.int .u8 (c.b.toNat : Int)); exact Calls.quiet_of_same (((HA.out _).2.2).mono fun _ _ ⟨h, k⟩ => ⟨h, k.symm⟩)))
  have ERG : Hid (wrap64 (r - g) = r - g) := Lib.hid (by have := RBD.out; unfold wrap64; omega)
  have EBG : Hid (wrap64 (b - g) = b - g) := Lib.hid (by have := RBD.out; unfold wrap64; omega)
  have HN : Hid (∀ w : World, (Calls Tryz.prog 106 #[.int .i64 r, .int .i64 (-2), .int .i64 1] w fun e w' => e = .returned (.bool true) ∧ w = w') ∧ (Calls Tryz.prog 106 #[.int .i64 g, .int .i64 (-2), .int .i64 1] w fun e w' => e = .returned (.bool false) ∧ w = w')) := Lib.hid (fun w => ⟨qoiWithin (decide_eq_true HF.out.1.1) w, qoiWithin (decide_eq_false HF.out.1.2) w⟩)
  have HM : Hid (∀ w : World, (Calls Tryz.prog 106 #[.int .i64 g, .int .i64 (-32), .int .i64 31] w fun e w' => e = .returned (.bool true) ∧ w = w') ∧ (Calls Tryz.prog 106 #[.int .i64 (wrap64 (r - g)), .int .i64 (-8), .int .i64 7] w fun e w' => e = .returned (.bool false) ∧ w = w')) := Lib.hid (fun w => ⟨qoiWithin (decide_eq_true HF.out.2.1) w, qoiWithin (by rw [ERG.out]; exact decide_eq_false HF.out.2.2) w⟩)
  go_wp2_with (first | (go_at_call_of 106 (Value.int .i64 r); go_at_call_of 106 (Value.int .i64 1); refine ((HN.out _).1).mono ?_; rintro e w' ⟨rfl, rfl⟩) | (go_at_call_of 106 (Value.int .i64 g); go_at_call_of 106 (Value.int .i64 1); refine ((HN.out _).2).mono ?_; rintro e w' ⟨rfl, rfl⟩) | (go_at_call_of 106 (Value.int .i64 g); go_at_call_of 106 (Value.int .i64 31); refine ((HM.out _).1).mono ?_; rintro e w' ⟨rfl, rfl⟩) | (go_at_call_of 106 (Value.int .i64 (wrap64 (r - g))); go_at_call_of 106 (Value.int .i64 7); refine ((HM.out _).2).mono ?_; rintro e w' ⟨rfl, rfl⟩))
  go_ret
  refine ⟨⟨_, rfl, row8_new (w5.drewN nq) H5.out.2.2.size _ [254, c.r, c.g, c.b] ?_⟩, ?_⟩
  · have hf := HF.out
    have hb := RBD.out
    simp [C8]
  · exact ((show Below w.heap.size w (w5.drewN nq) from ⟨H5.out.2.2.os, H5.out.2.2.tape, H5.out.2.2.output, H5.out.2.2.size, H5.out.2.2.block⟩).alloc H5.out.2.2.size _)
set_option maxRecDepth 100000 in
set_option maxHeartbeats 4000000 in
theorem qoiWrite_all12 {w : World} {x p : Nat} {last c : Qc} {seen : List Qc} (h : CodAt w x last seen) (hp : qplace c = p) {q : Qc} (hs : seen[p]? = some q) (hq : q ≠ c) (ha : c.a = last.a) {r g b : Int} (er : qapart c.r last.r = r) (eg : qapart c.g last.g = g) (eb : qapart c.b last.b = b) (hr : (-2 ≤ r ∧ r ≤ 1) ∧ ¬ (-2 ≤ g ∧ g ≤ 1)) (hg : (-32 ≤ g ∧ g ≤ 31) ∧ (-8 ≤ (r - g) ∧ (r - g) ≤ 7) ∧ ¬ (-8 ≤ (b - g) ∧ (b - g) ≤ 7)) (hb : True) : Calls Tryz.prog 52 #[.pointer (some ⟨x, 0, none⟩), .agg #[.int .u8 (c.r.toNat : Int), .int .u8 (c.g.toNat : Int), .int .u8 (c.b.toNat : Int), .int .u8 (c.a.toNat : Int)]] w fun e w' => (∃ v, e = .returned v ∧ Row8 w' v w.heap.size [254, c.r, c.g, c.b]) ∧ Below w.heap.size w w' := by
  have hxl := Blk.lt h.1
  have HP := Lib.hid (fun w => qoiPlace hp w)
  have hp64 : p < 64 := by rw [← hp]; exact qplace_lt c
  have H := Lib.hid h
  have HS := Lib.hid (show (last :: seen)[p + 1]? = some q from hs)
  have HA : Hid (∀ w : World, (Calls Tryz.prog 105 #[.int .u8 (c.r.toNat : Int), .int .u8 (last.r.toNat : Int)] w fun e w' => e = .returned (.int .i64 r) ∧ w = w') ∧ (Calls Tryz.prog 105 #[.int .u8 (c.g.toNat : Int), .int .u8 (last.g.toNat : Int)] w fun e w' => e = .returned (.int .i64 g) ∧ w = w') ∧ (Calls Tryz.prog 105 #[.int .u8 (c.b.toNat : Int), .int .u8 (last.b.toNat : Int)] w fun e w' => e = .returned (.int .i64 b) ∧ w = w')) := Lib.hid (fun w => ⟨er ▸ qoiApart c.r last.r w, eg ▸ qoiApart c.g last.g w, eb ▸ qoiApart c.b last.b w⟩)
  have RBD : Hid (-128 ≤ r ∧ r ≤ 127 ∧ -128 ≤ g ∧ g ≤ 127 ∧ -128 ≤ b ∧ b ≤ 127) := Lib.hid (by rw [← er, ← eg, ← eb]; unfold qapart; omega)
  have HF := Lib.hid (And.intro hr hg)
  have HLA := Lib.hid ha
  clear h hp hs er eg eb hr hg hb ha
  go_enter Tryz.func52, Tryz.ntmps52
  have Q0 : QB (w.alloc (.cells #[.int .u8 (c.r.toNat : Int), .int .u8 (c.g.toNat : Int), .int .u8 (c.b.toNat : Int), .int .u8 (c.a.toNat : Int)] 67)) w.heap.size c := Blk.new _ _ _
  have C0 : CodAt (w.alloc (.cells #[.int .u8 (c.r.toNat : Int), .int .u8 (c.g.toNat : Int), .int .u8 (c.b.toNat : Int), .int .u8 (c.a.toNat : Int)] 67)) x last seen := ⟨Blk.alloc H.out.1 _, H.out.2⟩
  have B0 : Below w.heap.size w (w.alloc (.cells #[.int .u8 (c.r.toNat : Int), .int .u8 (c.g.toNat : Int), .int .u8 (c.b.toNat : Int), .int .u8 (c.a.toNat : Int)] 67)) := (Below.refl _ _).alloc (Nat.le_refl _) _
  have W0 := Lib.hid (And.intro Q0 (And.intro C0 B0))
  clear Q0 C0 B0
  go_wp2_with (go_at_call 104; refine (HP.out _).mono ?_; rintro e w4 ⟨rfl, b4⟩; have Q4 : QB w4 w.heap.size c := Blk.below W0.out.1 b4 (Blk.lt W0.out.1); have C4 : CodAt w4 x last seen := ⟨Blk.below W0.out.2.1.1 b4 (Blk.lt W0.out.2.1.1), W0.out.2.1.2⟩; have B4 : Below w.heap.size w w4 := W0.out.2.2.trans (b4.mono (by simp)); clear b4)
  obtain ⟨q0, q1, q2, q3, ql⟩ := QB.all Q4
  obtain ⟨s0', s1', s2', s3'⟩ := CodAt.cell C4 (p + 1) q HS.out
  have e4 : ∀ j, 4 + p * 4 + j = (p + 1) * 4 + j := fun j => by omega
  have s0 : w4.cell? ⟨x, 4 + p * 4, none⟩ = some (.int .u8 (q.r.toNat : Int)) := by rw [show 4 + p * 4 = (p + 1) * 4 from by omega]; exact s0'
  have s1 : w4.cell? ⟨x, 4 + p * 4 + 1, none⟩ = some (.int .u8 (q.g.toNat : Int)) := by rw [e4]; exact s1'
  have s2 : w4.cell? ⟨x, 4 + p * 4 + 2, none⟩ = some (.int .u8 (q.b.toNat : Int)) := by rw [e4]; exact s2'
  have s3 : w4.cell? ⟨x, 4 + p * 4 + 3, none⟩ = some (.int .u8 (q.a.toNat : Int)) := by rw [e4]; exact s3'
  clear e4 s0' s1' s2' s3'
  have xl := Blk.lt C4.1
  have HQ := Lib.hid (And.intro Q4 (And.intro C4 B4))
  clear Q4 C4 B4
  have g0 : (0 : Int) ≤ (p : Int) := Int.natCast_nonneg _
  have g1 : (p : Int) < 64 := by omega
  have g2 : (p : Int) < ((64 : Nat) : Int) := by omega
  obtain ⟨l0, l1, l2, l3⟩ := CodAt.cell HQ.out.2.1 0 last rfl
  simp only [Nat.zero_mul, Nat.zero_add] at l0 l1 l2 l3
  rw [← HLA.out] at l3
  have hif := qc_if hq
  go_region
  go_wp2_with fail
  go_region
  go_wp2_with fail
  obtain ⟨w5, e5⟩ : ∃ w5, w4.drew.drew = w5 := ⟨_, rfl⟩
  have H5 : Hid (QB w5 w.heap.size c ∧ CodAt w5 x last seen ∧ Below w.heap.size w w5) := Lib.hid (by subst e5; exact ⟨Blk.drew (Blk.drew HQ.out.1), ⟨Blk.drew (Blk.drew HQ.out.2.1.1), HQ.out.2.1.2⟩, HQ.out.2.2.drew.drew⟩)
  rw [e5]
  clear e5 q0 q1 q2 q3 ql s0 s1 s2 s3 xl l0 l1 l2 l3
  obtain ⟨q0, q1, q2, q3, ql⟩ := QB.all H5.out.1
  obtain ⟨l0, l1, l2, l3⟩ := CodAt.cell H5.out.2.1 0 last rfl
  simp only [Nat.zero_mul, Nat.zero_add] at l0 l1 l2 l3
  have xl := Blk.lt H5.out.2.1.1
  go_quiet (first | (go_at_call_of 105 (Value.int .u8 (c.r.toNat : Int)); exact Calls.quiet_of_same (((HA.out _).1).mono fun _ _ ⟨h, k⟩ => ⟨h, k.symm⟩)) | (go_at_call_of 105 (Value.int .u8 (c.g.toNat : Int)); exact Calls.quiet_of_same (((HA.out _).2.1).mono fun _ _ ⟨h, k⟩ => ⟨h, k.symm⟩)) | (go_at_call_of 105 (Value.int .u8 (c.b.toNat : Int)); exact Calls.quiet_of_same (((HA.out _).2.2).mono fun _ _ ⟨h, k⟩ => ⟨h, k.symm⟩)))
  have ERG : Hid (wrap64 (r - g) = r - g) := Lib.hid (by have := RBD.out; unfold wrap64; omega)
  have EBG : Hid (wrap64 (b - g) = b - g) := Lib.hid (by have := RBD.out; unfold wrap64; omega)
  have HN : Hid (∀ w : World, (Calls Tryz.prog 106 #[.int .i64 r, .int .i64 (-2), .int .i64 1] w fun e w' => e = .returned (.bool true) ∧ w = w') ∧ (Calls Tryz.prog 106 #[.int .i64 g, .int .i64 (-2), .int .i64 1] w fun e w' => e = .returned (.bool false) ∧ w = w')) := Lib.hid (fun w => ⟨qoiWithin (decide_eq_true HF.out.1.1) w, qoiWithin (decide_eq_false HF.out.1.2) w⟩)
  have HM : Hid (∀ w : World, (Calls Tryz.prog 106 #[.int .i64 g, .int .i64 (-32), .int .i64 31] w fun e w' => e = .returned (.bool true) ∧ w = w') ∧ (Calls Tryz.prog 106 #[.int .i64 (wrap64 (r - g)), .int .i64 (-8), .int .i64 7] w fun e w' => e = .returned (.bool true) ∧ w = w') ∧ (Calls Tryz.prog 106 #[.int .i64 (wrap64 (b - g)), .int .i64 (-8), .int .i64 7] w fun e w' => e = .returned (.bool false) ∧ w = w')) := Lib.hid (fun w => ⟨qoiWithin (decide_eq_true HF.out.2.1) w, qoiWithin (by rw [ERG.out]; exact decide_eq_true HF.out.2.2.1) w, qoiWithin (by rw [EBG.out]; exact decide_eq_false HF.out.2.2.2) w⟩)
  go_wp2_with (first | (go_at_call_of 106 (Value.int .i64 r); go_at_call_of 106 (Value.int .i64 1); refine ((HN.out _).1).mono ?_; rintro e w' ⟨rfl, rfl⟩) | (go_at_call_of 106 (Value.int .i64 g); go_at_call_of 106 (Value.int .i64 1); refine ((HN.out _).2).mono ?_; rintro e w' ⟨rfl, rfl⟩) | (go_at_call_of 106 (Value.int .i64 g); go_at_call_of 106 (Value.int .i64 31); refine ((HM.out _).1).mono ?_; rintro e w' ⟨rfl, rfl⟩) | (go_at_call_of 106 (Value.int .i64 (wrap64 (r - g))); go_at_call_of 106 (Value.int .i64 7); refine ((HM.out _).2.1).mono ?_; rintro e w' ⟨rfl, rfl⟩) | (go_at_call_of 106 (Value.int .i64 (wrap64 (b - g))); go_at_call_of 106 (Value.int .i64 7); refine ((HM.out _).2.2).mono ?_; rintro e w' ⟨rfl, rfl⟩))
  go_ret
  refine ⟨⟨_, rfl, row8_new (w5.drewN nq) H5.out.2.2.size _ [254, c.r, c.g, c.b] ?_⟩, ?_⟩
  · have hf := HF.out
    have hb := RBD.out
    simp [C8]
  · exact ((show Below w.heap.size w (w5.drewN nq) from ⟨H5.out.2.2.os, H5.out.2.2.tape, H5.out.2.2.output, H5.out.2.2.size, H5.out.2.2.block⟩).alloc H5.out.2.2.size _)
set_option maxRecDepth 100000 in
set_option maxHeartbeats 4000000 in
theorem qoiWrite_all20 {w : World} {x p : Nat} {last c : Qc} {seen : List Qc} (h : CodAt w x last seen) (hp : qplace c = p) {q : Qc} (hs : seen[p]? = some q) (hq : q ≠ c) (ha : c.a = last.a) {r g b : Int} (er : qapart c.r last.r = r) (eg : qapart c.g last.g = g) (eb : qapart c.b last.b = b) (hr : (-2 ≤ r ∧ r ≤ 1) ∧ (-2 ≤ g ∧ g ≤ 1) ∧ ¬ (-2 ≤ b ∧ b ≤ 1)) (hg : ¬ (-32 ≤ g ∧ g ≤ 31)) (hb : True) : Calls Tryz.prog 52 #[.pointer (some ⟨x, 0, none⟩), .agg #[.int .u8 (c.r.toNat : Int), .int .u8 (c.g.toNat : Int), .int .u8 (c.b.toNat : Int), .int .u8 (c.a.toNat : Int)]] w fun e w' => (∃ v, e = .returned v ∧ Row8 w' v w.heap.size [254, c.r, c.g, c.b]) ∧ Below w.heap.size w w' := by
  have hxl := Blk.lt h.1
  have HP := Lib.hid (fun w => qoiPlace hp w)
  have hp64 : p < 64 := by rw [← hp]; exact qplace_lt c
  have H := Lib.hid h
  have HS := Lib.hid (show (last :: seen)[p + 1]? = some q from hs)
  have HA : Hid (∀ w : World, (Calls Tryz.prog 105 #[.int .u8 (c.r.toNat : Int), .int .u8 (last.r.toNat : Int)] w fun e w' => e = .returned (.int .i64 r) ∧ w = w') ∧ (Calls Tryz.prog 105 #[.int .u8 (c.g.toNat : Int), .int .u8 (last.g.toNat : Int)] w fun e w' => e = .returned (.int .i64 g) ∧ w = w') ∧ (Calls Tryz.prog 105 #[.int .u8 (c.b.toNat : Int), .int .u8 (last.b.toNat : Int)] w fun e w' => e = .returned (.int .i64 b) ∧ w = w')) := Lib.hid (fun w => ⟨er ▸ qoiApart c.r last.r w, eg ▸ qoiApart c.g last.g w, eb ▸ qoiApart c.b last.b w⟩)
  have RBD : Hid (-128 ≤ r ∧ r ≤ 127 ∧ -128 ≤ g ∧ g ≤ 127 ∧ -128 ≤ b ∧ b ≤ 127) := Lib.hid (by rw [← er, ← eg, ← eb]; unfold qapart; omega)
  have HF := Lib.hid (And.intro hr hg)
  have HLA := Lib.hid ha
  clear h hp hs er eg eb hr hg hb ha
  go_enter Tryz.func52, Tryz.ntmps52
  have Q0 : QB (w.alloc (.cells #[.int .u8 (c.r.toNat : Int), .int .u8 (c.g.toNat : Int), .int .u8 (c.b.toNat : Int), .int .u8 (c.a.toNat : Int)] 67)) w.heap.size c := Blk.new _ _ _
  have C0 : CodAt (w.alloc (.cells #[.int .u8 (c.r.toNat : Int), .int .u8 (c.g.toNat : Int), .int .u8 (c.b.toNat : Int), .int .u8 (c.a.toNat : Int)] 67)) x last seen := ⟨Blk.alloc H.out.1 _, H.out.2⟩
  have B0 : Below w.heap.size w (w.alloc (.cells #[.int .u8 (c.r.toNat : Int), .int .u8 (c.g.toNat : Int), .int .u8 (c.b.toNat : Int), .int .u8 (c.a.toNat : Int)] 67)) := (Below.refl _ _).alloc (Nat.le_refl _) _
  have W0 := Lib.hid (And.intro Q0 (And.intro C0 B0))
  clear Q0 C0 B0
  go_wp2_with (go_at_call 104; refine (HP.out _).mono ?_; rintro e w4 ⟨rfl, b4⟩; have Q4 : QB w4 w.heap.size c := Blk.below W0.out.1 b4 (Blk.lt W0.out.1); have C4 : CodAt w4 x last seen := ⟨Blk.below W0.out.2.1.1 b4 (Blk.lt W0.out.2.1.1), W0.out.2.1.2⟩; have B4 : Below w.heap.size w w4 := W0.out.2.2.trans (b4.mono (by simp)); clear b4)
  obtain ⟨q0, q1, q2, q3, ql⟩ := QB.all Q4
  obtain ⟨s0', s1', s2', s3'⟩ := CodAt.cell C4 (p + 1) q HS.out
  have e4 : ∀ j, 4 + p * 4 + j = (p + 1) * 4 + j := fun j => by omega
  have s0 : w4.cell? ⟨x, 4 + p * 4, none⟩ = some (.int .u8 (q.r.toNat : Int)) := by rw [show 4 + p * 4 = (p + 1) * 4 from by omega]; exact s0'
  have s1 : w4.cell? ⟨x, 4 + p * 4 + 1, none⟩ = some (.int .u8 (q.g.toNat : Int)) := by rw [e4]; exact s1'
  have s2 : w4.cell? ⟨x, 4 + p * 4 + 2, none⟩ = some (.int .u8 (q.b.toNat : Int)) := by rw [e4]; exact s2'
  have s3 : w4.cell? ⟨x, 4 + p * 4 + 3, none⟩ = some (.int .u8 (q.a.toNat : Int)) := by rw [e4]; exact s3'
  clear e4 s0' s1' s2' s3'
  have xl := Blk.lt C4.1
  have HQ := Lib.hid (And.intro Q4 (And.intro C4 B4))
  clear Q4 C4 B4
  have g0 : (0 : Int) ≤ (p : Int) := Int.natCast_nonneg _
  have g1 : (p : Int) < 64 := by omega
  have g2 : (p : Int) < ((64 : Nat) : Int) := by omega
  obtain ⟨l0, l1, l2, l3⟩ := CodAt.cell HQ.out.2.1 0 last rfl
  simp only [Nat.zero_mul, Nat.zero_add] at l0 l1 l2 l3
  rw [← HLA.out] at l3
  have hif := qc_if hq
  go_region
  go_wp2_with fail
  go_region
  go_wp2_with fail
  obtain ⟨w5, e5⟩ : ∃ w5, w4.drew.drew = w5 := ⟨_, rfl⟩
  have H5 : Hid (QB w5 w.heap.size c ∧ CodAt w5 x last seen ∧ Below w.heap.size w w5) := Lib.hid (by subst e5; exact ⟨Blk.drew (Blk.drew HQ.out.1), ⟨Blk.drew (Blk.drew HQ.out.2.1.1), HQ.out.2.1.2⟩, HQ.out.2.2.drew.drew⟩)
  rw [e5]
  clear e5 q0 q1 q2 q3 ql s0 s1 s2 s3 xl l0 l1 l2 l3
  obtain ⟨q0, q1, q2, q3, ql⟩ := QB.all H5.out.1
  obtain ⟨l0, l1, l2, l3⟩ := CodAt.cell H5.out.2.1 0 last rfl
  simp only [Nat.zero_mul, Nat.zero_add] at l0 l1 l2 l3
  have xl := Blk.lt H5.out.2.1.1
  go_quiet (first | (go_at_call_of 105 (Value.int .u8 (c.r.toNat : Int)); exact Calls.quiet_of_same (((HA.out _).1).mono fun _ _ ⟨h, k⟩ => ⟨h, k.symm⟩)) | (go_at_call_of 105 (Value.int .u8 (c.g.toNat : Int)); exact Calls.quiet_of_same (((HA.out _).2.1).mono fun _ _ ⟨h, k⟩ => ⟨h, k.symm⟩)) | (go_at_call_of 105 (Value.int .u8 (c.b.toNat : Int)); exact Calls.quiet_of_same (((HA.out _).2.2).mono fun _ _ ⟨h, k⟩ => ⟨h, k.symm⟩)))
  have ERG : Hid (wrap64 (r - g) = r - g) := Lib.hid (by have := RBD.out; unfold wrap64; omega)
  have EBG : Hid (wrap64 (b - g) = b - g) := Lib.hid (by have := RBD.out; unfold wrap64; omega)
  have HN : Hid (∀ w : World, (Calls Tryz.prog 106 #[.int .i64 r, .int .i64 (-2), .int .i64 1] w fun e w' => e = .returned (.bool true) ∧ w = w') ∧ (Calls Tryz.prog 106 #[.int .i64 g, .int .i64 (-2), .int .i64 1] w fun e w' => e = .returned (.bool true) ∧ w = w') ∧ (Calls Tryz.prog 106 #[.int .i64 b, .int .i64 (-2), .int .i64 1] w fun e w' => e = .returned (.bool false) ∧ w = w')) := Lib.hid (fun w => ⟨qoiWithin (decide_eq_true HF.out.1.1) w, qoiWithin (decide_eq_true HF.out.1.2.1) w, qoiWithin (decide_eq_false HF.out.1.2.2) w⟩)
  have HM : Hid (∀ w : World, (Calls Tryz.prog 106 #[.int .i64 g, .int .i64 (-32), .int .i64 31] w fun e w' => e = .returned (.bool false) ∧ w = w')) := Lib.hid (fun w => qoiWithin (decide_eq_false HF.out.2) w)
  go_wp2_with (first | (go_at_call_of 106 (Value.int .i64 r); go_at_call_of 106 (Value.int .i64 1); refine ((HN.out _).1).mono ?_; rintro e w' ⟨rfl, rfl⟩) | (go_at_call_of 106 (Value.int .i64 g); go_at_call_of 106 (Value.int .i64 1); refine ((HN.out _).2.1).mono ?_; rintro e w' ⟨rfl, rfl⟩) | (go_at_call_of 106 (Value.int .i64 b); go_at_call_of 106 (Value.int .i64 1); refine ((HN.out _).2.2).mono ?_; rintro e w' ⟨rfl, rfl⟩) | (go_at_call_of 106 (Value.int .i64 g); go_at_call_of 106 (Value.int .i64 31); refine ((HM.out _)).mono ?_; rintro e w' ⟨rfl, rfl⟩))
  go_ret
  refine ⟨⟨_, rfl, row8_new (w5.drewN nq) H5.out.2.2.size _ [254, c.r, c.g, c.b] ?_⟩, ?_⟩
  · have hf := HF.out
    have hb := RBD.out
    simp [C8]
  · exact ((show Below w.heap.size w (w5.drewN nq) from ⟨H5.out.2.2.os, H5.out.2.2.tape, H5.out.2.2.output, H5.out.2.2.size, H5.out.2.2.block⟩).alloc H5.out.2.2.size _)
set_option maxRecDepth 100000 in
set_option maxHeartbeats 4000000 in
theorem qoiWrite_all21 {w : World} {x p : Nat} {last c : Qc} {seen : List Qc} (h : CodAt w x last seen) (hp : qplace c = p) {q : Qc} (hs : seen[p]? = some q) (hq : q ≠ c) (ha : c.a = last.a) {r g b : Int} (er : qapart c.r last.r = r) (eg : qapart c.g last.g = g) (eb : qapart c.b last.b = b) (hr : (-2 ≤ r ∧ r ≤ 1) ∧ (-2 ≤ g ∧ g ≤ 1) ∧ ¬ (-2 ≤ b ∧ b ≤ 1)) (hg : (-32 ≤ g ∧ g ≤ 31) ∧ ¬ (-8 ≤ (r - g) ∧ (r - g) ≤ 7)) (hb : True) : Calls Tryz.prog 52 #[.pointer (some ⟨x, 0, none⟩), .agg #[.int .u8 (c.r.toNat : Int), .int .u8 (c.g.toNat : Int), .int .u8 (c.b.toNat : Int), .int .u8 (c.a.toNat : Int)]] w fun e w' => (∃ v, e = .returned v ∧ Row8 w' v w.heap.size [254, c.r, c.g, c.b]) ∧ Below w.heap.size w w' := by
  have hxl := Blk.lt h.1
  have HP := Lib.hid (fun w => qoiPlace hp w)
  have hp64 : p < 64 := by rw [← hp]; exact qplace_lt c
  have H := Lib.hid h
  have HS := Lib.hid (show (last :: seen)[p + 1]? = some q from hs)
  have HA : Hid (∀ w : World, (Calls Tryz.prog 105 #[.int .u8 (c.r.toNat : Int), .int .u8 (last.r.toNat : Int)] w fun e w' => e = .returned (.int .i64 r) ∧ w = w') ∧ (Calls Tryz.prog 105 #[.int .u8 (c.g.toNat : Int), .int .u8 (last.g.toNat : Int)] w fun e w' => e = .returned (.int .i64 g) ∧ w = w') ∧ (Calls Tryz.prog 105 #[.int .u8 (c.b.toNat : Int), .int .u8 (last.b.toNat : Int)] w fun e w' => e = .returned (.int .i64 b) ∧ w = w')) := Lib.hid (fun w => ⟨er ▸ qoiApart c.r last.r w, eg ▸ qoiApart c.g last.g w, eb ▸ qoiApart c.b last.b w⟩)
  have RBD : Hid (-128 ≤ r ∧ r ≤ 127 ∧ -128 ≤ g ∧ g ≤ 127 ∧ -128 ≤ b ∧ b ≤ 127) := Lib.hid (by rw [← er, ← eg, ← eb]; unfold qapart; omega)
  have HF := Lib.hid (And.intro hr hg)
  have HLA := Lib.hid ha
  clear h hp hs er eg eb hr hg hb ha
  go_enter Tryz.func52, Tryz.ntmps52
  have Q0 : QB (w.alloc (.cells #[.int .u8 (c.r.toNat : Int), .int .u8 (c.g.toNat : Int), .int .u8 (c.b.toNat : Int), .int .u8 (c.a.toNat : Int)] 67)) w.heap.size c := Blk.new _ _ _
  have C0 : CodAt (w.alloc (.cells #[.int .u8 (c.r.toNat : Int), .int .u8 (c.g.toNat : Int), .int .u8 (c.b.toNat : Int), .int .u8 (c.a.toNat : Int)] 67)) x last seen := ⟨Blk.alloc H.out.1 _, H.out.2⟩
  have B0 : Below w.heap.size w (w.alloc (.cells #[.int .u8 (c.r.toNat : Int), .int .u8 (c.g.toNat : Int), .int .u8 (c.b.toNat : Int), .int .u8 (c.a.toNat : Int)] 67)) := (Below.refl _ _).alloc (Nat.le_refl _) _
  have W0 := Lib.hid (And.intro Q0 (And.intro C0 B0))
  clear Q0 C0 B0
  go_wp2_with (go_at_call 104; refine (HP.out _).mono ?_; rintro e w4 ⟨rfl, b4⟩; have Q4 : QB w4 w.heap.size c := Blk.below W0.out.1 b4 (Blk.lt W0.out.1); have C4 : CodAt w4 x last seen := ⟨Blk.below W0.out.2.1.1 b4 (Blk.lt W0.out.2.1.1), W0.out.2.1.2⟩; have B4 : Below w.heap.size w w4 := W0.out.2.2.trans (b4.mono (by simp)); clear b4)
  obtain ⟨q0, q1, q2, q3, ql⟩ := QB.all Q4
  obtain ⟨s0', s1', s2', s3'⟩ := CodAt.cell C4 (p + 1) q HS.out
  have e4 : ∀ j, 4 + p * 4 + j = (p + 1) * 4 + j := fun j => by omega
  have s0 : w4.cell? ⟨x, 4 + p * 4, none⟩ = some (.int .u8 (q.r.toNat : Int)) := by rw [show 4 + p * 4 = (p + 1) * 4 from by omega]; exact s0'
  have s1 : w4.cell? ⟨x, 4 + p * 4 + 1, none⟩ = some (.int .u8 (q.g.toNat : Int)) := by rw [e4]; exact s1'
  have s2 : w4.cell? ⟨x, 4 + p * 4 + 2, none⟩ = some (.int .u8 (q.b.toNat : Int)) := by rw [e4]; exact s2'
  have s3 : w4.cell? ⟨x, 4 + p * 4 + 3, none⟩ = some (.int .u8 (q.a.toNat : Int)) := by rw [e4]; exact s3'
  clear e4 s0' s1' s2' s3'
  have xl := Blk.lt C4.1
  have HQ := Lib.hid (And.intro Q4 (And.intro C4 B4))
  clear Q4 C4 B4
  have g0 : (0 : Int) ≤ (p : Int) := Int.natCast_nonneg _
  have g1 : (p : Int) < 64 := by omega
  have g2 : (p : Int) < ((64 : Nat) : Int) := by omega
  obtain ⟨l0, l1, l2, l3⟩ := CodAt.cell HQ.out.2.1 0 last rfl
  simp only [Nat.zero_mul, Nat.zero_add] at l0 l1 l2 l3
  rw [← HLA.out] at l3
  have hif := qc_if hq
  go_region
  go_wp2_with fail
  go_region
  go_wp2_with fail
  obtain ⟨w5, e5⟩ : ∃ w5, w4.drew.drew = w5 := ⟨_, rfl⟩
  have H5 : Hid (QB w5 w.heap.size c ∧ CodAt w5 x last seen ∧ Below w.heap.size w w5) := Lib.hid (by subst e5; exact ⟨Blk.drew (Blk.drew HQ.out.1), ⟨Blk.drew (Blk.drew HQ.out.2.1.1), HQ.out.2.1.2⟩, HQ.out.2.2.drew.drew⟩)
  rw [e5]
  clear e5 q0 q1 q2 q3 ql s0 s1 s2 s3 xl l0 l1 l2 l3
  obtain ⟨q0, q1, q2, q3, ql⟩ := QB.all H5.out.1
  obtain ⟨l0, l1, l2, l3⟩ := CodAt.cell H5.out.2.1 0 last rfl
  simp only [Nat.zero_mul, Nat.zero_add] at l0 l1 l2 l3
  have xl := Blk.lt H5.out.2.1.1
  go_quiet (first | (go_at_call_of 105 (Value.int .u8 (c.r.toNat : Int)); exact Calls.quiet_of_same (((HA.out _).1).mono fun _ _ ⟨h, k⟩ => ⟨h, k.symm⟩)) | (go_at_call_of 105 (Value.int .u8 (c.g.toNat : Int)); exact Calls.quiet_of_same (((HA.out _).2.1).mono fun _ _ ⟨h, k⟩ => ⟨h, k.symm⟩)) | (go_at_call_of 105 (Value.int .u8 (c.b.toNat : Int)); exact Calls.quiet_of_same (((HA.out _).2.2).mono fun _ _ ⟨h, k⟩ => ⟨h, k.symm⟩)))
  have ERG : Hid (wrap64 (r - g) = r - g) := Lib.hid (by have := RBD.out; unfold wrap64; omega)
  have EBG : Hid (wrap64 (b - g) = b - g) := Lib.hid (by have := RBD.out; unfold wrap64; omega)
  have HN : Hid (∀ w : World, (Calls Tryz.prog 106 #[.int .i64 r, .int .i64 (-2), .int .i64 1] w fun e w' => e = .returned (.bool true) ∧ w = w') ∧ (Calls Tryz.prog 106 #[.int .i64 g, .int .i64 (-2), .int .i64 1] w fun e w' => e = .returned (.bool true) ∧ w = w') ∧ (Calls Tryz.prog 106 #[.int .i64 b, .int .i64 (-2), .int .i64 1] w fun e w' => e = .returned (.bool false) ∧ w = w')) := Lib.hid (fun w => ⟨qoiWithin (decide_eq_true HF.out.1.1) w, qoiWithin (decide_eq_true HF.out.1.2.1) w, qoiWithin (decide_eq_false HF.out.1.2.2) w⟩)
  have HM : Hid (∀ w : World, (Calls Tryz.prog 106 #[.int .i64 g, .int .i64 (-32), .int .i64 31] w fun e w' => e = .returned (.bool true) ∧ w = w') ∧ (Calls Tryz.prog 106 #[.int .i64 (wrap64 (r - g)), .int .i64 (-8), .int .i64 7] w fun e w' => e = .returned (.bool false) ∧ w = w')) := Lib.hid (fun w => ⟨qoiWithin (decide_eq_true HF.out.2.1) w, qoiWithin (by rw [ERG.out]; exact decide_eq_false HF.out.2.2) w⟩)
  go_wp2_with (first | (go_at_call_of 106 (Value.int .i64 r); go_at_call_of 106 (Value.int .i64 1); refine ((HN.out _).1).mono ?_; rintro e w' ⟨rfl, rfl⟩) | (go_at_call_of 106 (Value.int .i64 g); go_at_call_of 106 (Value.int .i64 1); refine ((HN.out _).2.1).mono ?_; rintro e w' ⟨rfl, rfl⟩) | (go_at_call_of 106 (Value.int .i64 b); go_at_call_of 106 (Value.int .i64 1); refine ((HN.out _).2.2).mono ?_; rintro e w' ⟨rfl, rfl⟩) | (go_at_call_of 106 (Value.int .i64 g); go_at_call_of 106 (Value.int .i64 31); refine ((HM.out _).1).mono ?_; rintro e w' ⟨rfl, rfl⟩) | (go_at_call_of 106 (Value.int .i64 (wrap64 (r - g))); go_at_call_of 106 (Value.int .i64 7); refine ((HM.out _).2).mono ?_; rintro e w' ⟨rfl, rfl⟩))
  go_ret
  refine ⟨⟨_, rfl, row8_new (w5.drewN nq) H5.out.2.2.size _ [254, c.r, c.g, c.b] ?_⟩, ?_⟩
  · have hf := HF.out
    have hb := RBD.out
    simp [C8]
  · exact ((show Below w.heap.size w (w5.drewN nq) from ⟨H5.out.2.2.os, H5.out.2.2.tape, H5.out.2.2.output, H5.out.2.2.size, H5.out.2.2.block⟩).alloc H5.out.2.2.size _)
set_option maxRecDepth 100000 in
set_option maxHeartbeats 4000000 in
theorem qoiWrite_all22 {w : World} {x p : Nat} {last c : Qc} {seen : List Qc} (h : CodAt w x last seen) (hp : qplace c = p) {q : Qc} (hs : seen[p]? = some q) (hq : q ≠ c) (ha : c.a = last.a) {r g b : Int} (er : qapart c.r last.r = r) (eg : qapart c.g last.g = g) (eb : qapart c.b last.b = b) (hr : (-2 ≤ r ∧ r ≤ 1) ∧ (-2 ≤ g ∧ g ≤ 1) ∧ ¬ (-2 ≤ b ∧ b ≤ 1)) (hg : (-32 ≤ g ∧ g ≤ 31) ∧ (-8 ≤ (r - g) ∧ (r - g) ≤ 7) ∧ ¬ (-8 ≤ (b - g) ∧ (b - g) ≤ 7)) (hb : True) : Calls Tryz.prog 52 #[.pointer (some ⟨x, 0, none⟩), .agg #[.int .u8 (c.r.toNat : Int), .int .u8 (c.g.toNat : Int), .int .u8 (c.b.toNat : Int), .int .u8 (c.a.toNat : Int)]] w fun e w' => (∃ v, e = .returned v ∧ Row8 w' v w.heap.size [254, c.r, c.g, c.b]) ∧ Below w.heap.size w w' := by
  have hxl := Blk.lt h.1
  have HP := Lib.hid (fun w => qoiPlace hp w)
  have hp64 : p < 64 := by rw [← hp]; exact qplace_lt c
  have H := Lib.hid h
  have HS := Lib.hid (show (last :: seen)[p + 1]? = some q from hs)
  have HA : Hid (∀ w : World, (Calls Tryz.prog 105 #[.int .u8 (c.r.toNat : Int), .int .u8 (last.r.toNat : Int)] w fun e w' => e = .returned (.int .i64 r) ∧ w = w') ∧ (Calls Tryz.prog 105 #[.int .u8 (c.g.toNat : Int), .int .u8 (last.g.toNat : Int)] w fun e w' => e = .returned (.int .i64 g) ∧ w = w') ∧ (Calls Tryz.prog 105 #[.int .u8 (c.b.toNat : Int), .int .u8 (last.b.toNat : Int)] w fun e w' => e = .returned (.int .i64 b) ∧ w = w')) := Lib.hid (fun w => ⟨er ▸ qoiApart c.r last.r w, eg ▸ qoiApart c.g last.g w, eb ▸ qoiApart c.b last.b w⟩)
  have RBD : Hid (-128 ≤ r ∧ r ≤ 127 ∧ -128 ≤ g ∧ g ≤ 127 ∧ -128 ≤ b ∧ b ≤ 127) := Lib.hid (by rw [← er, ← eg, ← eb]; unfold qapart; omega)
  have HF := Lib.hid (And.intro hr hg)
  have HLA := Lib.hid ha
  clear h hp hs er eg eb hr hg hb ha
  go_enter Tryz.func52, Tryz.ntmps52
  have Q0 : QB (w.alloc (.cells #[.int .u8 (c.r.toNat : Int), .int .u8 (c.g.toNat : Int), .int .u8 (c.b.toNat : Int), .int .u8 (c.a.toNat : Int)] 67)) w.heap.size c := Blk.new _ _ _
  have C0 : CodAt (w.alloc (.cells #[.int .u8 (c.r.toNat : Int), .int .u8 (c.g.toNat : Int), .int .u8 (c.b.toNat : Int), .int .u8 (c.a.toNat : Int)] 67)) x last seen := ⟨Blk.alloc H.out.1 _, H.out.2⟩
  have B0 : Below w.heap.size w (w.alloc (.cells #[.int .u8 (c.r.toNat : Int), .int .u8 (c.g.toNat : Int), .int .u8 (c.b.toNat : Int), .int .u8 (c.a.toNat : Int)] 67)) := (Below.refl _ _).alloc (Nat.le_refl _) _
  have W0 := Lib.hid (And.intro Q0 (And.intro C0 B0))
  clear Q0 C0 B0
  go_wp2_with (go_at_call 104; refine (HP.out _).mono ?_; rintro e w4 ⟨rfl, b4⟩; have Q4 : QB w4 w.heap.size c := Blk.below W0.out.1 b4 (Blk.lt W0.out.1); have C4 : CodAt w4 x last seen := ⟨Blk.below W0.out.2.1.1 b4 (Blk.lt W0.out.2.1.1), W0.out.2.1.2⟩; have B4 : Below w.heap.size w w4 := W0.out.2.2.trans (b4.mono (by simp)); clear b4)
  obtain ⟨q0, q1, q2, q3, ql⟩ := QB.all Q4
  obtain ⟨s0', s1', s2', s3'⟩ := CodAt.cell C4 (p + 1) q HS.out
  have e4 : ∀ j, 4 + p * 4 + j = (p + 1) * 4 + j := fun j => by omega
  have s0 : w4.cell? ⟨x, 4 + p * 4, none⟩ = some (.int .u8 (q.r.toNat : Int)) := by rw [show 4 + p * 4 = (p + 1) * 4 from by omega]; exact s0'
  have s1 : w4.cell? ⟨x, 4 + p * 4 + 1, none⟩ = some (.int .u8 (q.g.toNat : Int)) := by rw [e4]; exact s1'
  have s2 : w4.cell? ⟨x, 4 + p * 4 + 2, none⟩ = some (.int .u8 (q.b.toNat : Int)) := by rw [e4]; exact s2'
  have s3 : w4.cell? ⟨x, 4 + p * 4 + 3, none⟩ = some (.int .u8 (q.a.toNat : Int)) := by rw [e4]; exact s3'
  clear e4 s0' s1' s2' s3'
  have xl := Blk.lt C4.1
  have HQ := Lib.hid (And.intro Q4 (And.intro C4 B4))
  clear Q4 C4 B4
  have g0 : (0 : Int) ≤ (p : Int) := Int.natCast_nonneg _
  have g1 : (p : Int) < 64 := by omega
  have g2 : (p : Int) < ((64 : Nat) : Int) := by omega
  obtain ⟨l0, l1, l2, l3⟩ := CodAt.cell HQ.out.2.1 0 last rfl
  simp only [Nat.zero_mul, Nat.zero_add] at l0 l1 l2 l3
  rw [← HLA.out] at l3
  have hif := qc_if hq
  go_region
  go_wp2_with fail
  go_region
  go_wp2_with fail
  obtain ⟨w5, e5⟩ : ∃ w5, w4.drew.drew = w5 := ⟨_, rfl⟩
  have H5 : Hid (QB w5 w.heap.size c ∧ CodAt w5 x last seen ∧ Below w.heap.size w w5) := Lib.hid (by subst e5; exact ⟨Blk.drew (Blk.drew HQ.out.1), ⟨Blk.drew (Blk.drew HQ.out.2.1.1), HQ.out.2.1.2⟩, HQ.out.2.2.drew.drew⟩)
  rw [e5]
  clear e5 q0 q1 q2 q3 ql s0 s1 s2 s3 xl l0 l1 l2 l3
  obtain ⟨q0, q1, q2, q3, ql⟩ := QB.all H5.out.1
  obtain ⟨l0, l1, l2, l3⟩ := CodAt.cell H5.out.2.1 0 last rfl
  simp only [Nat.zero_mul, Nat.zero_add] at l0 l1 l2 l3
  have xl := Blk.lt H5.out.2.1.1
  go_quiet (first | (go_at_call_of 105 (Value.int .u8 (c.r.toNat : Int)); exact Calls.quiet_of_same (((HA.out _).1).mono fun _ _ ⟨h, k⟩ => ⟨h, k.symm⟩)) | (go_at_call_of 105 (Value.int .u8 (c.g.toNat : Int)); exact Calls.quiet_of_same (((HA.out _).2.1).mono fun _ _ ⟨h, k⟩ => ⟨h, k.symm⟩)) | (go_at_call_of 105 (Value.int .u8 (c.b.toNat : Int)); exact Calls.quiet_of_same (((HA.out _).2.2).mono fun _ _ ⟨h, k⟩ => ⟨h, k.symm⟩)))
  have ERG : Hid (wrap64 (r - g) = r - g) := Lib.hid (by have := RBD.out; unfold wrap64; omega)
  have EBG : Hid (wrap64 (b - g) = b - g) := Lib.hid (by have := RBD.out; unfold wrap64; omega)
  have HN : Hid (∀ w : World, (Calls Tryz.prog 106 #[.int .i64 r, .int .i64 (-2), .int .i64 1] w fun e w' => e = .returned (.bool true) ∧ w = w') ∧ (Calls Tryz.prog 106 #[.int .i64 g, .int .i64 (-2), .int .i64 1] w fun e w' => e = .returned (.bool true) ∧ w = w') ∧ (Calls Tryz.prog 106 #[.int .i64 b, .int .i64 (-2), .int .i64 1] w fun e w' => e = .returned (.bool false) ∧ w = w')) := Lib.hid (fun w => ⟨qoiWithin (decide_eq_true HF.out.1.1) w, qoiWithin (decide_eq_true HF.out.1.2.1) w, qoiWithin (decide_eq_false HF.out.1.2.2) w⟩)
  have HM : Hid (∀ w : World, (Calls Tryz.prog 106 #[.int .i64 g, .int .i64 (-32), .int .i64 31] w fun e w' => e = .returned (.bool true) ∧ w = w') ∧ (Calls Tryz.prog 106 #[.int .i64 (wrap64 (r - g)), .int .i64 (-8), .int .i64 7] w fun e w' => e = .returned (.bool true) ∧ w = w') ∧ (Calls Tryz.prog 106 #[.int .i64 (wrap64 (b - g)), .int .i64 (-8), .int .i64 7] w fun e w' => e = .returned (.bool false) ∧ w = w')) := Lib.hid (fun w => ⟨qoiWithin (decide_eq_true HF.out.2.1) w, qoiWithin (by rw [ERG.out]; exact decide_eq_true HF.out.2.2.1) w, qoiWithin (by rw [EBG.out]; exact decide_eq_false HF.out.2.2.2) w⟩)
  go_wp2_with (first | (go_at_call_of 106 (Value.int .i64 r); go_at_call_of 106 (Value.int .i64 1); refine ((HN.out _).1).mono ?_; rintro e w' ⟨rfl, rfl⟩) | (go_at_call_of 106 (Value.int .i64 g); go_at_call_of 106 (Value.int .i64 1); refine ((HN.out _).2.1).mono ?_; rintro e w' ⟨rfl, rfl⟩) | (go_at_call_of 106 (Value.int .i64 b); go_at_call_of 106 (Value.int .i64 1); refine ((HN.out _).2.2).mono ?_; rintro e w' ⟨rfl, rfl⟩) | (go_at_call_of 106 (Value.int .i64 g); go_at_call_of 106 (Value.int .i64 31); refine ((HM.out _).1).mono ?_; rintro e w' ⟨rfl, rfl⟩) | (go_at_call_of 106 (Value.int .i64 (wrap64 (r - g))); go_at_call_of 106 (Value.int .i64 7); refine ((HM.out _).2.1).mono ?_; rintro e w' ⟨rfl, rfl⟩) | (go_at_call_of 106 (Value.int .i64 (wrap64 (b - g))); go_at_call_of 106 (Value.int .i64 7); refine ((HM.out _).2.2).mono ?_; rintro e w' ⟨rfl, rfl⟩))
  go_ret
  refine ⟨⟨_, rfl, row8_new (w5.drewN nq) H5.out.2.2.size _ [254, c.r, c.g, c.b] ?_⟩, ?_⟩
  · have hf := HF.out
    have hb := RBD.out
    simp [C8]
  · exact ((show Below w.heap.size w (w5.drewN nq) from ⟨H5.out.2.2.os, H5.out.2.2.tape, H5.out.2.2.output, H5.out.2.2.size, H5.out.2.2.block⟩).alloc H5.out.2.2.size _)
end Go.Proofs.YtojobfnbakiicaaGreat
