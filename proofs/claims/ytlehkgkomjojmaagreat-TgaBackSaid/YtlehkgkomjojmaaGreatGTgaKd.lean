/- tga: a pixel's bytes. -/
import Derived.Test.YtlehkgkomjojmaaGreatSq
import Derived.Test.YtlehkgkomjojmaaGreatGTgaKb
import Derived.Test.YtlehkgkomjojmaaGreatGTgaKc
import Derived.Deep.RegionHeld3
namespace Go.Proofs.YtlehkgkomjojmaaGreat
open Go.RowKit
set_option linter.unusedVariables false
set_option linter.unusedSimpArgs false

/-- the colour of a pixel's bytes -/
def tgaPxOf (s : ByteArray) (n al : Nat) : Qc := if n = 8 then ⟨UInt8.ofNat (bat s 0), UInt8.ofNat (bat s 0), UInt8.ofNat (bat s 0), 255⟩ else tgaQb s n al
def OptPxPost (w w' : World) (q : Qc) (n al : Nat) (e : Ending) : Prop :=
 Below w.heap.size w w' ∧ ((∃ s : ByteArray, e = .returned (.tuple #[.string s, .bool false]) ∧ ¬ (n = 32 ∧ al = 8)) ∨ ∃ s : ByteArray, e = .returned (.tuple #[.string s, .bool true]) ∧ s.size = (n + 7) / 8 ∧ tgaPxOf s n al = q)
set_option maxRecDepth 100000 in
set_option maxHeartbeats 4000000 in
theorem optPx_col {q : Qc} {n al : Nat} {pk l p : Bool} {nm : ByteArray} (hc : TgaCol n) (hal : al ≤ 8) (w : World) : Calls Tryz.prog 68 #[optV pk (n : Int) (al : Int) l p nm, q.v] w fun e w' => OptPxPost w w' q n al e := by
 have HB := Lib.hid (fun w => pixBytesC (q := q) hc hal w)
 have hn8 : n ≠ 8 := by rcases hc with e | e | e | e <;> omega
 have hnI : ¬ (n : Int) = 8 := by omega
 have hsz : (n + 7) / 8 = tgaEntry n := by rcases hc with e | e | e | e <;> rw [e] <;> rfl
 have HH := Lib.hid (And.intro hn8 hsz)
 clear hn8 hsz hc
 unfold optV
 unfold Qc.v at HB ⊢
 go_enter Tryz.func68, Tryz.ntmps68
 go_wp2_with (go_at_call 119; refine (HB.out _).mono ?_; rintro e w1 ⟨b1, ⟨rfl, hno⟩ | ⟨s, rfl, hs1, hs2⟩⟩)
 ·exact bodyPost_ret (v := .tuple #[.string ⟨#[]⟩, .bool false]) (by simp [results, Tryz.results68, go_sem]) rfl ⟨below_next (((Below.refl w.heap.size w).alloc (Nat.le_refl _) _).alloc (by simp) _) b1, .inl ⟨_, rfl, hno⟩⟩
 ·exact bodyPost_ret (v := .tuple #[.string s, .bool true]) (by simp [results, Tryz.results68, go_sem]) rfl ⟨below_next (((Below.refl w.heap.size w).alloc (Nat.le_refl _) _).alloc (by simp) _) b1, .inr ⟨s, rfl, by rw [hs1, HH.out.2], by unfold tgaPxOf; rw [if_neg HH.out.1]; exact hs2⟩⟩
set_option maxRecDepth 100000 in
set_option maxHeartbeats 4000000 in
theorem optPx8_a {q : Qc} {al : Nat} {pk l p : Bool} {nm : ByteArray} (h1 : (q.r.toNat : Int) ≠ (q.g.toNat : Int)) (w : World) : Calls Tryz.prog 68 #[optV pk 8 (al : Int) l p nm, q.v] w fun e w' => OptPxPost w w' q 8 al e := by
 unfold optV
 unfold Qc.v
 obtain ⟨x, hx⟩ : ∃ x, q.r = x := ⟨_, rfl⟩
 obtain ⟨r0, f1⟩ : ∃ r1, (q.r.toNat : Int) = r1 := ⟨_, rfl⟩
 obtain ⟨g0, f2⟩ : ∃ r1, (q.g.toNat : Int) = r1 := ⟨_, rfl⟩
 obtain ⟨b0, f3⟩ : ∃ r1, (q.b.toNat : Int) = r1 := ⟨_, rfl⟩
 obtain ⟨a0, f4⟩ : ∃ r1, (q.a.toNat : Int) = r1 := ⟨_, rfl⟩
 rw [f1, f2] at h1
 have e1 : (r0 == g0) = false := by rw [beq_eq_false_iff_ne]; exact h1
 have k1 : ¬ r0 = g0 := h1
 clear h1
 have hcv0 : ∀ (wx : World), (convert 22 9 (.slice (some ⟨wx.heap.size, 0, none⟩) 1 1)).run Tryz.prog (wx.alloc (.cells #[.int .u8 (x.toNat : Int)] 5)) = .ok (.string (strOf [x])) (wx.alloc (.cells #[.int .u8 (x.toNat : Int)] 5)) := fun wx => convMade rfl [x]
 rw [← hx] at hcv0
 rw [f1] at hcv0
 rw [f1, f2, f3, f4]
 have HF := Lib.hid (And.intro f1 (And.intro f2 (And.intro f3 (And.intro f4 hx))))
 clear f1 f2 f3 f4 hx
 have O1 : Blk ((w.alloc (.cells #[.bool pk, .int .i64 8, .int .i64 (al : Int), .bool l, .bool p, .string nm] 56)).alloc (.cells #[.int .u8 r0, .int .u8 g0, .int .u8 b0, .int .u8 a0] 68)) w.heap.size 56 #[.bool pk, .int .i64 8, .int .i64 (al : Int), .bool l, .bool p, .string nm] := Blk.alloc (Blk.new _ _ _) _
 have X1 : Blk ((w.alloc (.cells #[.bool pk, .int .i64 8, .int .i64 (al : Int), .bool l, .bool p, .string nm] 56)).alloc (.cells #[.int .u8 r0, .int .u8 g0, .int .u8 b0, .int .u8 a0] 68)) (w.heap.size + 1) 68 #[.int .u8 r0, .int .u8 g0, .int .u8 b0, .int .u8 a0] := Blk.new_at _ _ _ (by simp)
 have B1 : Below w.heap.size w ((w.alloc (.cells #[.bool pk, .int .i64 8, .int .i64 (al : Int), .bool l, .bool p, .string nm] 56)).alloc (.cells #[.int .u8 r0, .int .u8 g0, .int .u8 b0, .int .u8 a0] 68)) := ((Below.refl w.heap.size w).alloc (Nat.le_refl _) _).alloc (by simp) _
 go_enter Tryz.func68, Tryz.ntmps68
 go_upto_region 1 with fail
 generalize (w.alloc (.cells #[.bool pk, .int .i64 8, .int .i64 (al : Int), .bool l, .bool p, .string nm] 56)).alloc (.cells #[.int .u8 r0, .int .u8 g0, .int .u8 b0, .int .u8 a0] 68) = w1 at O1 X1 B1 ⊢
 generalize w.heap.size + 1 = qx at X1 ⊢
 have o1 : w1.cell? ⟨w.heap.size, 1, none⟩ = some (.int .i64 8) := Blk.cell O1 1
 go_upto_region 2 with fail
 have x0 : w1.cell? ⟨qx, 0, none⟩ = some (.int .u8 r0) := Blk.cell X1 0
 have x1 : w1.cell? ⟨qx, 1, none⟩ = some (.int .u8 g0) := Blk.cell X1 1
 have x2 : w1.cell? ⟨qx, 2, none⟩ = some (.int .u8 b0) := Blk.cell X1 2
 have x3 : w1.cell? ⟨qx, 3, none⟩ = some (.int .u8 a0) := Blk.cell X1 3
 clear O1 o1
 refine wp_region_held_drew (S := (fun w9 => w9.cell? ⟨qx, 0, none⟩ = some (.int .u8 r0) ∧ w9.cell? ⟨qx, 1, none⟩ = some (.int .u8 g0) ∧ w9.cell? ⟨qx, 2, none⟩ = some (.int .u8 b0) ∧ w9.cell? ⟨qx, 3, none⟩ = some (.int .u8 a0))) (by kernel_rfl) ⟨x0, x1, x2, x3⟩ (fun hHeld => ?_)
 have X2 : Blk w1.drew qx 68 #[.int .u8 r0, .int .u8 g0, .int .u8 b0, .int .u8 a0] := Blk.drew X1
 have B2 := B1.drew
 clear X1 B1 x0 x1 x2 x3
 generalize w1.drew = w2 at X2 B2 hHeld ⊢
 refine tk 0 ?_
 (try simp only [sps])
 refine tk 1 ?_
 (try simp only [sps])
 refine tk 4 ?_
 (try simp only [sps])
 refine tk 5 ?_
 (try simp only [sps])
 refine tk 6 ?_
 (try simp only [sps])
 refine tk 7 ?_
 (try simp only [sps])
 refine tk 8 ?_
 (try simp only [sps])
 refine tk 9 ?_
 (try simp only [sps])
 refine wpAnyH_take (i := 10) (v := undef) rfl (by kernel_rfl) (by kernel_rfl) (by kernel_rfl) (fun _ _ _ h => h) (Or.inr ⟨by kernel_rfl, rfl⟩) (by assumption) ?_
 (try simp only [sps])
 refine wpAnyH_take (i := 11) (v := undef) rfl (by kernel_rfl) (by kernel_rfl) (by kernel_rfl) (fun _ _ _ h => h) (Or.inr ⟨by kernel_rfl, rfl⟩) (by assumption) ?_
 (try simp only [sps])
 refine wpAnyH_take (i := 12) (v := undef) rfl (by kernel_rfl) (by kernel_rfl) (by kernel_rfl) (fun _ _ _ h => h) (Or.inr ⟨by kernel_rfl, rfl⟩) (by assumption) ?_
 (try simp only [sps])
 refine wpAnyH_take (i := 13) (v := undef) rfl (by kernel_rfl) (by kernel_rfl) (by kernel_rfl) (fun _ _ _ h => h) (Or.inr ⟨by kernel_rfl, rfl⟩) (by assumption) ?_
 (try simp only [sps])
 refine wpAnyH_take (i := 14) (v := undef) rfl (by kernel_rfl) (by kernel_rfl) (by kernel_rfl) (fun _ _ _ h => h) (Or.inr ⟨by kernel_rfl, rfl⟩) (by assumption) ?_
 (try simp only [sps])
 refine tk 15 ?_
 (try simp only [sps])
 refine tk 16 ?_
 (try simp only [sps])
 refine wpAnyH_take (i := 17) (v := undef) rfl (by kernel_rfl) (by kernel_rfl) (by kernel_rfl) (fun _ _ _ h => h) (Or.inr ⟨by kernel_rfl, rfl⟩) (by assumption) ?_
 (try simp only [sps])
 refine wpAnyH_take (i := 18) (v := undef) rfl (by kernel_rfl) (by kernel_rfl) (by kernel_rfl) (fun _ _ _ h => h) (Or.inr ⟨by kernel_rfl, rfl⟩) (by assumption) ?_
 (try simp only [sps])
 refine wpAnyH_take (i := 19) (v := undef) rfl (by kernel_rfl) (by kernel_rfl) (by kernel_rfl) (fun _ _ _ h => h) (Or.inr ⟨by kernel_rfl, rfl⟩) (by assumption) ?_
 (try simp only [sps])
 refine tk 20 ?_
 (try simp only [sps])
 refine rdy 2 (fun K hK => ?_)
 go_simp
 have X3 : Blk (w2.alloc (.cells #[.int .u8 r0] 5)) qx 68 #[.int .u8 r0, .int .u8 g0, .int .u8 b0, .int .u8 a0] := Blk.alloc X2 _
 have B3 : Below w.heap.size w (w2.alloc (.cells #[.int .u8 r0] 5)) := B2.alloc B2.size _
 have hcv := hcv0 w2
 refine hK.out _ _ ⟨Blk.cell X3 0, Blk.cell X3 1, Blk.cell X3 2, Blk.cell X3 3⟩ ?_
 clear hK K hHeld
 intro hHeld
 (try simp only [sps])
 refine rdy 3 (fun K hK => ?_)
 go_simp
 refine hK.out _ _ ⟨Blk.cell X3 0, Blk.cell X3 1, Blk.cell X3 2, Blk.cell X3 3⟩ ?_
 clear hK K hHeld
 intro hHeld
 (try simp only [sps])
 refine tk 21 ?_
 (try simp only [sps])
 refine tk 22 ?_
 (try simp only [sps])
 refine wpAnyH_done (by kernel_rfl) ?_ _
 (try simp only [sps])
 go_wp2_with fail
 exact bodyPost_ret (v := .tuple #[.string (strOf [q.r]), .bool false]) (by simp [results, Tryz.results68, go_sem]) rfl ⟨B3, .inl ⟨_, rfl, fun e => absurd e.1 (by decide)⟩⟩
set_option maxRecDepth 100000 in
set_option maxHeartbeats 4000000 in
theorem optPx8_b {q : Qc} {al : Nat} {pk l p : Bool} {nm : ByteArray} (h1 : (q.r.toNat : Int) = (q.g.toNat : Int)) (h2 : (q.g.toNat : Int) ≠ (q.b.toNat : Int)) (w : World) : Calls Tryz.prog 68 #[optV pk 8 (al : Int) l p nm, q.v] w fun e w' => OptPxPost w w' q 8 al e := by
 unfold optV
 unfold Qc.v
 obtain ⟨x, hx⟩ : ∃ x, q.r = x := ⟨_, rfl⟩
 obtain ⟨r0, f1⟩ : ∃ r1, (q.r.toNat : Int) = r1 := ⟨_, rfl⟩
 obtain ⟨g0, f2⟩ : ∃ r1, (q.g.toNat : Int) = r1 := ⟨_, rfl⟩
 obtain ⟨b0, f3⟩ : ∃ r1, (q.b.toNat : Int) = r1 := ⟨_, rfl⟩
 obtain ⟨a0, f4⟩ : ∃ r1, (q.a.toNat : Int) = r1 := ⟨_, rfl⟩
 rw [f1, f2] at h1
 rw [f2, f3] at h2
 subst h1
 have e2 : (r0 == b0) = false := by rw [beq_eq_false_iff_ne]; exact h2
 have k2 : ¬ r0 = b0 := h2
 clear h2
 have hcv0 : ∀ (wx : World), (convert 22 9 (.slice (some ⟨wx.heap.size, 0, none⟩) 1 1)).run Tryz.prog (wx.alloc (.cells #[.int .u8 (x.toNat : Int)] 5)) = .ok (.string (strOf [x])) (wx.alloc (.cells #[.int .u8 (x.toNat : Int)] 5)) := fun wx => convMade rfl [x]
 rw [← hx] at hcv0
 rw [f1] at hcv0
 rw [f1, f2, f3, f4]
 have HF := Lib.hid (And.intro f1 (And.intro f2 (And.intro f3 (And.intro f4 hx))))
 clear f1 f2 f3 f4 hx
 have O1 : Blk ((w.alloc (.cells #[.bool pk, .int .i64 8, .int .i64 (al : Int), .bool l, .bool p, .string nm] 56)).alloc (.cells #[.int .u8 r0, .int .u8 r0, .int .u8 b0, .int .u8 a0] 68)) w.heap.size 56 #[.bool pk, .int .i64 8, .int .i64 (al : Int), .bool l, .bool p, .string nm] := Blk.alloc (Blk.new _ _ _) _
 have X1 : Blk ((w.alloc (.cells #[.bool pk, .int .i64 8, .int .i64 (al : Int), .bool l, .bool p, .string nm] 56)).alloc (.cells #[.int .u8 r0, .int .u8 r0, .int .u8 b0, .int .u8 a0] 68)) (w.heap.size + 1) 68 #[.int .u8 r0, .int .u8 r0, .int .u8 b0, .int .u8 a0] := Blk.new_at _ _ _ (by simp)
 have B1 : Below w.heap.size w ((w.alloc (.cells #[.bool pk, .int .i64 8, .int .i64 (al : Int), .bool l, .bool p, .string nm] 56)).alloc (.cells #[.int .u8 r0, .int .u8 r0, .int .u8 b0, .int .u8 a0] 68)) := ((Below.refl w.heap.size w).alloc (Nat.le_refl _) _).alloc (by simp) _
 go_enter Tryz.func68, Tryz.ntmps68
 go_upto_region 1 with fail
 generalize (w.alloc (.cells #[.bool pk, .int .i64 8, .int .i64 (al : Int), .bool l, .bool p, .string nm] 56)).alloc (.cells #[.int .u8 r0, .int .u8 r0, .int .u8 b0, .int .u8 a0] 68) = w1 at O1 X1 B1 ⊢
 generalize w.heap.size + 1 = qx at X1 ⊢
 have o1 : w1.cell? ⟨w.heap.size, 1, none⟩ = some (.int .i64 8) := Blk.cell O1 1
 go_upto_region 2 with fail
 have x0 : w1.cell? ⟨qx, 0, none⟩ = some (.int .u8 r0) := Blk.cell X1 0
 have x1 : w1.cell? ⟨qx, 1, none⟩ = some (.int .u8 r0) := Blk.cell X1 1
 have x2 : w1.cell? ⟨qx, 2, none⟩ = some (.int .u8 b0) := Blk.cell X1 2
 have x3 : w1.cell? ⟨qx, 3, none⟩ = some (.int .u8 a0) := Blk.cell X1 3
 clear O1 o1
 refine wp_region_held_drew (S := (fun w9 => w9.cell? ⟨qx, 0, none⟩ = some (.int .u8 r0) ∧ w9.cell? ⟨qx, 1, none⟩ = some (.int .u8 r0) ∧ w9.cell? ⟨qx, 2, none⟩ = some (.int .u8 b0) ∧ w9.cell? ⟨qx, 3, none⟩ = some (.int .u8 a0))) (by kernel_rfl) ⟨x0, x1, x2, x3⟩ (fun hHeld => ?_)
 have X2 : Blk w1.drew qx 68 #[.int .u8 r0, .int .u8 r0, .int .u8 b0, .int .u8 a0] := Blk.drew X1
 have B2 := B1.drew
 clear X1 B1 x0 x1 x2 x3
 generalize w1.drew = w2 at X2 B2 hHeld ⊢
 refine tk 0 ?_
 (try simp only [sps])
 refine tk 1 ?_
 (try simp only [sps])
 refine tk 4 ?_
 (try simp only [sps])
 refine tk 5 ?_
 (try simp only [sps])
 refine tk 6 ?_
 (try simp only [sps])
 refine tk 7 ?_
 (try simp only [sps])
 refine tk 8 ?_
 (try simp only [sps])
 refine tk 9 ?_
 (try simp only [sps])
 refine tk 10 ?_
 (try simp only [sps])
 refine tk 11 ?_
 (try simp only [sps])
 refine tk 12 ?_
 (try simp only [sps])
 refine tk 13 ?_
 (try simp only [sps])
 refine tk 14 ?_
 (try simp only [sps])
 refine tk 15 ?_
 (try simp only [sps])
 refine tk 16 ?_
 (try simp only [sps])
 refine wpAnyH_take (i := 17) (v := undef) rfl (by kernel_rfl) (by kernel_rfl) (by kernel_rfl) (fun _ _ _ h => h) (Or.inr ⟨by kernel_rfl, rfl⟩) (by assumption) ?_
 (try simp only [sps])
 refine wpAnyH_take (i := 18) (v := undef) rfl (by kernel_rfl) (by kernel_rfl) (by kernel_rfl) (fun _ _ _ h => h) (Or.inr ⟨by kernel_rfl, rfl⟩) (by assumption) ?_
 (try simp only [sps])
 refine wpAnyH_take (i := 19) (v := undef) rfl (by kernel_rfl) (by kernel_rfl) (by kernel_rfl) (fun _ _ _ h => h) (Or.inr ⟨by kernel_rfl, rfl⟩) (by assumption) ?_
 (try simp only [sps])
 refine tk 20 ?_
 (try simp only [sps])
 refine rdy 2 (fun K hK => ?_)
 go_simp
 have X3 : Blk (w2.alloc (.cells #[.int .u8 r0] 5)) qx 68 #[.int .u8 r0, .int .u8 r0, .int .u8 b0, .int .u8 a0] := Blk.alloc X2 _
 have B3 : Below w.heap.size w (w2.alloc (.cells #[.int .u8 r0] 5)) := B2.alloc B2.size _
 have hcv := hcv0 w2
 refine hK.out _ _ ⟨Blk.cell X3 0, Blk.cell X3 1, Blk.cell X3 2, Blk.cell X3 3⟩ ?_
 clear hK K hHeld
 intro hHeld
 (try simp only [sps])
 refine rdy 3 (fun K hK => ?_)
 go_simp
 refine hK.out _ _ ⟨Blk.cell X3 0, Blk.cell X3 1, Blk.cell X3 2, Blk.cell X3 3⟩ ?_
 clear hK K hHeld
 intro hHeld
 (try simp only [sps])
 refine tk 21 ?_
 (try simp only [sps])
 refine tk 22 ?_
 (try simp only [sps])
 refine wpAnyH_done (by kernel_rfl) ?_ _
 (try simp only [sps])
 go_wp2_with fail
 exact bodyPost_ret (v := .tuple #[.string (strOf [q.r]), .bool false]) (by simp [results, Tryz.results68, go_sem]) rfl ⟨B3, .inl ⟨_, rfl, fun e => absurd e.1 (by decide)⟩⟩
set_option maxRecDepth 100000 in
set_option maxHeartbeats 4000000 in
theorem optPx8_c {q : Qc} {al : Nat} {pk l p : Bool} {nm : ByteArray} (h1 : (q.r.toNat : Int) = (q.g.toNat : Int)) (h2 : (q.g.toNat : Int) = (q.b.toNat : Int)) (h3 : (q.a.toNat : Int) ≠ 255) (w : World) : Calls Tryz.prog 68 #[optV pk 8 (al : Int) l p nm, q.v] w fun e w' => OptPxPost w w' q 8 al e := by
 unfold optV
 unfold Qc.v
 obtain ⟨x, hx⟩ : ∃ x, q.r = x := ⟨_, rfl⟩
 obtain ⟨r0, f1⟩ : ∃ r1, (q.r.toNat : Int) = r1 := ⟨_, rfl⟩
 obtain ⟨g0, f2⟩ : ∃ r1, (q.g.toNat : Int) = r1 := ⟨_, rfl⟩
 obtain ⟨b0, f3⟩ : ∃ r1, (q.b.toNat : Int) = r1 := ⟨_, rfl⟩
 obtain ⟨a0, f4⟩ : ∃ r1, (q.a.toNat : Int) = r1 := ⟨_, rfl⟩
 rw [f1, f2] at h1
 rw [f2, f3] at h2
 rw [f4] at h3
 subst h1
 subst h2
 have k3 : ¬ a0 = 255 := h3
 have e3 : (a0 == 255) = false := by rw [beq_eq_false_iff_ne]; exact h3
 clear h3
 have hcv0 : ∀ (wx : World), (convert 22 9 (.slice (some ⟨wx.heap.size, 0, none⟩) 1 1)).run Tryz.prog (wx.alloc (.cells #[.int .u8 (x.toNat : Int)] 5)) = .ok (.string (strOf [x])) (wx.alloc (.cells #[.int .u8 (x.toNat : Int)] 5)) := fun wx => convMade rfl [x]
 rw [← hx] at hcv0
 rw [f1] at hcv0
 rw [f1, f2, f3, f4]
 have HF := Lib.hid (And.intro f1 (And.intro f2 (And.intro f3 (And.intro f4 hx))))
 clear f1 f2 f3 f4 hx
 have O1 : Blk ((w.alloc (.cells #[.bool pk, .int .i64 8, .int .i64 (al : Int), .bool l, .bool p, .string nm] 56)).alloc (.cells #[.int .u8 r0, .int .u8 r0, .int .u8 r0, .int .u8 a0] 68)) w.heap.size 56 #[.bool pk, .int .i64 8, .int .i64 (al : Int), .bool l, .bool p, .string nm] := Blk.alloc (Blk.new _ _ _) _
 have X1 : Blk ((w.alloc (.cells #[.bool pk, .int .i64 8, .int .i64 (al : Int), .bool l, .bool p, .string nm] 56)).alloc (.cells #[.int .u8 r0, .int .u8 r0, .int .u8 r0, .int .u8 a0] 68)) (w.heap.size + 1) 68 #[.int .u8 r0, .int .u8 r0, .int .u8 r0, .int .u8 a0] := Blk.new_at _ _ _ (by simp)
 have B1 : Below w.heap.size w ((w.alloc (.cells #[.bool pk, .int .i64 8, .int .i64 (al : Int), .bool l, .bool p, .string nm] 56)).alloc (.cells #[.int .u8 r0, .int .u8 r0, .int .u8 r0, .int .u8 a0] 68)) := ((Below.refl w.heap.size w).alloc (Nat.le_refl _) _).alloc (by simp) _
 go_enter Tryz.func68, Tryz.ntmps68
 go_upto_region 1 with fail
 generalize (w.alloc (.cells #[.bool pk, .int .i64 8, .int .i64 (al : Int), .bool l, .bool p, .string nm] 56)).alloc (.cells #[.int .u8 r0, .int .u8 r0, .int .u8 r0, .int .u8 a0] 68) = w1 at O1 X1 B1 ⊢
 generalize w.heap.size + 1 = qx at X1 ⊢
 have o1 : w1.cell? ⟨w.heap.size, 1, none⟩ = some (.int .i64 8) := Blk.cell O1 1
 go_upto_region 2 with fail
 have x0 : w1.cell? ⟨qx, 0, none⟩ = some (.int .u8 r0) := Blk.cell X1 0
 have x1 : w1.cell? ⟨qx, 1, none⟩ = some (.int .u8 r0) := Blk.cell X1 1
 have x2 : w1.cell? ⟨qx, 2, none⟩ = some (.int .u8 r0) := Blk.cell X1 2
 have x3 : w1.cell? ⟨qx, 3, none⟩ = some (.int .u8 a0) := Blk.cell X1 3
 clear O1 o1
 refine wp_region_held_drew (S := (fun w9 => w9.cell? ⟨qx, 0, none⟩ = some (.int .u8 r0) ∧ w9.cell? ⟨qx, 1, none⟩ = some (.int .u8 r0) ∧ w9.cell? ⟨qx, 2, none⟩ = some (.int .u8 r0) ∧ w9.cell? ⟨qx, 3, none⟩ = some (.int .u8 a0))) (by kernel_rfl) ⟨x0, x1, x2, x3⟩ (fun hHeld => ?_)
 have X2 : Blk w1.drew qx 68 #[.int .u8 r0, .int .u8 r0, .int .u8 r0, .int .u8 a0] := Blk.drew X1
 have B2 := B1.drew
 clear X1 B1 x0 x1 x2 x3
 generalize w1.drew = w2 at X2 B2 hHeld ⊢
 refine tk 0 ?_
 (try simp only [sps])
 refine tk 1 ?_
 (try simp only [sps])
 refine tk 4 ?_
 (try simp only [sps])
 refine tk 5 ?_
 (try simp only [sps])
 refine tk 6 ?_
 (try simp only [sps])
 refine tk 7 ?_
 (try simp only [sps])
 refine tk 8 ?_
 (try simp only [sps])
 refine tk 9 ?_
 (try simp only [sps])
 refine tk 10 ?_
 (try simp only [sps])
 refine tk 11 ?_
 (try simp only [sps])
 refine tk 12 ?_
 (try simp only [sps])
 refine tk 13 ?_
 (try simp only [sps])
 refine tk 14 ?_
 (try simp only [sps])
 refine tk 15 ?_
 (try simp only [sps])
 refine tk 16 ?_
 (try simp only [sps])
 refine tk 17 ?_
 (try simp only [sps])
 refine tk 18 ?_
 (try simp only [sps])
 refine tk 19 ?_
 (try simp only [sps])
 refine tk 20 ?_
 (try simp only [sps])
 refine rdy 2 (fun K hK => ?_)
 go_simp
 have X3 : Blk (w2.alloc (.cells #[.int .u8 r0] 5)) qx 68 #[.int .u8 r0, .int .u8 r0, .int .u8 r0, .int .u8 a0] := Blk.alloc X2 _
 have B3 : Below w.heap.size w (w2.alloc (.cells #[.int .u8 r0] 5)) := B2.alloc B2.size _
 have hcv := hcv0 w2
 refine hK.out _ _ ⟨Blk.cell X3 0, Blk.cell X3 1, Blk.cell X3 2, Blk.cell X3 3⟩ ?_
 clear hK K hHeld
 intro hHeld
 (try simp only [sps])
 refine rdy 3 (fun K hK => ?_)
 go_simp
 refine hK.out _ _ ⟨Blk.cell X3 0, Blk.cell X3 1, Blk.cell X3 2, Blk.cell X3 3⟩ ?_
 clear hK K hHeld
 intro hHeld
 (try simp only [sps])
 refine tk 21 ?_
 (try simp only [sps])
 refine tk 22 ?_
 (try simp only [sps])
 refine wpAnyH_done (by kernel_rfl) ?_ _
 (try simp only [sps])
 go_wp2_with fail
 exact bodyPost_ret (v := .tuple #[.string (strOf [q.r]), .bool false]) (by simp [results, Tryz.results68, go_sem]) rfl ⟨B3, .inl ⟨_, rfl, fun e => absurd e.1 (by decide)⟩⟩
set_option maxRecDepth 100000 in
set_option maxHeartbeats 4000000 in
theorem optPx8_d {q : Qc} {al : Nat} {pk l p : Bool} {nm : ByteArray} (h1 : (q.r.toNat : Int) = (q.g.toNat : Int)) (h2 : (q.g.toNat : Int) = (q.b.toNat : Int)) (h3 : (q.a.toNat : Int) = 255) (w : World) : Calls Tryz.prog 68 #[optV pk 8 (al : Int) l p nm, q.v] w fun e w' => OptPxPost w w' q 8 al e := by
 unfold optV
 unfold Qc.v
 obtain ⟨x, hx⟩ : ∃ x, q.r = x := ⟨_, rfl⟩
 obtain ⟨r0, f1⟩ : ∃ r1, (q.r.toNat : Int) = r1 := ⟨_, rfl⟩
 obtain ⟨g0, f2⟩ : ∃ r1, (q.g.toNat : Int) = r1 := ⟨_, rfl⟩
 obtain ⟨b0, f3⟩ : ∃ r1, (q.b.toNat : Int) = r1 := ⟨_, rfl⟩
 obtain ⟨a0, f4⟩ : ∃ r1, (q.a.toNat : Int) = r1 := ⟨_, rfl⟩
 have HQ : Hid (q = ⟨q.r, q.r, q.r, 255⟩) := Lib.hid (by obtain ⟨r, g, b, a⟩ := q; simp only at h1 h2 h3 ⊢; have g1 : g = r := UInt8.toNat_inj.1 (by omega); have g2 : b = r := UInt8.toNat_inj.1 (by omega); have g3 : a = 255 := UInt8.toNat_inj.1 (by show a.toNat = 255; omega); rw [g1, g2, g3])
 rw [f1, f2] at h1
 rw [f2, f3] at h2
 rw [f4] at h3
 subst h1
 subst h2
 subst h3
 have hcv0 : ∀ (wx : World), (convert 22 9 (.slice (some ⟨wx.heap.size, 0, none⟩) 1 1)).run Tryz.prog (wx.alloc (.cells #[.int .u8 (x.toNat : Int)] 5)) = .ok (.string (strOf [x])) (wx.alloc (.cells #[.int .u8 (x.toNat : Int)] 5)) := fun wx => convMade rfl [x]
 rw [← hx] at hcv0
 rw [f1] at hcv0
 rw [f1, f2, f3, f4]
 have HF := Lib.hid (And.intro f1 (And.intro f2 (And.intro f3 (And.intro f4 hx))))
 clear f1 f2 f3 f4 hx
 have O1 : Blk ((w.alloc (.cells #[.bool pk, .int .i64 8, .int .i64 (al : Int), .bool l, .bool p, .string nm] 56)).alloc (.cells #[.int .u8 r0, .int .u8 r0, .int .u8 r0, .int .u8 255] 68)) w.heap.size 56 #[.bool pk, .int .i64 8, .int .i64 (al : Int), .bool l, .bool p, .string nm] := Blk.alloc (Blk.new _ _ _) _
 have X1 : Blk ((w.alloc (.cells #[.bool pk, .int .i64 8, .int .i64 (al : Int), .bool l, .bool p, .string nm] 56)).alloc (.cells #[.int .u8 r0, .int .u8 r0, .int .u8 r0, .int .u8 255] 68)) (w.heap.size + 1) 68 #[.int .u8 r0, .int .u8 r0, .int .u8 r0, .int .u8 255] := Blk.new_at _ _ _ (by simp)
 have B1 : Below w.heap.size w ((w.alloc (.cells #[.bool pk, .int .i64 8, .int .i64 (al : Int), .bool l, .bool p, .string nm] 56)).alloc (.cells #[.int .u8 r0, .int .u8 r0, .int .u8 r0, .int .u8 255] 68)) := ((Below.refl w.heap.size w).alloc (Nat.le_refl _) _).alloc (by simp) _
 go_enter Tryz.func68, Tryz.ntmps68
 go_upto_region 1 with fail
 generalize (w.alloc (.cells #[.bool pk, .int .i64 8, .int .i64 (al : Int), .bool l, .bool p, .string nm] 56)).alloc (.cells #[.int .u8 r0, .int .u8 r0, .int .u8 r0, .int .u8 255] 68) = w1 at O1 X1 B1 ⊢
 generalize w.heap.size + 1 = qx at X1 ⊢
 have o1 : w1.cell? ⟨w.heap.size, 1, none⟩ = some (.int .i64 8) := Blk.cell O1 1
 go_upto_region 2 with fail
 have x0 : w1.cell? ⟨qx, 0, none⟩ = some (.int .u8 r0) := Blk.cell X1 0
 have x1 : w1.cell? ⟨qx, 1, none⟩ = some (.int .u8 r0) := Blk.cell X1 1
 have x2 : w1.cell? ⟨qx, 2, none⟩ = some (.int .u8 r0) := Blk.cell X1 2
 have x3 : w1.cell? ⟨qx, 3, none⟩ = some (.int .u8 255) := Blk.cell X1 3
 clear O1 o1
 refine wp_region_held_drew (S := (fun w9 => w9.cell? ⟨qx, 0, none⟩ = some (.int .u8 r0) ∧ w9.cell? ⟨qx, 1, none⟩ = some (.int .u8 r0) ∧ w9.cell? ⟨qx, 2, none⟩ = some (.int .u8 r0) ∧ w9.cell? ⟨qx, 3, none⟩ = some (.int .u8 255))) (by kernel_rfl) ⟨x0, x1, x2, x3⟩ (fun hHeld => ?_)
 have X2 : Blk w1.drew qx 68 #[.int .u8 r0, .int .u8 r0, .int .u8 r0, .int .u8 255] := Blk.drew X1
 have B2 := B1.drew
 clear X1 B1 x0 x1 x2 x3
 generalize w1.drew = w2 at X2 B2 hHeld ⊢
 refine tk 0 ?_
 (try simp only [sps])
 refine tk 1 ?_
 (try simp only [sps])
 refine tk 4 ?_
 (try simp only [sps])
 refine tk 5 ?_
 (try simp only [sps])
 refine tk 6 ?_
 (try simp only [sps])
 refine tk 7 ?_
 (try simp only [sps])
 refine tk 8 ?_
 (try simp only [sps])
 refine tk 9 ?_
 (try simp only [sps])
 refine tk 10 ?_
 (try simp only [sps])
 refine tk 11 ?_
 (try simp only [sps])
 refine tk 12 ?_
 (try simp only [sps])
 refine tk 13 ?_
 (try simp only [sps])
 refine tk 14 ?_
 (try simp only [sps])
 refine tk 15 ?_
 (try simp only [sps])
 refine tk 16 ?_
 (try simp only [sps])
 refine tk 17 ?_
 (try simp only [sps])
 refine tk 18 ?_
 (try simp only [sps])
 refine tk 19 ?_
 (try simp only [sps])
 refine tk 20 ?_
 (try simp only [sps])
 refine rdy 2 (fun K hK => ?_)
 go_simp
 have X3 : Blk (w2.alloc (.cells #[.int .u8 r0] 5)) qx 68 #[.int .u8 r0, .int .u8 r0, .int .u8 r0, .int .u8 255] := Blk.alloc X2 _
 have B3 : Below w.heap.size w (w2.alloc (.cells #[.int .u8 r0] 5)) := B2.alloc B2.size _
 have hcv := hcv0 w2
 refine hK.out _ _ ⟨Blk.cell X3 0, Blk.cell X3 1, Blk.cell X3 2, Blk.cell X3 3⟩ ?_
 clear hK K hHeld
 intro hHeld
 (try simp only [sps])
 refine rdy 3 (fun K hK => ?_)
 go_simp
 refine hK.out _ _ ⟨Blk.cell X3 0, Blk.cell X3 1, Blk.cell X3 2, Blk.cell X3 3⟩ ?_
 clear hK K hHeld
 intro hHeld
 (try simp only [sps])
 refine tk 21 ?_
 (try simp only [sps])
 refine tk 22 ?_
 (try simp only [sps])
 refine wpAnyH_done (by kernel_rfl) ?_ _
 (try simp only [sps])
 go_wp2_with fail
 exact bodyPost_ret (v := .tuple #[.string (strOf [q.r]), .bool true]) (by simp [results, Tryz.results68, go_sem]) rfl ⟨B3, .inr ⟨_, rfl, rfl, by unfold tgaPxOf; rw [if_pos rfl]; rw [show bat (strOf [q.r]) 0 = q.r.toNat from rfl, UInt8.ofNat_toNat]; exact HQ.out.symm⟩⟩
theorem optPxC {q : Qc} {n al : Nat} {pk l p : Bool} {nm : ByteArray} (hc : n = 8 ∨ TgaCol n) (hal : al ≤ 8) (w : World) : Calls Tryz.prog 68 #[optV pk (n : Int) (al : Int) l p nm, q.v] w fun e w' => OptPxPost w w' q n al e := by
 rcases hc with rfl | hc
 ·by_cases h1 : (q.r.toNat : Int) = (q.g.toNat : Int)
  ·by_cases h2 : (q.g.toNat : Int) = (q.b.toNat : Int)
   ·by_cases h3 : (q.a.toNat : Int) = 255
    ·exact optPx8_d h1 h2 h3 w
    ·exact optPx8_c h1 h2 h3 w
   ·exact optPx8_b h1 h2 w
  ·exact optPx8_a h1 w
 ·exact optPx_col hc hal w
end Go.Proofs.YtlehkgkomjojmaaGreat
