/- tgapix.Bytes: a colour's bytes, if they are it again. -/
import Derived.Test.YtlehkgkomjojmaaGreatGTgaKb
namespace Go.Proofs.YtlehkgkomjojmaaGreat
open Go.RowKit
set_option linter.unusedVariables false
set_option linter.unusedSimpArgs false

theorem qc_ints {q' q : Qc} {r1 g1 b1 a1 r0 g0 b0 a0 : Int} (h1 : (q'.r.toNat : Int) = r1) (h2 : (q'.g.toNat : Int) = g1) (h3 : (q'.b.toNat : Int) = b1) (h4 : (q'.a.toNat : Int) = a1) (k1 : (q.r.toNat : Int) = r0) (k2 : (q.g.toNat : Int) = g0) (k3 : (q.b.toNat : Int) = b0) (k4 : (q.a.toNat : Int) = a0) : q' = q ↔ (r1 = r0 ∧ g1 = g0 ∧ b1 = b0 ∧ a1 = a0) := by
 constructor
 ·rintro rfl; exact ⟨h1.symm.trans k1, h2.symm.trans k2, h3.symm.trans k3, h4.symm.trans k4⟩
 ·rintro ⟨e1, e2, e3, e4⟩
  obtain ⟨r', g', b', a'⟩ := q'
  obtain ⟨r, g, b, a⟩ := q
  simp only at h1 h2 h3 h4 k1 k2 k3 k4
  have f1 : r' = r := UInt8.toNat_inj.1 (by omega)
  have f2 : g' = g := UInt8.toNat_inj.1 (by omega)
  have f3 : b' = b := UInt8.toNat_inj.1 (by omega)
  have f4 : a' = a := UInt8.toNat_inj.1 (by omega)
  rw [f1, f2, f3, f4]
def PixBPost (w w' : World) (q : Qc) (n al : Nat) (e : Ending) : Prop :=
 Below w.heap.size w w' ∧ ((e = .returned (.tuple #[.string ⟨#[]⟩, .bool false]) ∧ ¬ (n = 32 ∧ al = 8)) ∨ ∃ s : ByteArray, e = .returned (.tuple #[.string s, .bool true]) ∧ s.size = tgaEntry n ∧ tgaQb s n al = q)
set_option maxRecDepth 100000 in
set_option maxHeartbeats 4000000 in
theorem pixBytes_24 {q : Qc} {al : Nat} (hal : al ≤ 8) (w : World) : Calls Tryz.prog 119 #[q.v, .int .i64 24, .int .i64 (al : Int)] w fun e w' => PixBPost w w' q 24 al e := by
 unfold Qc.v
 obtain ⟨s, hs⟩ : ∃ s, strOf [q.b, q.g, q.r] = s := ⟨_, rfl⟩
 have hsz : s.size = 3 := by rw [← hs]; rfl
 obtain ⟨q', hq'⟩ : ∃ q', tgaQb s 24 al = q' := ⟨_, rfl⟩
 have HC0 := fun w => tgaColorC (b := s) (n := 24) (al := al) (by decide) (by rw [hsz]; decide) (by rw [hsz]; decide) hq' w
 unfold Qc.v at HC0
 have h32 : al = 8 → q' = q ∨ 24 ≠ 32 := by
  intro _; exact .inr (by decide)
 have hcv : (convert 22 9 (.slice (some ⟨w.heap.size + 1, 0, none⟩) 3 3)).run Tryz.prog ((w.alloc (.cells #[.int .u8 (q.r.toNat : Int), .int .u8 (q.g.toNat : Int), .int .u8 (q.b.toNat : Int), .int .u8 (q.a.toNat : Int)] 68)).alloc (.cells (C8 [q.b, q.g, q.r]).toArray 5)) = .ok (.string (strOf [q.b, q.g, q.r])) ((w.alloc (.cells #[.int .u8 (q.r.toNat : Int), .int .u8 (q.g.toNat : Int), .int .u8 (q.b.toNat : Int), .int .u8 (q.a.toNat : Int)] 68)).alloc (.cells (C8 [q.b, q.g, q.r]).toArray 5)) := convMade (by simp) [q.b, q.g, q.r]
 rw [hs, show (C8 [q.b, q.g, q.r]).toArray = #[.int .u8 (q.b.toNat : Int), .int .u8 (q.g.toNat : Int), .int .u8 (q.r.toNat : Int)] from rfl] at hcv
 obtain ⟨r1, e1⟩ : ∃ r1, (q'.r.toNat : Int) = r1 := ⟨_, rfl⟩
 obtain ⟨g1, e2⟩ : ∃ r1, (q'.g.toNat : Int) = r1 := ⟨_, rfl⟩
 obtain ⟨b1, e3⟩ : ∃ r1, (q'.b.toNat : Int) = r1 := ⟨_, rfl⟩
 obtain ⟨a1, e4⟩ : ∃ r1, (q'.a.toNat : Int) = r1 := ⟨_, rfl⟩
 obtain ⟨r0, f1⟩ : ∃ r1, (q.r.toNat : Int) = r1 := ⟨_, rfl⟩
 obtain ⟨g0, f2⟩ : ∃ r1, (q.g.toNat : Int) = r1 := ⟨_, rfl⟩
 obtain ⟨b0, f3⟩ : ∃ r1, (q.b.toNat : Int) = r1 := ⟨_, rfl⟩
 obtain ⟨a0, f4⟩ : ∃ r1, (q.a.toNat : Int) = r1 := ⟨_, rfl⟩
 have hiff := Lib.hid (qc_ints e1 e2 e3 e4 f1 f2 f3 f4)
 rw [f1, f2, f3, f4] at hcv ⊢
 simp only [e1, e2, e3, e4] at HC0
 have HC := Lib.hid HC0
 have HQ := Lib.hid (And.intro hq' (And.intro hsz h32))
 clear HC0 hq' hs hsz h32 e1 e2 e3 e4 f1 f2 f3 f4
 go_enter Tryz.func119, Tryz.ntmps119
 go_upto_region 11 with (go_at_call 171; refine (HC.out _).mono ?_; rintro e w3 ⟨rfl, b3⟩)
 have hsz3 := b3.size
 have X4 : Blk (w3.alloc (.cells #[.int .u8 r1, .int .u8 g1, .int .u8 b1, .int .u8 a1] 68)) w.heap.size 68 #[.int .u8 r0, .int .u8 g0, .int .u8 b0, .int .u8 a0] := Blk.alloc (Blk.below (Blk.alloc (Blk.new _ _ _) _) b3 (by simp; omega)) _
 have Y4 : Blk (w3.alloc (.cells #[.int .u8 r1, .int .u8 g1, .int .u8 b1, .int .u8 a1] 68)) w3.heap.size 68 #[.int .u8 r1, .int .u8 g1, .int .u8 b1, .int .u8 a1] := Blk.new _ _ _
 have B4 : Below w.heap.size w (w3.alloc (.cells #[.int .u8 r1, .int .u8 g1, .int .u8 b1, .int .u8 a1] 68)) := by
  have B := below_next (((Below.refl w.heap.size w).alloc (Nat.le_refl _) _).alloc (by simp) _) b3
  exact B.alloc B.size _
 clear b3 hsz3 hcv
 generalize w3.alloc (.cells #[.int .u8 r1, .int .u8 g1, .int .u8 b1, .int .u8 a1] 68) = w4 at X4 Y4 B4 ⊢
 generalize w3.heap.size = qd at Y4 ⊢
 have x0 : w4.cell? ⟨w.heap.size, 0, none⟩ = some (.int .u8 r0) := Blk.cell X4 0
 have x1 : w4.cell? ⟨w.heap.size, 1, none⟩ = some (.int .u8 g0) := Blk.cell X4 1
 have x2 : w4.cell? ⟨w.heap.size, 2, none⟩ = some (.int .u8 b0) := Blk.cell X4 2
 have x3 : w4.cell? ⟨w.heap.size, 3, none⟩ = some (.int .u8 a0) := Blk.cell X4 3
 have y0 : w4.cell? ⟨qd, 0, none⟩ = some (.int .u8 r1) := Blk.cell Y4 0
 have y1 : w4.cell? ⟨qd, 1, none⟩ = some (.int .u8 g1) := Blk.cell Y4 1
 have y2 : w4.cell? ⟨qd, 2, none⟩ = some (.int .u8 b1) := Blk.cell Y4 2
 have y3 : w4.cell? ⟨qd, 3, none⟩ = some (.int .u8 a1) := Blk.cell Y4 3
 clear X4 Y4
 by_cases h1 : r1 = r0
 ·skip
  by_cases h2 : g1 = g0
  ·skip
   by_cases h3 : b1 = b0
   ·skip
    by_cases h4 : a1 = a0
    ·skip
     have HY : Hid (q' = q) := Lib.hid (hiff.out.2 ⟨h1, h2, h3, h4⟩)
     subst h1 h2 h3 h4
     go_wp2_with fail
     exact bodyPost_ret (v := .tuple #[.string s, .bool true]) (by simp [results, Tryz.results119, go_sem]) rfl ⟨B4, .inr ⟨s, rfl, HQ.out.2.1, HQ.out.1.trans HY.out⟩⟩
    ·skip
     have HN : Hid (¬ q' = q) := Lib.hid (fun e => h4 (hiff.out.1 e).2.2.2)
     have hs2 := fun e => h4 (Eq.symm e)
     go_wp2_with fail
     exact bodyPost_ret (v := .tuple #[.string ⟨#[]⟩, .bool false]) (by simp [results, Tryz.results119, go_sem]) rfl ⟨B4, .inl ⟨rfl, fun e => (HQ.out.2.2 e.2).elim (fun k => HN.out k) (fun k => by first | exact absurd e.1 (by decide) | exact absurd rfl k | simp at k)⟩⟩
   ·skip
    have HN : Hid (¬ q' = q) := Lib.hid (fun e => h3 (hiff.out.1 e).2.2.1)
    have hs2 := fun e => h3 (Eq.symm e)
    go_wp2_with fail
    exact bodyPost_ret (v := .tuple #[.string ⟨#[]⟩, .bool false]) (by simp [results, Tryz.results119, go_sem]) rfl ⟨B4, .inl ⟨rfl, fun e => (HQ.out.2.2 e.2).elim (fun k => HN.out k) (fun k => by first | exact absurd e.1 (by decide) | exact absurd rfl k | simp at k)⟩⟩
  ·skip
   have HN : Hid (¬ q' = q) := Lib.hid (fun e => h2 (hiff.out.1 e).2.1)
   have hs2 := fun e => h2 (Eq.symm e)
   go_wp2_with fail
   exact bodyPost_ret (v := .tuple #[.string ⟨#[]⟩, .bool false]) (by simp [results, Tryz.results119, go_sem]) rfl ⟨B4, .inl ⟨rfl, fun e => (HQ.out.2.2 e.2).elim (fun k => HN.out k) (fun k => by first | exact absurd e.1 (by decide) | exact absurd rfl k | simp at k)⟩⟩
 ·skip
  have HN : Hid (¬ q' = q) := Lib.hid (fun e => h1 (hiff.out.1 e).1)
  have hs2 := fun e => h1 (Eq.symm e)
  go_wp2_with fail
  exact bodyPost_ret (v := .tuple #[.string ⟨#[]⟩, .bool false]) (by simp [results, Tryz.results119, go_sem]) rfl ⟨B4, .inl ⟨rfl, fun e => (HQ.out.2.2 e.2).elim (fun k => HN.out k) (fun k => by first | exact absurd e.1 (by decide) | exact absurd rfl k | simp at k)⟩⟩
set_option maxRecDepth 100000 in
set_option maxHeartbeats 4000000 in
theorem pixBytes_32 {q : Qc} {al : Nat} (hal : al ≤ 8) (w : World) : Calls Tryz.prog 119 #[q.v, .int .i64 32, .int .i64 (al : Int)] w fun e w' => PixBPost w w' q 32 al e := by
 unfold Qc.v
 obtain ⟨s, hs⟩ : ∃ s, strOf [q.b, q.g, q.r, q.a] = s := ⟨_, rfl⟩
 have hsz : s.size = 4 := by rw [← hs]; rfl
 obtain ⟨q', hq'⟩ : ∃ q', tgaQb s 32 al = q' := ⟨_, rfl⟩
 have HC0 := fun w => tgaColorC (b := s) (n := 32) (al := al) (by decide) (by rw [hsz]; decide) (by rw [hsz]; decide) hq' w
 unfold Qc.v at HC0
 have h32 : al = 8 → q' = q ∨ 32 ≠ 32 := by
  intro h8; refine .inl ?_; rw [← hq', ← hs, h8]; rfl
 have hcv : (convert 22 9 (.slice (some ⟨w.heap.size + 1, 0, none⟩) 4 4)).run Tryz.prog ((w.alloc (.cells #[.int .u8 (q.r.toNat : Int), .int .u8 (q.g.toNat : Int), .int .u8 (q.b.toNat : Int), .int .u8 (q.a.toNat : Int)] 68)).alloc (.cells (C8 [q.b, q.g, q.r, q.a]).toArray 5)) = .ok (.string (strOf [q.b, q.g, q.r, q.a])) ((w.alloc (.cells #[.int .u8 (q.r.toNat : Int), .int .u8 (q.g.toNat : Int), .int .u8 (q.b.toNat : Int), .int .u8 (q.a.toNat : Int)] 68)).alloc (.cells (C8 [q.b, q.g, q.r, q.a]).toArray 5)) := convMade (by simp) [q.b, q.g, q.r, q.a]
 rw [hs, show (C8 [q.b, q.g, q.r, q.a]).toArray = #[.int .u8 (q.b.toNat : Int), .int .u8 (q.g.toNat : Int), .int .u8 (q.r.toNat : Int), .int .u8 (q.a.toNat : Int)] from rfl] at hcv
 obtain ⟨r1, e1⟩ : ∃ r1, (q'.r.toNat : Int) = r1 := ⟨_, rfl⟩
 obtain ⟨g1, e2⟩ : ∃ r1, (q'.g.toNat : Int) = r1 := ⟨_, rfl⟩
 obtain ⟨b1, e3⟩ : ∃ r1, (q'.b.toNat : Int) = r1 := ⟨_, rfl⟩
 obtain ⟨a1, e4⟩ : ∃ r1, (q'.a.toNat : Int) = r1 := ⟨_, rfl⟩
 obtain ⟨r0, f1⟩ : ∃ r1, (q.r.toNat : Int) = r1 := ⟨_, rfl⟩
 obtain ⟨g0, f2⟩ : ∃ r1, (q.g.toNat : Int) = r1 := ⟨_, rfl⟩
 obtain ⟨b0, f3⟩ : ∃ r1, (q.b.toNat : Int) = r1 := ⟨_, rfl⟩
 obtain ⟨a0, f4⟩ : ∃ r1, (q.a.toNat : Int) = r1 := ⟨_, rfl⟩
 have hiff := Lib.hid (qc_ints e1 e2 e3 e4 f1 f2 f3 f4)
 rw [f1, f2, f3, f4] at hcv ⊢
 simp only [e1, e2, e3, e4] at HC0
 have HC := Lib.hid HC0
 have HQ := Lib.hid (And.intro hq' (And.intro hsz h32))
 clear HC0 hq' hs hsz h32 e1 e2 e3 e4 f1 f2 f3 f4
 go_enter Tryz.func119, Tryz.ntmps119
 go_upto_region 11 with (go_at_call 171; refine (HC.out _).mono ?_; rintro e w3 ⟨rfl, b3⟩)
 have hsz3 := b3.size
 have X4 : Blk (w3.alloc (.cells #[.int .u8 r1, .int .u8 g1, .int .u8 b1, .int .u8 a1] 68)) w.heap.size 68 #[.int .u8 r0, .int .u8 g0, .int .u8 b0, .int .u8 a0] := Blk.alloc (Blk.below (Blk.alloc (Blk.new _ _ _) _) b3 (by simp; omega)) _
 have Y4 : Blk (w3.alloc (.cells #[.int .u8 r1, .int .u8 g1, .int .u8 b1, .int .u8 a1] 68)) w3.heap.size 68 #[.int .u8 r1, .int .u8 g1, .int .u8 b1, .int .u8 a1] := Blk.new _ _ _
 have B4 : Below w.heap.size w (w3.alloc (.cells #[.int .u8 r1, .int .u8 g1, .int .u8 b1, .int .u8 a1] 68)) := by
  have B := below_next (((Below.refl w.heap.size w).alloc (Nat.le_refl _) _).alloc (by simp) _) b3
  exact B.alloc B.size _
 clear b3 hsz3 hcv
 generalize w3.alloc (.cells #[.int .u8 r1, .int .u8 g1, .int .u8 b1, .int .u8 a1] 68) = w4 at X4 Y4 B4 ⊢
 generalize w3.heap.size = qd at Y4 ⊢
 have x0 : w4.cell? ⟨w.heap.size, 0, none⟩ = some (.int .u8 r0) := Blk.cell X4 0
 have x1 : w4.cell? ⟨w.heap.size, 1, none⟩ = some (.int .u8 g0) := Blk.cell X4 1
 have x2 : w4.cell? ⟨w.heap.size, 2, none⟩ = some (.int .u8 b0) := Blk.cell X4 2
 have x3 : w4.cell? ⟨w.heap.size, 3, none⟩ = some (.int .u8 a0) := Blk.cell X4 3
 have y0 : w4.cell? ⟨qd, 0, none⟩ = some (.int .u8 r1) := Blk.cell Y4 0
 have y1 : w4.cell? ⟨qd, 1, none⟩ = some (.int .u8 g1) := Blk.cell Y4 1
 have y2 : w4.cell? ⟨qd, 2, none⟩ = some (.int .u8 b1) := Blk.cell Y4 2
 have y3 : w4.cell? ⟨qd, 3, none⟩ = some (.int .u8 a1) := Blk.cell Y4 3
 clear X4 Y4
 by_cases h1 : r1 = r0
 ·skip
  by_cases h2 : g1 = g0
  ·skip
   by_cases h3 : b1 = b0
   ·skip
    by_cases h4 : a1 = a0
    ·skip
     have HY : Hid (q' = q) := Lib.hid (hiff.out.2 ⟨h1, h2, h3, h4⟩)
     subst h1 h2 h3 h4
     go_wp2_with fail
     exact bodyPost_ret (v := .tuple #[.string s, .bool true]) (by simp [results, Tryz.results119, go_sem]) rfl ⟨B4, .inr ⟨s, rfl, HQ.out.2.1, HQ.out.1.trans HY.out⟩⟩
    ·skip
     have HN : Hid (¬ q' = q) := Lib.hid (fun e => h4 (hiff.out.1 e).2.2.2)
     have hs2 := fun e => h4 (Eq.symm e)
     go_wp2_with fail
     exact bodyPost_ret (v := .tuple #[.string ⟨#[]⟩, .bool false]) (by simp [results, Tryz.results119, go_sem]) rfl ⟨B4, .inl ⟨rfl, fun e => (HQ.out.2.2 e.2).elim (fun k => HN.out k) (fun k => by first | exact absurd e.1 (by decide) | exact absurd rfl k | simp at k)⟩⟩
   ·skip
    have HN : Hid (¬ q' = q) := Lib.hid (fun e => h3 (hiff.out.1 e).2.2.1)
    have hs2 := fun e => h3 (Eq.symm e)
    go_wp2_with fail
    exact bodyPost_ret (v := .tuple #[.string ⟨#[]⟩, .bool false]) (by simp [results, Tryz.results119, go_sem]) rfl ⟨B4, .inl ⟨rfl, fun e => (HQ.out.2.2 e.2).elim (fun k => HN.out k) (fun k => by first | exact absurd e.1 (by decide) | exact absurd rfl k | simp at k)⟩⟩
  ·skip
   have HN : Hid (¬ q' = q) := Lib.hid (fun e => h2 (hiff.out.1 e).2.1)
   have hs2 := fun e => h2 (Eq.symm e)
   go_wp2_with fail
   exact bodyPost_ret (v := .tuple #[.string ⟨#[]⟩, .bool false]) (by simp [results, Tryz.results119, go_sem]) rfl ⟨B4, .inl ⟨rfl, fun e => (HQ.out.2.2 e.2).elim (fun k => HN.out k) (fun k => by first | exact absurd e.1 (by decide) | exact absurd rfl k | simp at k)⟩⟩
 ·skip
  have HN : Hid (¬ q' = q) := Lib.hid (fun e => h1 (hiff.out.1 e).1)
  have hs2 := fun e => h1 (Eq.symm e)
  go_wp2_with fail
  exact bodyPost_ret (v := .tuple #[.string ⟨#[]⟩, .bool false]) (by simp [results, Tryz.results119, go_sem]) rfl ⟨B4, .inl ⟨rfl, fun e => (HQ.out.2.2 e.2).elim (fun k => HN.out k) (fun k => by first | exact absurd e.1 (by decide) | exact absurd rfl k | simp at k)⟩⟩
set_option maxRecDepth 100000 in
set_option maxHeartbeats 2000000 in
theorem tgaColorNo {n al : Nat} (hn : n = 15 ∨ n = 16) (w : World) : Calls Tryz.prog 171 #[.string ⟨#[]⟩, .int .i64 (n : Int), .int .i64 (al : Int)] w fun e w' => e = .returned (.tuple #[.agg #[.int .u8 0, .int .u8 0, .int .u8 0, .int .u8 0], .bool false]) ∧ Below w.heap.size w w' := by
 have HK : Hid (∀ w : World, Calls Tryz.prog 174 #[.int .i64 (n : Int)] w fun e w' => e = .returned (.int .i64 2) ∧ w = w') := Lib.hid (fun w => by rcases hn with rfl | rfl <;> exact tgaKindC (by decide) (by rfl) w)
 have HE := Lib.hid (fun w => entry_none ⟨#[]⟩ 2 w (by decide) (.inr (by decide)))
 have I0 : Q0 (w.alloc (.cells #[.int .u8 0, .int .u8 0, .int .u8 0, .int .u8 0] 68)) w.heap.size := Blk.new _ _ _
 have B0 : Below w.heap.size w (w.alloc (.cells #[.int .u8 0, .int .u8 0, .int .u8 0, .int .u8 0] 68)) := (Below.refl _ _).alloc (Nat.le_refl _) _
 rcases hn with rfl | rfl
 all_goals
  go_enter Tryz.func171, Tryz.ntmps171
  go_wp2_with (first
   | (go_at_call 174; refine (HK.out _).mono ?_; rintro e w1 ⟨rfl, rfl⟩)
   | (go_at_call 196; refine (HE.out _).mono ?_; rintro e w2 ⟨rfl, b2⟩; have I2 : Q0 (w2.alloc (.cells #[.int .u8 0, .int .u8 0, .int .u8 0, .int .u8 0] 68)) w.heap.size := Blk.alloc (Blk.below I0 b2 (Blk.lt I0)) _; obtain ⟨c0, c1, c2, c3, z0, z1, z2, z3, cl⟩ := I2.all; have B2 := below_next B0 b2))
  exact bodyPost_ret (v := .tuple #[.agg #[.int .u8 0, .int .u8 0, .int .u8 0, .int .u8 0], .bool false]) (by simp [results, Tryz.results171, go_sem, c0, c1, c2, c3]) rfl ⟨rfl, below_set (below_set (below_set (below_set (B2.alloc B2.size _) (Nat.le_refl _)) (Nat.le_refl _)) (Nat.le_refl _)) (Nat.le_refl _)⟩
set_option maxRecDepth 100000 in
set_option maxHeartbeats 4000000 in
theorem pixBytes_15 {q : Qc} {al : Nat} (w : World) : Calls Tryz.prog 119 #[q.v, .int .i64 15, .int .i64 (al : Int)] w fun e w' => PixBPost w w' q 15 al e := by
 unfold Qc.v
 have HSH0 := fun (hi : Bool) (w : World) => tgaShortC (r := q.r.toNat) (g := q.g.toNat) (b := q.b.toNat) (a := q.a.toNat) (hi := hi) (Nat.le_of_lt_succ (UInt8.toNat_lt _)) (Nat.le_of_lt_succ (UInt8.toNat_lt _)) (Nat.le_of_lt_succ (UInt8.toNat_lt _)) w
 have HC := Lib.hid (fun (x y : UInt8) (w : World) => tgaColorC (b := strOf [x, y]) (n := 15) (al := al) (by decide) (Nat.le_refl 2) (show 2 ≤ 1073741824 by decide) rfl w)
 have HCN := Lib.hid (fun (w : World) => tgaColorNo (n := 15) (al := al) (by decide) w)
 obtain ⟨r0, f1⟩ : ∃ r1, (q.r.toNat : Int) = r1 := ⟨_, rfl⟩
 obtain ⟨g0, f2⟩ : ∃ r1, (q.g.toNat : Int) = r1 := ⟨_, rfl⟩
 obtain ⟨b0, f3⟩ : ∃ r1, (q.b.toNat : Int) = r1 := ⟨_, rfl⟩
 obtain ⟨a0, f4⟩ : ∃ r1, (q.a.toNat : Int) = r1 := ⟨_, rfl⟩
 rw [f1, f2, f3, f4] at HSH0 ⊢
 have HSH := Lib.hid HSH0
 have HF := Lib.hid (And.intro f1 (And.intro f2 (And.intro f3 f4)))
 clear HSH0 f1 f2 f3 f4
 go_enter Tryz.func119, Tryz.ntmps119
 go_upto_region 10 with (go_at_call 170; refine (HSH.out _ _).mono ?_; rintro e w2 ⟨b2, rfl | ⟨x, y, rfl⟩⟩)
 ·go_wp2_with (go_at_call 171; refine (HCN.out _).mono ?_; rintro e w3 ⟨rfl, b3⟩)
  have B := below_next (below_next ((Below.refl w.heap.size w).alloc (Nat.le_refl _) _) b2) b3
  exact bodyPost_ret (v := .tuple #[.string ⟨#[]⟩, .bool false]) (by simp [results, Tryz.results119, go_sem]) rfl ⟨B.alloc B.size _, .inl ⟨rfl, fun e => absurd e.1 (by decide)⟩⟩
 ·obtain ⟨s, hs⟩ : ∃ s, strOf [x, y] = s := ⟨_, rfl⟩
  have hsz : s.size = 2 := by rw [← hs]; rfl
  obtain ⟨q', hq'⟩ : ∃ q', tgaQb s 15 al = q' := ⟨_, rfl⟩
  have HC1 := fun w => HC.out x y w
  rw [hs, hq'] at HC1
  rw [hs]
  unfold Qc.v at HC1
  obtain ⟨r1, e1⟩ : ∃ r1, (q'.r.toNat : Int) = r1 := ⟨_, rfl⟩
  obtain ⟨g1, e2⟩ : ∃ r1, (q'.g.toNat : Int) = r1 := ⟨_, rfl⟩
  obtain ⟨b1, e3⟩ : ∃ r1, (q'.b.toNat : Int) = r1 := ⟨_, rfl⟩
  obtain ⟨a1, e4⟩ : ∃ r1, (q'.a.toNat : Int) = r1 := ⟨_, rfl⟩
  have hiff := Lib.hid (qc_ints e1 e2 e3 e4 HF.out.1 HF.out.2.1 HF.out.2.2.1 HF.out.2.2.2)
  simp only [e1, e2, e3, e4] at HC1
  have HCC := Lib.hid HC1
  have HQ := Lib.hid (And.intro hq' hsz)
  clear HC1 hq' hs hsz e1 e2 e3 e4 HC
  go_upto_region 11 with (go_at_call 171; refine (HCC.out _).mono ?_; rintro e w3 ⟨rfl, b3⟩)
  have hz2 := b2.size
  have hz3 := b3.size
  have X4 : Blk (w3.alloc (.cells #[.int .u8 r1, .int .u8 g1, .int .u8 b1, .int .u8 a1] 68)) w.heap.size 68 #[.int .u8 r0, .int .u8 g0, .int .u8 b0, .int .u8 a0] := Blk.alloc (Blk.below (Blk.below (Blk.new _ _ _) b2 (by simp)) b3 (by simp at hz2; omega)) _
  have Y4 : Blk (w3.alloc (.cells #[.int .u8 r1, .int .u8 g1, .int .u8 b1, .int .u8 a1] 68)) w3.heap.size 68 #[.int .u8 r1, .int .u8 g1, .int .u8 b1, .int .u8 a1] := Blk.new _ _ _
  have B4 : Below w.heap.size w (w3.alloc (.cells #[.int .u8 r1, .int .u8 g1, .int .u8 b1, .int .u8 a1] 68)) := by
   have B := below_next (below_next ((Below.refl w.heap.size w).alloc (Nat.le_refl _) _) b2) b3
   exact B.alloc B.size _
  clear b2 b3 hz2 hz3
  generalize w3.alloc (.cells #[.int .u8 r1, .int .u8 g1, .int .u8 b1, .int .u8 a1] 68) = w4 at X4 Y4 B4 ⊢
  generalize w3.heap.size = qd at Y4 ⊢
  have x0 : w4.cell? ⟨w.heap.size, 0, none⟩ = some (.int .u8 r0) := Blk.cell X4 0
  have x1 : w4.cell? ⟨w.heap.size, 1, none⟩ = some (.int .u8 g0) := Blk.cell X4 1
  have x2 : w4.cell? ⟨w.heap.size, 2, none⟩ = some (.int .u8 b0) := Blk.cell X4 2
  have x3 : w4.cell? ⟨w.heap.size, 3, none⟩ = some (.int .u8 a0) := Blk.cell X4 3
  have y0 : w4.cell? ⟨qd, 0, none⟩ = some (.int .u8 r1) := Blk.cell Y4 0
  have y1 : w4.cell? ⟨qd, 1, none⟩ = some (.int .u8 g1) := Blk.cell Y4 1
  have y2 : w4.cell? ⟨qd, 2, none⟩ = some (.int .u8 b1) := Blk.cell Y4 2
  have y3 : w4.cell? ⟨qd, 3, none⟩ = some (.int .u8 a1) := Blk.cell Y4 3
  clear X4 Y4
  by_cases h1 : r1 = r0
  ·skip
   by_cases h2 : g1 = g0
   ·skip
    by_cases h3 : b1 = b0
    ·skip
     by_cases h4 : a1 = a0
     ·skip
      have HY : Hid (q' = q) := Lib.hid (hiff.out.2 ⟨h1, h2, h3, h4⟩)
      subst h1 h2 h3 h4
      go_wp2_with fail
      exact bodyPost_ret (v := .tuple #[.string s, .bool true]) (by simp [results, Tryz.results119, go_sem]) rfl ⟨B4, .inr ⟨s, rfl, HQ.out.2, HQ.out.1.trans HY.out⟩⟩
     ·skip
      have hs2 := fun e => h4 (Eq.symm e)
      go_wp2_with fail
      exact bodyPost_ret (v := .tuple #[.string ⟨#[]⟩, .bool false]) (by simp [results, Tryz.results119, go_sem]) rfl ⟨B4, .inl ⟨rfl, fun e => absurd e.1 (by decide)⟩⟩
    ·skip
     have hs2 := fun e => h3 (Eq.symm e)
     go_wp2_with fail
     exact bodyPost_ret (v := .tuple #[.string ⟨#[]⟩, .bool false]) (by simp [results, Tryz.results119, go_sem]) rfl ⟨B4, .inl ⟨rfl, fun e => absurd e.1 (by decide)⟩⟩
   ·skip
    have hs2 := fun e => h2 (Eq.symm e)
    go_wp2_with fail
    exact bodyPost_ret (v := .tuple #[.string ⟨#[]⟩, .bool false]) (by simp [results, Tryz.results119, go_sem]) rfl ⟨B4, .inl ⟨rfl, fun e => absurd e.1 (by decide)⟩⟩
  ·skip
   have hs2 := fun e => h1 (Eq.symm e)
   go_wp2_with fail
   exact bodyPost_ret (v := .tuple #[.string ⟨#[]⟩, .bool false]) (by simp [results, Tryz.results119, go_sem]) rfl ⟨B4, .inl ⟨rfl, fun e => absurd e.1 (by decide)⟩⟩
set_option maxRecDepth 100000 in
set_option maxHeartbeats 4000000 in
theorem pixBytes_16o {q : Qc} (w : World) : Calls Tryz.prog 119 #[q.v, .int .i64 16, .int .i64 1] w fun e w' => PixBPost w w' q 16 1 e := by
 unfold Qc.v
 have HSH0 := fun (hi : Bool) (w : World) => tgaShortC (r := q.r.toNat) (g := q.g.toNat) (b := q.b.toNat) (a := q.a.toNat) (hi := hi) (Nat.le_of_lt_succ (UInt8.toNat_lt _)) (Nat.le_of_lt_succ (UInt8.toNat_lt _)) (Nat.le_of_lt_succ (UInt8.toNat_lt _)) w
 have HC := Lib.hid (fun (x y : UInt8) (w : World) => tgaColorC (b := strOf [x, y]) (n := 16) (al := 1) (by decide) (Nat.le_refl 2) (show 2 ≤ 1073741824 by decide) rfl w)
 have HCN := Lib.hid (fun (w : World) => tgaColorNo (n := 16) (al := 1) (by decide) w)
 obtain ⟨r0, f1⟩ : ∃ r1, (q.r.toNat : Int) = r1 := ⟨_, rfl⟩
 obtain ⟨g0, f2⟩ : ∃ r1, (q.g.toNat : Int) = r1 := ⟨_, rfl⟩
 obtain ⟨b0, f3⟩ : ∃ r1, (q.b.toNat : Int) = r1 := ⟨_, rfl⟩
 obtain ⟨a0, f4⟩ : ∃ r1, (q.a.toNat : Int) = r1 := ⟨_, rfl⟩
 rw [f1, f2, f3, f4] at HSH0 ⊢
 have HSH := Lib.hid HSH0
 have HF := Lib.hid (And.intro f1 (And.intro f2 (And.intro f3 f4)))
 clear HSH0 f1 f2 f3 f4
 go_enter Tryz.func119, Tryz.ntmps119
 go_upto_region 10 with (go_at_call 170; refine (HSH.out _ _).mono ?_; rintro e w2 ⟨b2, rfl | ⟨x, y, rfl⟩⟩)
 ·go_wp2_with (go_at_call 171; refine (HCN.out _).mono ?_; rintro e w3 ⟨rfl, b3⟩)
  have B := below_next (below_next ((Below.refl w.heap.size w).alloc (Nat.le_refl _) _) b2) b3
  exact bodyPost_ret (v := .tuple #[.string ⟨#[]⟩, .bool false]) (by simp [results, Tryz.results119, go_sem]) rfl ⟨B.alloc B.size _, .inl ⟨rfl, fun e => absurd e.1 (by decide)⟩⟩
 ·obtain ⟨s, hs⟩ : ∃ s, strOf [x, y] = s := ⟨_, rfl⟩
  have hsz : s.size = 2 := by rw [← hs]; rfl
  obtain ⟨q', hq'⟩ : ∃ q', tgaQb s 16 1 = q' := ⟨_, rfl⟩
  have HC1 := fun w => HC.out x y w
  rw [hs, hq'] at HC1
  rw [hs]
  unfold Qc.v at HC1
  obtain ⟨r1, e1⟩ : ∃ r1, (q'.r.toNat : Int) = r1 := ⟨_, rfl⟩
  obtain ⟨g1, e2⟩ : ∃ r1, (q'.g.toNat : Int) = r1 := ⟨_, rfl⟩
  obtain ⟨b1, e3⟩ : ∃ r1, (q'.b.toNat : Int) = r1 := ⟨_, rfl⟩
  obtain ⟨a1, e4⟩ : ∃ r1, (q'.a.toNat : Int) = r1 := ⟨_, rfl⟩
  have hiff := Lib.hid (qc_ints e1 e2 e3 e4 HF.out.1 HF.out.2.1 HF.out.2.2.1 HF.out.2.2.2)
  simp only [e1, e2, e3, e4] at HC1
  have HCC := Lib.hid HC1
  have HQ := Lib.hid (And.intro hq' hsz)
  clear HC1 hq' hs hsz e1 e2 e3 e4 HC
  go_upto_region 11 with (go_at_call 171; refine (HCC.out _).mono ?_; rintro e w3 ⟨rfl, b3⟩)
  have hz2 := b2.size
  have hz3 := b3.size
  have X4 : Blk (w3.alloc (.cells #[.int .u8 r1, .int .u8 g1, .int .u8 b1, .int .u8 a1] 68)) w.heap.size 68 #[.int .u8 r0, .int .u8 g0, .int .u8 b0, .int .u8 a0] := Blk.alloc (Blk.below (Blk.below (Blk.new _ _ _) b2 (by simp)) b3 (by simp at hz2; omega)) _
  have Y4 : Blk (w3.alloc (.cells #[.int .u8 r1, .int .u8 g1, .int .u8 b1, .int .u8 a1] 68)) w3.heap.size 68 #[.int .u8 r1, .int .u8 g1, .int .u8 b1, .int .u8 a1] := Blk.new _ _ _
  have B4 : Below w.heap.size w (w3.alloc (.cells #[.int .u8 r1, .int .u8 g1, .int .u8 b1, .int .u8 a1] 68)) := by
   have B := below_next (below_next ((Below.refl w.heap.size w).alloc (Nat.le_refl _) _) b2) b3
   exact B.alloc B.size _
  clear b2 b3 hz2 hz3
  generalize w3.alloc (.cells #[.int .u8 r1, .int .u8 g1, .int .u8 b1, .int .u8 a1] 68) = w4 at X4 Y4 B4 ⊢
  generalize w3.heap.size = qd at Y4 ⊢
  have x0 : w4.cell? ⟨w.heap.size, 0, none⟩ = some (.int .u8 r0) := Blk.cell X4 0
  have x1 : w4.cell? ⟨w.heap.size, 1, none⟩ = some (.int .u8 g0) := Blk.cell X4 1
  have x2 : w4.cell? ⟨w.heap.size, 2, none⟩ = some (.int .u8 b0) := Blk.cell X4 2
  have x3 : w4.cell? ⟨w.heap.size, 3, none⟩ = some (.int .u8 a0) := Blk.cell X4 3
  have y0 : w4.cell? ⟨qd, 0, none⟩ = some (.int .u8 r1) := Blk.cell Y4 0
  have y1 : w4.cell? ⟨qd, 1, none⟩ = some (.int .u8 g1) := Blk.cell Y4 1
  have y2 : w4.cell? ⟨qd, 2, none⟩ = some (.int .u8 b1) := Blk.cell Y4 2
  have y3 : w4.cell? ⟨qd, 3, none⟩ = some (.int .u8 a1) := Blk.cell Y4 3
  clear X4 Y4
  by_cases h1 : r1 = r0
  ·skip
   by_cases h2 : g1 = g0
   ·skip
    by_cases h3 : b1 = b0
    ·skip
     by_cases h4 : a1 = a0
     ·skip
      have HY : Hid (q' = q) := Lib.hid (hiff.out.2 ⟨h1, h2, h3, h4⟩)
      subst h1 h2 h3 h4
      go_wp2_with fail
      exact bodyPost_ret (v := .tuple #[.string s, .bool true]) (by simp [results, Tryz.results119, go_sem]) rfl ⟨B4, .inr ⟨s, rfl, HQ.out.2, HQ.out.1.trans HY.out⟩⟩
     ·skip
      have hs2 := fun e => h4 (Eq.symm e)
      go_wp2_with fail
      exact bodyPost_ret (v := .tuple #[.string ⟨#[]⟩, .bool false]) (by simp [results, Tryz.results119, go_sem]) rfl ⟨B4, .inl ⟨rfl, fun e => absurd e.1 (by decide)⟩⟩
    ·skip
     have hs2 := fun e => h3 (Eq.symm e)
     go_wp2_with fail
     exact bodyPost_ret (v := .tuple #[.string ⟨#[]⟩, .bool false]) (by simp [results, Tryz.results119, go_sem]) rfl ⟨B4, .inl ⟨rfl, fun e => absurd e.1 (by decide)⟩⟩
   ·skip
    have hs2 := fun e => h2 (Eq.symm e)
    go_wp2_with fail
    exact bodyPost_ret (v := .tuple #[.string ⟨#[]⟩, .bool false]) (by simp [results, Tryz.results119, go_sem]) rfl ⟨B4, .inl ⟨rfl, fun e => absurd e.1 (by decide)⟩⟩
  ·skip
   have hs2 := fun e => h1 (Eq.symm e)
   go_wp2_with fail
   exact bodyPost_ret (v := .tuple #[.string ⟨#[]⟩, .bool false]) (by simp [results, Tryz.results119, go_sem]) rfl ⟨B4, .inl ⟨rfl, fun e => absurd e.1 (by decide)⟩⟩
set_option maxRecDepth 100000 in
set_option maxHeartbeats 4000000 in
theorem pixBytes_16n {q : Qc} {al : Nat} (hal : al ≠ 1) (w : World) : Calls Tryz.prog 119 #[q.v, .int .i64 16, .int .i64 (al : Int)] w fun e w' => PixBPost w w' q 16 al e := by
 unfold Qc.v
 have halI : ¬ (al : Int) = 1 := by omega
 have halB : ((al : Int) == 1) = false := by rw [beq_eq_false_iff_ne]; exact halI
 clear hal
 have HSH0 := fun (hi : Bool) (w : World) => tgaShortC (r := q.r.toNat) (g := q.g.toNat) (b := q.b.toNat) (a := q.a.toNat) (hi := hi) (Nat.le_of_lt_succ (UInt8.toNat_lt _)) (Nat.le_of_lt_succ (UInt8.toNat_lt _)) (Nat.le_of_lt_succ (UInt8.toNat_lt _)) w
 have HC := Lib.hid (fun (x y : UInt8) (w : World) => tgaColorC (b := strOf [x, y]) (n := 16) (al := al) (by decide) (Nat.le_refl 2) (show 2 ≤ 1073741824 by decide) rfl w)
 have HCN := Lib.hid (fun (w : World) => tgaColorNo (n := 16) (al := al) (by decide) w)
 obtain ⟨r0, f1⟩ : ∃ r1, (q.r.toNat : Int) = r1 := ⟨_, rfl⟩
 obtain ⟨g0, f2⟩ : ∃ r1, (q.g.toNat : Int) = r1 := ⟨_, rfl⟩
 obtain ⟨b0, f3⟩ : ∃ r1, (q.b.toNat : Int) = r1 := ⟨_, rfl⟩
 obtain ⟨a0, f4⟩ : ∃ r1, (q.a.toNat : Int) = r1 := ⟨_, rfl⟩
 rw [f1, f2, f3, f4] at HSH0 ⊢
 have HSH := Lib.hid HSH0
 have HF := Lib.hid (And.intro f1 (And.intro f2 (And.intro f3 f4)))
 clear HSH0 f1 f2 f3 f4
 go_enter Tryz.func119, Tryz.ntmps119
 go_upto_region 10 with (go_at_call 170; refine (HSH.out _ _).mono ?_; rintro e w2 ⟨b2, rfl | ⟨x, y, rfl⟩⟩)
 ·go_wp2_with (go_at_call 171; refine (HCN.out _).mono ?_; rintro e w3 ⟨rfl, b3⟩)
  have B := below_next (below_next ((Below.refl w.heap.size w).alloc (Nat.le_refl _) _) b2) b3
  exact bodyPost_ret (v := .tuple #[.string ⟨#[]⟩, .bool false]) (by simp [results, Tryz.results119, go_sem]) rfl ⟨B.alloc B.size _, .inl ⟨rfl, fun e => absurd e.1 (by decide)⟩⟩
 ·obtain ⟨s, hs⟩ : ∃ s, strOf [x, y] = s := ⟨_, rfl⟩
  have hsz : s.size = 2 := by rw [← hs]; rfl
  obtain ⟨q', hq'⟩ : ∃ q', tgaQb s 16 al = q' := ⟨_, rfl⟩
  have HC1 := fun w => HC.out x y w
  rw [hs, hq'] at HC1
  rw [hs]
  unfold Qc.v at HC1
  obtain ⟨r1, e1⟩ : ∃ r1, (q'.r.toNat : Int) = r1 := ⟨_, rfl⟩
  obtain ⟨g1, e2⟩ : ∃ r1, (q'.g.toNat : Int) = r1 := ⟨_, rfl⟩
  obtain ⟨b1, e3⟩ : ∃ r1, (q'.b.toNat : Int) = r1 := ⟨_, rfl⟩
  obtain ⟨a1, e4⟩ : ∃ r1, (q'.a.toNat : Int) = r1 := ⟨_, rfl⟩
  have hiff := Lib.hid (qc_ints e1 e2 e3 e4 HF.out.1 HF.out.2.1 HF.out.2.2.1 HF.out.2.2.2)
  simp only [e1, e2, e3, e4] at HC1
  have HCC := Lib.hid HC1
  have HQ := Lib.hid (And.intro hq' hsz)
  clear HC1 hq' hs hsz e1 e2 e3 e4 HC
  go_upto_region 11 with (go_at_call 171; refine (HCC.out _).mono ?_; rintro e w3 ⟨rfl, b3⟩)
  have hz2 := b2.size
  have hz3 := b3.size
  have X4 : Blk (w3.alloc (.cells #[.int .u8 r1, .int .u8 g1, .int .u8 b1, .int .u8 a1] 68)) w.heap.size 68 #[.int .u8 r0, .int .u8 g0, .int .u8 b0, .int .u8 a0] := Blk.alloc (Blk.below (Blk.below (Blk.new _ _ _) b2 (by simp)) b3 (by simp at hz2; omega)) _
  have Y4 : Blk (w3.alloc (.cells #[.int .u8 r1, .int .u8 g1, .int .u8 b1, .int .u8 a1] 68)) w3.heap.size 68 #[.int .u8 r1, .int .u8 g1, .int .u8 b1, .int .u8 a1] := Blk.new _ _ _
  have B4 : Below w.heap.size w (w3.alloc (.cells #[.int .u8 r1, .int .u8 g1, .int .u8 b1, .int .u8 a1] 68)) := by
   have B := below_next (below_next ((Below.refl w.heap.size w).alloc (Nat.le_refl _) _) b2) b3
   exact B.alloc B.size _
  clear b2 b3 hz2 hz3
  generalize w3.alloc (.cells #[.int .u8 r1, .int .u8 g1, .int .u8 b1, .int .u8 a1] 68) = w4 at X4 Y4 B4 ⊢
  generalize w3.heap.size = qd at Y4 ⊢
  have x0 : w4.cell? ⟨w.heap.size, 0, none⟩ = some (.int .u8 r0) := Blk.cell X4 0
  have x1 : w4.cell? ⟨w.heap.size, 1, none⟩ = some (.int .u8 g0) := Blk.cell X4 1
  have x2 : w4.cell? ⟨w.heap.size, 2, none⟩ = some (.int .u8 b0) := Blk.cell X4 2
  have x3 : w4.cell? ⟨w.heap.size, 3, none⟩ = some (.int .u8 a0) := Blk.cell X4 3
  have y0 : w4.cell? ⟨qd, 0, none⟩ = some (.int .u8 r1) := Blk.cell Y4 0
  have y1 : w4.cell? ⟨qd, 1, none⟩ = some (.int .u8 g1) := Blk.cell Y4 1
  have y2 : w4.cell? ⟨qd, 2, none⟩ = some (.int .u8 b1) := Blk.cell Y4 2
  have y3 : w4.cell? ⟨qd, 3, none⟩ = some (.int .u8 a1) := Blk.cell Y4 3
  clear X4 Y4
  by_cases h1 : r1 = r0
  ·skip
   by_cases h2 : g1 = g0
   ·skip
    by_cases h3 : b1 = b0
    ·skip
     by_cases h4 : a1 = a0
     ·skip
      have HY : Hid (q' = q) := Lib.hid (hiff.out.2 ⟨h1, h2, h3, h4⟩)
      subst h1 h2 h3 h4
      go_wp2_with fail
      exact bodyPost_ret (v := .tuple #[.string s, .bool true]) (by simp [results, Tryz.results119, go_sem]) rfl ⟨B4, .inr ⟨s, rfl, HQ.out.2, HQ.out.1.trans HY.out⟩⟩
     ·skip
      have hs2 := fun e => h4 (Eq.symm e)
      go_wp2_with fail
      exact bodyPost_ret (v := .tuple #[.string ⟨#[]⟩, .bool false]) (by simp [results, Tryz.results119, go_sem]) rfl ⟨B4, .inl ⟨rfl, fun e => absurd e.1 (by decide)⟩⟩
    ·skip
     have hs2 := fun e => h3 (Eq.symm e)
     go_wp2_with fail
     exact bodyPost_ret (v := .tuple #[.string ⟨#[]⟩, .bool false]) (by simp [results, Tryz.results119, go_sem]) rfl ⟨B4, .inl ⟨rfl, fun e => absurd e.1 (by decide)⟩⟩
   ·skip
    have hs2 := fun e => h2 (Eq.symm e)
    go_wp2_with fail
    exact bodyPost_ret (v := .tuple #[.string ⟨#[]⟩, .bool false]) (by simp [results, Tryz.results119, go_sem]) rfl ⟨B4, .inl ⟨rfl, fun e => absurd e.1 (by decide)⟩⟩
  ·skip
   have hs2 := fun e => h1 (Eq.symm e)
   go_wp2_with fail
   exact bodyPost_ret (v := .tuple #[.string ⟨#[]⟩, .bool false]) (by simp [results, Tryz.results119, go_sem]) rfl ⟨B4, .inl ⟨rfl, fun e => absurd e.1 (by decide)⟩⟩
theorem pixBytesC {q : Qc} {n al : Nat} (hc : TgaCol n) (hal : al ≤ 8) (w : World) : Calls Tryz.prog 119 #[q.v, .int .i64 (n : Int), .int .i64 (al : Int)] w fun e w' => PixBPost w w' q n al e := by
 rcases hc with rfl | rfl | rfl | rfl
 ·exact pixBytes_15 w
 ·by_cases h : al = 1
  ·subst h; exact pixBytes_16o w
  ·exact pixBytes_16n h w
 ·exact pixBytes_24 hal w
 ·exact pixBytes_32 hal w
end Go.Proofs.YtlehkgkomjojmaaGreat
