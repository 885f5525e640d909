/- qoi: a pixel's step. -/
import Derived.Test.YtojobfnbakiicaaGreatQoiA
import Derived.Test.YtojobfnbakiicaaGreatWrA
namespace Go.Proofs.YtojobfnbakiicaaGreat
open Go.RowKit
set_option linter.unusedVariables false
set_option linter.unusedSimpArgs false

/-- a pixel's step, if it isn't the last one -/
def wstep (last : Qc) (seen : List Qc) (c : Qc) : List UInt8 :=
  if seen[qplace c]? = some c then [UInt8.ofNat (qplace c)]
  else if c.a ≠ last.a then [255, c.r, c.g, c.b, c.a]
  else
    let r := qapart c.r last.r
    let g := qapart c.g last.g
    let b := qapart c.b last.b
    if (-2 ≤ r ∧ r ≤ 1) ∧ (-2 ≤ g ∧ g ≤ 1) ∧ (-2 ≤ b ∧ b ≤ 1) then [UInt8.ofNat (64 + (r + 2) * 16 + (g + 2) * 4 + b + 2).toNat]
    else if (-32 ≤ g ∧ g ≤ 31) ∧ (-8 ≤ r - g ∧ r - g ≤ 7) ∧ (-8 ≤ b - g ∧ b - g ≤ 7) then [UInt8.ofNat (128 + g + 32).toNat, UInt8.ofNat ((r - g + 8) * 16 + (b - g) + 8).toNat]
    else [254, c.r, c.g, c.b]
/-- a row of bytes of its own -/
def Row8 (w : World) (v : Value) (base : Nat) (m : List UInt8) : Prop := ∃ g, v = .slice (some ⟨g, 0, none⟩) m.length m.length ∧ base ≤ g ∧ ∀ (j : Nat) (b : UInt8), m[j]? = some b → w.cell? ⟨g, j, none⟩ = some (.int .u8 (b.toNat : Int))
theorem qc_ne {q c : Qc} (h : q ≠ c) : (¬ (q.r.toNat : Int) = (c.r.toNat : Int)) ∨ (q.r.toNat = c.r.toNat ∧ ¬ (q.g.toNat : Int) = (c.g.toNat : Int)) ∨ (q.r.toNat = c.r.toNat ∧ q.g.toNat = c.g.toNat ∧ ¬ (q.b.toNat : Int) = (c.b.toNat : Int)) ∨ (q.r.toNat = c.r.toNat ∧ q.g.toNat = c.g.toNat ∧ q.b.toNat = c.b.toNat ∧ ¬ (q.a.toNat : Int) = (c.a.toNat : Int)) := by
  by_cases h1 : q.r.toNat = c.r.toNat
  · by_cases h2 : q.g.toNat = c.g.toNat
    · by_cases h3 : q.b.toNat = c.b.toNat
      · by_cases h4 : q.a.toNat = c.a.toNat
        · refine absurd ?_ h
          cases q; cases c
          simp only [Qc.mk.injEq]
          exact ⟨UInt8.toNat_inj.1 h1, UInt8.toNat_inj.1 h2, UInt8.toNat_inj.1 h3, UInt8.toNat_inj.1 h4⟩
        · exact .inr (.inr (.inr ⟨h1, h2, h3, by omega⟩))
      · exact .inr (.inr (.inl ⟨h1, h2, by omega⟩))
    · exact .inr (.inl ⟨h1, by omega⟩)
  · exact .inl (by omega)
theorem row8_new (w : World) {base : Nat} (hb : base ≤ w.heap.size) (cs : Array Value) (m : List UInt8) (h : cs = (C8 m).toArray) : Row8 (w.alloc (.cells cs 5)) (.slice (some ⟨w.heap.size, 0, none⟩) m.length m.length) base m := ⟨_, rfl, hb, cells_new w m cs h⟩
set_option maxRecDepth 100000 in
set_option maxHeartbeats 1000000 in
theorem qoiWrite_seen {w : World} {x p : Nat} {last c : Qc} {seen : List Qc} (h : CodAt w x last seen) (hp : qplace c = p) (hs : seen[p]? = some c) : Calls Tryz.prog 52 #[.pointer (some ⟨x, 0, none⟩), .agg #[.int .u8 (c.r.toNat : Int), .int .u8 (c.g.toNat : Int), .int .u8 (c.b.toNat : Int), .int .u8 (c.a.toNat : Int)]] w fun e w' => (∃ v, e = .returned v ∧ Row8 w' v w.heap.size [UInt8.ofNat p]) ∧ Below w.heap.size w w' := by
  have hxl := Blk.lt h.1
  have HP := Lib.hid (fun w => qoiPlace hp w)
  have hp64 : p < 64 := by rw [← hp]; exact qplace_lt c
  have H := Lib.hid h
  have HS := Lib.hid (show (last :: seen)[p + 1]? = some c from hs)
  clear h hp hs
  go_enter Tryz.func52, Tryz.ntmps52
  have Q0 : QB (w.alloc (.cells #[.int .u8 (c.r.toNat : Int), .int .u8 (c.g.toNat : Int), .int .u8 (c.b.toNat : Int), .int .u8 (c.a.toNat : Int)] 67)) w.heap.size c := Blk.new _ _ _
  have C0 : CodAt (w.alloc (.cells #[.int .u8 (c.r.toNat : Int), .int .u8 (c.g.toNat : Int), .int .u8 (c.b.toNat : Int), .int .u8 (c.a.toNat : Int)] 67)) x last seen := ⟨Blk.alloc H.out.1 _, H.out.2⟩
  have B0 : Below w.heap.size w (w.alloc (.cells #[.int .u8 (c.r.toNat : Int), .int .u8 (c.g.toNat : Int), .int .u8 (c.b.toNat : Int), .int .u8 (c.a.toNat : Int)] 67)) := (Below.refl _ _).alloc (Nat.le_refl _) _
  have W0 := Lib.hid (And.intro Q0 (And.intro C0 B0))
  clear Q0 C0 B0
  go_wp2_with (go_at_call 104; refine (HP.out _).mono ?_; rintro e w4 ⟨rfl, b4⟩; have Q4 : QB w4 w.heap.size c := Blk.below W0.out.1 b4 (Blk.lt W0.out.1); have C4 : CodAt w4 x last seen := ⟨Blk.below W0.out.2.1.1 b4 (Blk.lt W0.out.2.1.1), W0.out.2.1.2⟩; have B4 : Below w.heap.size w w4 := W0.out.2.2.trans (b4.mono (by simp)); clear b4)
  obtain ⟨q0, q1, q2, q3, ql⟩ := QB.all Q4
  obtain ⟨s0', s1', s2', s3'⟩ := CodAt.cell C4 (p + 1) c HS.out
  have e4 : ∀ j, 4 + p * 4 + j = (p + 1) * 4 + j := fun j => by omega
  have s0 : w4.cell? ⟨x, 4 + p * 4, none⟩ = some (.int .u8 (c.r.toNat : Int)) := by rw [show 4 + p * 4 = (p + 1) * 4 from by omega]; exact s0'
  have s1 : w4.cell? ⟨x, 4 + p * 4 + 1, none⟩ = some (.int .u8 (c.g.toNat : Int)) := by rw [e4]; exact s1'
  have s2 : w4.cell? ⟨x, 4 + p * 4 + 2, none⟩ = some (.int .u8 (c.b.toNat : Int)) := by rw [e4]; exact s2'
  have s3 : w4.cell? ⟨x, 4 + p * 4 + 3, none⟩ = some (.int .u8 (c.a.toNat : Int)) := by rw [e4]; exact s3'
  clear e4 s0' s1' s2' s3'
  have xl := Blk.lt C4.1
  have HQ := Lib.hid (And.intro Q4 (And.intro C4 B4))
  clear Q4 C4 B4
  have g0 : (0 : Int) ≤ (p : Int) := Int.natCast_nonneg _
  have g1 : (p : Int) < 64 := by omega
  have g2 : (p : Int) < ((64 : Nat) : Int) := by omega
  go_region
  have e8 : (p : Int) % 256 = (p : Int) := by omega
  go_wp2_with fail
  go_ret
  refine ⟨⟨_, rfl, row8_new w4.drew HQ.out.2.2.size _ [UInt8.ofNat p] ?_⟩, ?_⟩
  · simp [C8]
    omega
  · exact ((HQ.out.2.2.drew).alloc HQ.out.2.2.size _)
set_option maxRecDepth 100000 in
set_option maxHeartbeats 1000000 in
theorem qoiWrite_full {w : World} {x p : Nat} {last c : Qc} {seen : List Qc} (h : CodAt w x last seen) (hp : qplace c = p) {q : Qc} (hs : seen[p]? = some q) (hq : q ≠ c) (ha : c.a ≠ last.a) : Calls Tryz.prog 52 #[.pointer (some ⟨x, 0, none⟩), .agg #[.int .u8 (c.r.toNat : Int), .int .u8 (c.g.toNat : Int), .int .u8 (c.b.toNat : Int), .int .u8 (c.a.toNat : Int)]] w fun e w' => (∃ v, e = .returned v ∧ Row8 w' v w.heap.size [255, c.r, c.g, c.b, c.a]) ∧ Below w.heap.size w w' := by
  have hxl := Blk.lt h.1
  have HP := Lib.hid (fun w => qoiPlace hp w)
  have hp64 : p < 64 := by rw [← hp]; exact qplace_lt c
  have H := Lib.hid h
  have HS := Lib.hid (show (last :: seen)[p + 1]? = some q from hs)
  clear h hp hs
  go_enter Tryz.func52, Tryz.ntmps52
  have Q0 : QB (w.alloc (.cells #[.int .u8 (c.r.toNat : Int), .int .u8 (c.g.toNat : Int), .int .u8 (c.b.toNat : Int), .int .u8 (c.a.toNat : Int)] 67)) w.heap.size c := Blk.new _ _ _
  have C0 : CodAt (w.alloc (.cells #[.int .u8 (c.r.toNat : Int), .int .u8 (c.g.toNat : Int), .int .u8 (c.b.toNat : Int), .int .u8 (c.a.toNat : Int)] 67)) x last seen := ⟨Blk.alloc H.out.1 _, H.out.2⟩
  have B0 : Below w.heap.size w (w.alloc (.cells #[.int .u8 (c.r.toNat : Int), .int .u8 (c.g.toNat : Int), .int .u8 (c.b.toNat : Int), .int .u8 (c.a.toNat : Int)] 67)) := (Below.refl _ _).alloc (Nat.le_refl _) _
  have W0 := Lib.hid (And.intro Q0 (And.intro C0 B0))
  clear Q0 C0 B0
  go_wp2_with (go_at_call 104; refine (HP.out _).mono ?_; rintro e w4 ⟨rfl, b4⟩; have Q4 : QB w4 w.heap.size c := Blk.below W0.out.1 b4 (Blk.lt W0.out.1); have C4 : CodAt w4 x last seen := ⟨Blk.below W0.out.2.1.1 b4 (Blk.lt W0.out.2.1.1), W0.out.2.1.2⟩; have B4 : Below w.heap.size w w4 := W0.out.2.2.trans (b4.mono (by simp)); clear b4)
  obtain ⟨q0, q1, q2, q3, ql⟩ := QB.all Q4
  obtain ⟨s0', s1', s2', s3'⟩ := CodAt.cell C4 (p + 1) q HS.out
  have e4 : ∀ j, 4 + p * 4 + j = (p + 1) * 4 + j := fun j => by omega
  have s0 : w4.cell? ⟨x, 4 + p * 4, none⟩ = some (.int .u8 (q.r.toNat : Int)) := by rw [show 4 + p * 4 = (p + 1) * 4 from by omega]; exact s0'
  have s1 : w4.cell? ⟨x, 4 + p * 4 + 1, none⟩ = some (.int .u8 (q.g.toNat : Int)) := by rw [e4]; exact s1'
  have s2 : w4.cell? ⟨x, 4 + p * 4 + 2, none⟩ = some (.int .u8 (q.b.toNat : Int)) := by rw [e4]; exact s2'
  have s3 : w4.cell? ⟨x, 4 + p * 4 + 3, none⟩ = some (.int .u8 (q.a.toNat : Int)) := by rw [e4]; exact s3'
  clear e4 s0' s1' s2' s3'
  have xl := Blk.lt C4.1
  have HQ := Lib.hid (And.intro Q4 (And.intro C4 B4))
  clear Q4 C4 B4
  have g0 : (0 : Int) ≤ (p : Int) := Int.natCast_nonneg _
  have g1 : (p : Int) < 64 := by omega
  have g2 : (p : Int) < ((64 : Nat) : Int) := by omega
  obtain ⟨l0, l1, l2, l3⟩ := CodAt.cell HQ.out.2.1 0 last rfl
  simp only [Nat.zero_mul, Nat.zero_add] at l0 l1 l2 l3
  have a0 : ¬ (c.a.toNat : Int) = (last.a.toNat : Int) := fun h => ha (UInt8.toNat_inj.1 (by omega))
  rcases qc_ne hq with k0 | ⟨k, k0⟩ | ⟨k, k', k0⟩ | ⟨k, k', k'', k0⟩
  · go_region
    go_wp2_with fail
    go_region
    go_wp2_with fail
    go_ret
    refine ⟨⟨_, rfl, row8_new w4.drew.drew HQ.out.2.2.size _ [255, c.r, c.g, c.b, c.a] ?_⟩, ?_⟩
    · simp [C8]
    · exact ((HQ.out.2.2.drew.drew).alloc HQ.out.2.2.size _)
  · rw [k] at s0
    go_region
    go_wp2_with fail
    go_region
    go_wp2_with fail
    go_ret
    refine ⟨⟨_, rfl, row8_new w4.drew.drew HQ.out.2.2.size _ [255, c.r, c.g, c.b, c.a] ?_⟩, ?_⟩
    · simp [C8]
    · exact ((HQ.out.2.2.drew.drew).alloc HQ.out.2.2.size _)
  · rw [k] at s0; rw [k'] at s1
    go_region
    go_wp2_with fail
    go_region
    go_wp2_with fail
    go_ret
    refine ⟨⟨_, rfl, row8_new w4.drew.drew HQ.out.2.2.size _ [255, c.r, c.g, c.b, c.a] ?_⟩, ?_⟩
    · simp [C8]
    · exact ((HQ.out.2.2.drew.drew).alloc HQ.out.2.2.size _)
  · rw [k] at s0; rw [k'] at s1; rw [k''] at s2
    go_region
    go_wp2_with fail
    go_region
    go_wp2_with fail
    go_ret
    refine ⟨⟨_, rfl, row8_new w4.drew.drew HQ.out.2.2.size _ [255, c.r, c.g, c.b, c.a] ?_⟩, ?_⟩
    · simp [C8]
    · exact ((HQ.out.2.2.drew.drew).alloc HQ.out.2.2.size _)
end Go.Proofs.YtojobfnbakiicaaGreat
