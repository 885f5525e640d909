/- qoi: Place, apart, within; a coder's block, begin, note. -/
import Derived.Test.YtojobfnbakiicaaGreatCols
import Derived.Test.YtojobfnbakiicaaGreatRas
import Derived.BigRegion
namespace Go.Proofs.YtojobfnbakiicaaGreat
open Go.RowKit
set_option linter.unusedVariables false
set_option linter.unusedSimpArgs false

/-- where a pixel stands among the seen ones -/
def qplace (c : Qc) : Nat := (c.r.toNat * 3 + c.g.toNat * 5 + c.b.toNat * 7 + c.a.toNat * 11) % 64
theorem qplace_lt (c : Qc) : qplace c < 64 := Nat.mod_lt _ (by decide)
theorem qoiPlace {c : Qc} {p : Nat} (hp : qplace c = p) (w : World) : Calls Tryz.prog 104 #[.agg #[.int .u8 (c.r.toNat : Int), .int .u8 (c.g.toNat : Int), .int .u8 (c.b.toNat : Int), .int .u8 (c.a.toNat : Int)]] w fun e w' => e = .returned (.int .i64 (p : Int)) ∧ Below w.heap.size w w' := by
  have h1 : (c.r.toNat : Int) < 256 := by have := UInt8.toNat_lt c.r; omega
  have h2 : (c.g.toNat : Int) < 256 := by have := UInt8.toNat_lt c.g; omega
  have h3 : (c.b.toNat : Int) < 256 := by have := UInt8.toNat_lt c.b; omega
  have h4 : (c.a.toNat : Int) < 256 := by have := UInt8.toNat_lt c.a; omega
  have e1 : ((c.r.toNat : Int) * 3 + (c.g.toNat : Int) * 5 + (c.b.toNat : Int) * 7 + (c.a.toNat : Int) * 11) % 64 = (p : Int) := by rw [← hp]; unfold qplace; omega
  have e2 : Int.tmod ((c.r.toNat : Int) * 3 + (c.g.toNat : Int) * 5 + (c.b.toNat : Int) * 7 + (c.a.toNat : Int) * 11) 64 = (p : Int) := by rw [Int.tmod_eq_emod_of_nonneg (by omega)]; exact e1
  clear hp
  go_enter Tryz.func104, Tryz.ntmps104
  go_wp2_with fail
  go_ret
  exact ⟨rfl, (Below.refl _ _).alloc (Nat.le_refl _) _⟩
/-- a difference of two channels, from -128 to 127 -/
def qapart (a b : UInt8) : Int := ((a.toNat : Int) - (b.toNat : Int) + 128) % 256 - 128
theorem qoiApart (a b : UInt8) (w : World) : Calls Tryz.prog 105 #[.int .u8 (a.toNat : Int), .int .u8 (b.toNat : Int)] w fun e w' => e = .returned (.int .i64 (qapart a b)) ∧ w = w' := by
  have h1 : (a.toNat : Int) < 256 := by have := UInt8.toNat_lt a; omega
  have h2 : (b.toNat : Int) < 256 := by have := UInt8.toNat_lt b; omega
  go_enter Tryz.func105, Tryz.ntmps105
  go_wp2_with fail
  go_ret
  refine ⟨ret1 (vint ?_), rfl⟩
  have e8 : ∀ n : Int, IntKind.i8.wrap n = (n + 128) % 256 - 128 := fun n => by
    simp [IntKind.wrap, IntKind.bits, IntKind.signed]
    split <;> omega
  rw [e8]
  unfold wrap64 qapart
  omega
theorem qoiWithin {v a b : Int} {r : Bool} (hr : decide (a ≤ v ∧ v ≤ b) = r) (w : World) : Calls Tryz.prog 106 #[.int .i64 v, .int .i64 a, .int .i64 b] w fun e w' => e = .returned (.bool r) ∧ w = w' := by
  subst hr
  by_cases h : a ≤ v
  · go_enter Tryz.func106, Tryz.ntmps106
    go_wp2_with fail
    go_ret
    exact ⟨ret1 (vbool (decide_eq_decide.2 ⟨fun h2 => ⟨h, h2⟩, fun h2 => h2.2⟩)), rfl⟩
  · rw [decide_eq_false (fun h2 => h h2.1)]
    have h' : v < a := by omega
    go_enter Tryz.func106, Tryz.ntmps106
    go_wp2_with fail
    go_ret
    exact ⟨rfl, rfl⟩
/-- a coder's block: the last pixel and the seen ones -/
def CodAt (w : World) (x : Nat) (last : Qc) (seen : List Qc) : Prop := Blk w x 72 (cq (last :: seen)).toArray ∧ seen.length = 64
theorem cq_set (M : List Qc) (i : Nat) (q : Qc) : ((((cq M).toArray.setIfInBounds (i * 4) (.int .u8 (q.r.toNat : Int))).setIfInBounds (i * 4 + 1) (.int .u8 (q.g.toNat : Int))).setIfInBounds (i * 4 + 2) (.int .u8 (q.b.toNat : Int))).setIfInBounds (i * 4 + 3) (.int .u8 (q.a.toNat : Int)) = (cq (M.set i q)).toArray := by
  simp only [List.setIfInBounds_toArray]
  congr 1
  induction M generalizing i with
  | nil => simp [cq]
  | cons x M ih =>
    have e : ∀ (y : Qc) (L : List Qc), cq (y :: L) = y.cells ++ cq L := fun y L => by simp [cq]
    cases i with
    | zero => rw [List.set_cons_zero, e, e]; simp [Qc.cells]
    | succ i =>
      rw [List.set_cons_succ, e, e, ← ih i]
      have e4 : (i + 1) * 4 = i * 4 + 4 := by omega
      rw [e4]
      simp [Qc.cells, List.set_cons_succ]
theorem CodAt.cell {w : World} {x : Nat} {last : Qc} {seen : List Qc} (h : CodAt w x last seen) (i : Nat) (q : Qc) (hq : (last :: seen)[i]? = some q) : w.cell? ⟨x, i * 4, none⟩ = some (.int .u8 (q.r.toNat : Int)) ∧ w.cell? ⟨x, i * 4 + 1, none⟩ = some (.int .u8 (q.g.toNat : Int)) ∧ w.cell? ⟨x, i * 4 + 2, none⟩ = some (.int .u8 (q.b.toNat : Int)) ∧ w.cell? ⟨x, i * 4 + 3, none⟩ = some (.int .u8 (q.a.toNat : Int)) := by
  have k : ∀ j, j < 4 → w.cell? ⟨x, i * 4 + j, none⟩ = q.cells[j]? := fun j hj => by
    rw [Blk.cell h.1, List.getElem?_toArray, cq_at _ i j q hq hj]
  exact ⟨k 0 (by omega), k 1 (by omega), k 2 (by omega), k 3 (by omega)⟩
def q255 : Qc := ⟨0, 0, 0, 255⟩
def qnone : Qc := ⟨0, 0, 0, 0⟩
set_option maxRecDepth 100000 in
theorem qoiBegin (w : World) : Calls Tryz.prog 48 #[] w fun e w' => ∃ x, e = .returned (.pointer (some ⟨x, 0, none⟩)) ∧ w.heap.size ≤ x ∧ CodAt w' x q255 (List.replicate 64 qnone) ∧ Below w.heap.size w w' := by
  have hz0 : ∀ w : World, (zeroValue 72).run Tryz.prog w = .ok (.agg #[.int .u8 0, .int .u8 0, .int .u8 0, .int .u8 0, .int .u8 0, .int .u8 0, .int .u8 0, .int .u8 0, .int .u8 0, .int .u8 0, .int .u8 0, .int .u8 0, .int .u8 0, .int .u8 0, .int .u8 0, .int .u8 0, .int .u8 0, .int .u8 0, .int .u8 0, .int .u8 0, .int .u8 0, .int .u8 0, .int .u8 0, .int .u8 0, .int .u8 0, .int .u8 0, .int .u8 0, .int .u8 0, .int .u8 0, .int .u8 0, .int .u8 0, .int .u8 0, .int .u8 0, .int .u8 0, .int .u8 0, .int .u8 0, .int .u8 0, .int .u8 0, .int .u8 0, .int .u8 0, .int .u8 0, .int .u8 0, .int .u8 0, .int .u8 0, .int .u8 0, .int .u8 0, .int .u8 0, .int .u8 0, .int .u8 0, .int .u8 0, .int .u8 0, .int .u8 0, .int .u8 0, .int .u8 0, .int .u8 0, .int .u8 0, .int .u8 0, .int .u8 0, .int .u8 0, .int .u8 0, .int .u8 0, .int .u8 0, .int .u8 0, .int .u8 0, .int .u8 0, .int .u8 0, .int .u8 0, .int .u8 0, .int .u8 0, .int .u8 0, .int .u8 0, .int .u8 0, .int .u8 0, .int .u8 0, .int .u8 0, .int .u8 0, .int .u8 0, .int .u8 0, .int .u8 0, .int .u8 0, .int .u8 0, .int .u8 0, .int .u8 0, .int .u8 0, .int .u8 0, .int .u8 0, .int .u8 0, .int .u8 0, .int .u8 0, .int .u8 0, .int .u8 0, .int .u8 0, .int .u8 0, .int .u8 0, .int .u8 0, .int .u8 0, .int .u8 0, .int .u8 0, .int .u8 0, .int .u8 0, .int .u8 0, .int .u8 0, .int .u8 0, .int .u8 0, .int .u8 0, .int .u8 0, .int .u8 0, .int .u8 0, .int .u8 0, .int .u8 0, .int .u8 0, .int .u8 0, .int .u8 0, .int .u8 0, .int .u8 0, .int .u8 0, .int .u8 0, .int .u8 0, .int .u8 0, .int .u8 0, .int .u8 0, .int .u8 0, .int .u8 0, .int .u8 0, .int .u8 0, .int .u8 0, .int .u8 0, .int .u8 0, .int .u8 0, .int .u8 0, .int .u8 0, .int .u8 0, .int .u8 0, .int .u8 0, .int .u8 0, .int .u8 0, .int .u8 0, .int .u8 0, .int .u8 0, .int .u8 0, .int .u8 0, .int .u8 0, .int .u8 0, .int .u8 0, .int .u8 0, .int .u8 0, .int .u8 0, .int .u8 0, .int .u8 0, .int .u8 0, .int .u8 0, .int .u8 0, .int .u8 0, .int .u8 0, .int .u8 0, .int .u8 0, .int .u8 0, .int .u8 0, .int .u8 0, .int .u8 0, .int .u8 0, .int .u8 0, .int .u8 0, .int .u8 0, .int .u8 0, .int .u8 0, .int .u8 0, .int .u8 0, .int .u8 0, .int .u8 0, .int .u8 0, .int .u8 0, .int .u8 0, .int .u8 0, .int .u8 0, .int .u8 0, .int .u8 0, .int .u8 0, .int .u8 0, .int .u8 0, .int .u8 0, .int .u8 0, .int .u8 0, .int .u8 0, .int .u8 0, .int .u8 0, .int .u8 0, .int .u8 0, .int .u8 0, .int .u8 0, .int .u8 0, .int .u8 0, .int .u8 0, .int .u8 0, .int .u8 0, .int .u8 0, .int .u8 0, .int .u8 0, .int .u8 0, .int .u8 0, .int .u8 0, .int .u8 0, .int .u8 0, .int .u8 0, .int .u8 0, .int .u8 0, .int .u8 0, .int .u8 0, .int .u8 0, .int .u8 0, .int .u8 0, .int .u8 0, .int .u8 0, .int .u8 0, .int .u8 0, .int .u8 0, .int .u8 0, .int .u8 0, .int .u8 0, .int .u8 0, .int .u8 0, .int .u8 0, .int .u8 0, .int .u8 0, .int .u8 0, .int .u8 0, .int .u8 0, .int .u8 0, .int .u8 0, .int .u8 0, .int .u8 0, .int .u8 0, .int .u8 0, .int .u8 0, .int .u8 0, .int .u8 0, .int .u8 0, .int .u8 0, .int .u8 0, .int .u8 0, .int .u8 0, .int .u8 0, .int .u8 0, .int .u8 0, .int .u8 0, .int .u8 0, .int .u8 0, .int .u8 0, .int .u8 0, .int .u8 0, .int .u8 0, .int .u8 0, .int .u8 0, .int .u8 0, .int .u8 0, .int .u8 0, .int .u8 0, .int .u8 0, .int .u8 0, .int .u8 0]) w := fun _ => by kernel_rfl
  go_enter Tryz.func48, Tryz.ntmps48
  go_wp2_with fail
  go_ret
  exact ⟨_, rfl, Nat.le_refl _, ⟨(Blk.new _ _ _).eq_ (by kernel_rfl), by simp⟩, (Below.refl _ _).alloc (Nat.le_refl _) _⟩
/-- a colour's box -/
def QB (w : World) (b : Nat) (c : Qc) : Prop := Blk w b 67 #[.int .u8 (c.r.toNat : Int), .int .u8 (c.g.toNat : Int), .int .u8 (c.b.toNat : Int), .int .u8 (c.a.toNat : Int)]
theorem QB.all {w : World} {b : Nat} {c : Qc} (h : QB w b c) : w.cell? ⟨b, 0, none⟩ = some (.int .u8 (c.r.toNat : Int)) ∧ w.cell? ⟨b, 1, none⟩ = some (.int .u8 (c.g.toNat : Int)) ∧ w.cell? ⟨b, 2, none⟩ = some (.int .u8 (c.b.toNat : Int)) ∧ w.cell? ⟨b, 3, none⟩ = some (.int .u8 (c.a.toNat : Int)) ∧ b < w.heap.size := ⟨Blk.cell h 0, Blk.cell h 1, Blk.cell h 2, Blk.cell h 3, Blk.lt h⟩
def stQ (w : World) (x o : Nat) (q : Qc) : World := (((w.setCell ⟨x, o, none⟩ (.int .u8 (q.r.toNat : Int))).setCell ⟨x, o + 1, none⟩ (.int .u8 (q.g.toNat : Int))).setCell ⟨x, o + 2, none⟩ (.int .u8 (q.b.toNat : Int))).setCell ⟨x, o + 3, none⟩ (.int .u8 (q.a.toNat : Int))
theorem CodAt.stQ {w : World} {x : Nat} {last : Qc} {seen : List Qc} (h : CodAt w x last seen) (i : Nat) (q : Qc) : Blk (stQ w x (i * 4) q) x 72 (cq ((last :: seen).set i q)).toArray :=
  (Blk.set_ (Blk.set_ (Blk.set_ (Blk.set_ h.1 (i * 4) _) (i * 4 + 1) _) (i * 4 + 2) _) (i * 4 + 3) _).eq_ (cq_set _ _ _)
theorem Turn.stQ {S : List Nat} {a w : World} {x o : Nat} {q : Qc} (h : Turn S a w) (hx : x ∈ S ∨ a.heap.size ≤ x) : Turn S a (Go.Proofs.YtojobfnbakiicaaGreat.stQ w x o q) := (((h.set_ o _ hx).set_ (o + 1) _ hx).set_ (o + 2) _ hx).set_ (o + 3) _ hx
theorem Blk.stQ {w : World} {x o g : Nat} {t : TypeId} {cs : Array Value} {q : Qc} (h : Blk w g t cs) (hx : g ≠ x) : Blk (Go.Proofs.YtojobfnbakiicaaGreat.stQ w x o q) g t cs := Blk.far (Blk.far (Blk.far (Blk.far h (p := ⟨x, o, none⟩) hx _) (p := ⟨x, o + 1, none⟩) hx _) (p := ⟨x, o + 2, none⟩) hx _) (p := ⟨x, o + 3, none⟩) hx _
set_option maxRecDepth 100000 in
set_option maxHeartbeats 1000000 in
theorem qoiNote {w : World} {x p : Nat} {last c : Qc} {seen : List Qc} (h : CodAt w x last seen) (hp : qplace c = p) : Calls Tryz.prog 51 #[.pointer (some ⟨x, 0, none⟩), .agg #[.int .u8 (c.r.toNat : Int), .int .u8 (c.g.toNat : Int), .int .u8 (c.b.toNat : Int), .int .u8 (c.a.toNat : Int)]] w fun e w' => e = .returned (.tuple #[]) ∧ CodAt w' x c (seen.set p c) ∧ Turn [x] w w' := by
  have hxl := Blk.lt h.1
  have H := Lib.hid h
  have HP := Lib.hid (fun w => qoiPlace hp w)
  have hp64 : p < 64 := by rw [← hp]; exact qplace_lt c
  obtain ⟨l0, l1, l2, l3⟩ := CodAt.cell h 0 last rfl
  have z0 := Blk.frozen h.1 0
  have z1 := Blk.frozen h.1 1
  have z2 := Blk.frozen h.1 2
  have z3 := Blk.frozen h.1 3
  have hne : x ≠ w.heap.size := Nat.ne_of_lt hxl
  obtain ⟨w2, e2⟩ : ∃ w2, (stQ w x (0 * 4) c).alloc (.cells #[.int .u8 (c.r.toNat : Int), .int .u8 (c.g.toNat : Int), .int .u8 (c.b.toNat : Int), .int .u8 (c.a.toNat : Int)] 67) = w2 := ⟨_, rfl⟩
  have hsz : (stQ w x (0 * 4) c).heap.size = w.heap.size := by simp [stQ]
  have Q2 : QB w2 w.heap.size c := by rw [← e2, ← hsz]; exact Blk.new _ _ _
  have C2 : CodAt w2 x c seen := by rw [← e2]; exact ⟨Blk.alloc (h.stQ 0 c) _, h.2⟩
  have T2 : Turn [x] w w2 := by rw [← e2]; exact (((Turn.refl _ _).stQ (by simp)).alloc _)
  unfold stQ at e2
  simp only [Nat.zero_mul, Nat.zero_add] at l0 l1 l2 l3 e2
  clear h hp
  have HQ := Lib.hid Q2
  have HC := Lib.hid C2
  have HT := Lib.hid T2
  have E2 := Lib.hid e2
  clear Q2 C2 T2 e2 hsz
  go_enter Tryz.func51, Tryz.ntmps51
  go_wp2_with fail
  rw [E2.out]
  clear l0 l1 l2 l3 z0 z1 z2 z3 E2 H
  obtain ⟨q0, q1, q2, q3, ql⟩ := QB.all HQ.out
  have xl := Blk.lt HC.out.1
  obtain ⟨sp, hsp⟩ : ∃ q, seen[p]? = some q := ⟨seen[p]'(by have := HC.out.2; omega), List.getElem?_eq_getElem _⟩
  have HS := Lib.hid (show (c :: seen)[p + 1]? = some sp from hsp)
  have e4 : ∀ j, 4 + p * 4 + j = (p + 1) * 4 + j := fun j => by omega
  have HE := Lib.hid e4
  have s0 : w2.cell? ⟨x, 4 + p * 4, none⟩ = some (.int .u8 (sp.r.toNat : Int)) := by have := (CodAt.cell HC.out (p + 1) sp HS.out).1; rwa [show (p + 1) * 4 = 4 + p * 4 from by omega] at this
  have s1 : w2.cell? ⟨x, 4 + p * 4 + 1, none⟩ = some (.int .u8 (sp.g.toNat : Int)) := by rw [e4]; exact (CodAt.cell HC.out (p + 1) sp HS.out).2.1
  have s2 : w2.cell? ⟨x, 4 + p * 4 + 2, none⟩ = some (.int .u8 (sp.b.toNat : Int)) := by rw [e4]; exact (CodAt.cell HC.out (p + 1) sp HS.out).2.2.1
  have s3 : w2.cell? ⟨x, 4 + p * 4 + 3, none⟩ = some (.int .u8 (sp.a.toNat : Int)) := by rw [e4]; exact (CodAt.cell HC.out (p + 1) sp HS.out).2.2.2
  clear e4 hsp
  have z0 := Blk.frozen HC.out.1 (4 + p * 4)
  have z1 := Blk.frozen HC.out.1 (4 + p * 4 + 1)
  have z2 := Blk.frozen HC.out.1 (4 + p * 4 + 2)
  have z3 := Blk.frozen HC.out.1 (4 + p * 4 + 3)
  have g0 : (0 : Int) ≤ (p : Int) := Int.natCast_nonneg _
  have g1 : (p : Int) < 64 := by omega
  have g2 : (p : Int) < ((64 : Nat) : Int) := by omega
  have g3 : ¬ (p : Int) < 0 := by omega
  go_region_with (go_at_call 104; refine (HP.out _).mono ?_; rintro e w4 ⟨rfl, b4⟩; have Q4 : QB w4 w.heap.size c := Blk.below (Blk.drew HQ.out) b4 (Blk.lt HQ.out); have C4 : Blk w4 x 72 (cq (c :: seen)).toArray := Blk.below (Blk.drew HC.out.1) b4 (Blk.lt HC.out.1); have T4 : Turn [x] w w4 := HT.out.drew.trans (Turn.of_below b4); have bx := Below.cell b4 (p := ⟨x, 4 + p * 4, none⟩) (Blk.lt HC.out.1); have bx1 := Below.cell b4 (p := ⟨x, 4 + p * 4 + 1, none⟩) (Blk.lt HC.out.1); have bx2 := Below.cell b4 (p := ⟨x, 4 + p * 4 + 2, none⟩) (Blk.lt HC.out.1); have bx3 := Below.cell b4 (p := ⟨x, 4 + p * 4 + 3, none⟩) (Blk.lt HC.out.1); have s0 := bx.trans s0; have s1 := bx1.trans s1; have s2 := bx2.trans s2; have s3 := bx3.trans s3; clear bx bx1 bx2 bx3 q0 q1 q2 q3 ql xl z0 z1 z2 z3; obtain ⟨q0, q1, q2, q3, ql⟩ := QB.all Q4; have xl := Blk.lt C4; have z0 := Blk.frozen C4 (4 + p * 4); have z1 := Blk.frozen C4 (4 + p * 4 + 1); have z2 := Blk.frozen C4 (4 + p * 4 + 2); have z3 := Blk.frozen C4 (4 + p * 4 + 3))
  all_goals (
    go_end0
    refine ⟨rfl, ⟨?_, by rw [List.length_set]; exact HC.out.2⟩, T4.stQ (o := 4 + p * 4) (q := c) (by simp)⟩
    have e := CodAt.stQ (w := w4) ⟨C4, HC.out.2⟩ (p + 1) c
    rw [show (p + 1) * 4 = 4 + p * 4 from by omega, List.set_cons_succ] at e
    exact e)
end Go.Proofs.YtojobfnbakiicaaGreat
