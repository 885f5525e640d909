/- The law TgapixFiles. -/
import Derived.Test.YtccldalagbfmhaaTgaRp
import Derived.Test.YtccldalagbfmhaaTgaOf
import Derived.Test.YtccldalagbfmhaaTgaN2
import Derived.Test.YtccldalagbfmhaaTgaH
import Derived.Test.YtccldalagbfmhaaTgaR
import Derived.Test.YtccldalagbfmhaaTgaU
import Derived.BigQuiet
namespace Go.Proofs.Ytccldalagbfmhaa
open Go.RowKit
set_option linter.unusedVariables false
set_option linter.unusedSimpArgs false

theorem awake17_any (w : World) : Calls Try.prog 5 #[] w fun e w' => e = .returned (.bool true) ∧ Below w.heap.size w w' := by
  have H1 : Hid (∀ w : World, Calls Try.prog 19 #[.string ⟨#[0, 128]⟩, .int .i64 16, .int .i64 1] w fun e w' => e = .returned (.tuple #[.agg #[.int .u8 0, .int .u8 0, .int .u8 0, .int .u8 255], .bool true]) ∧ Below w.heap.size w w') := Lib.hid (fun w => tgaColorC (b := ⟨#[0, 128]⟩) (n := 16) (al := 1) (q := ⟨0, 0, 0, 255⟩) (by decide) (by decide) (by decide) (by rfl) w)
  have H2 : Hid (∀ w : World, Calls Try.prog 19 #[.string ⟨#[0, 0]⟩, .int .i64 16, .int .i64 1] w fun e w' => e = .returned (.tuple #[.agg #[.int .u8 0, .int .u8 0, .int .u8 0, .int .u8 0], .bool true]) ∧ Below w.heap.size w w') := Lib.hid (fun w => tgaColorC (b := ⟨#[0, 0]⟩) (n := 16) (al := 1) (q := ⟨0, 0, 0, 0⟩) (by decide) (by decide) (by decide) (by rfl) w)
  go_enter Try.func5, Try.ntmps5
  go_upto_region 2 with (go_at_call 19; refine (H1.out _).mono ?_; rintro e w1 ⟨rfl, b1⟩)
  have C1 : Blk (w1.alloc (.cells #[.int .u8 0, .int .u8 0, .int .u8 0, .int .u8 255] 49)) w1.heap.size 49 #[.int .u8 0, .int .u8 0, .int .u8 0, .int .u8 255] := Blk.new _ _ _
  have B1 : Below w.heap.size w (w1.alloc (.cells #[.int .u8 0, .int .u8 0, .int .u8 0, .int .u8 255] 49)) := b1.alloc b1.size _
  generalize w1.alloc (.cells #[.int .u8 0, .int .u8 0, .int .u8 0, .int .u8 255] 49) = w2 at C1 B1 ⊢
  generalize w1.heap.size = q1 at C1 ⊢
  go_upto_region 3 with (go_at_call 19; refine (H2.out _).mono ?_; rintro e w3 ⟨rfl, b3⟩)
  have C4 : Blk (w3.alloc (.cells #[.int .u8 0, .int .u8 0, .int .u8 0, .int .u8 0] 49)) q1 49 #[.int .u8 0, .int .u8 0, .int .u8 0, .int .u8 255] := Blk.alloc (Blk.below C1 b3 (Blk.lt C1)) _
  have D4 : Blk (w3.alloc (.cells #[.int .u8 0, .int .u8 0, .int .u8 0, .int .u8 0] 49)) w3.heap.size 49 #[.int .u8 0, .int .u8 0, .int .u8 0, .int .u8 0] := Blk.new _ _ _
  have B4 : Below w.heap.size w (w3.alloc (.cells #[.int .u8 0, .int .u8 0, .int .u8 0, .int .u8 0] 49)) := (below_next B1 b3).alloc (below_next B1 b3).size _
  generalize w3.alloc (.cells #[.int .u8 0, .int .u8 0, .int .u8 0, .int .u8 0] 49) = w4 at C4 D4 B4 ⊢
  generalize w3.heap.size = q2 at D4 ⊢
  have c0 : w4.cell? ⟨q1, 0, none⟩ = some (.int .u8 0) := Blk.cell C4 0
  have c1 : w4.cell? ⟨q1, 1, none⟩ = some (.int .u8 0) := Blk.cell C4 1
  have c2 : w4.cell? ⟨q1, 2, none⟩ = some (.int .u8 0) := Blk.cell C4 2
  have c3 : w4.cell? ⟨q1, 3, none⟩ = some (.int .u8 255) := Blk.cell C4 3
  have d0 : w4.cell? ⟨q2, 0, none⟩ = some (.int .u8 0) := Blk.cell D4 0
  have d1 : w4.cell? ⟨q2, 1, none⟩ = some (.int .u8 0) := Blk.cell D4 1
  have d2 : w4.cell? ⟨q2, 2, none⟩ = some (.int .u8 0) := Blk.cell D4 2
  have d3 : w4.cell? ⟨q2, 3, none⟩ = some (.int .u8 0) := Blk.cell D4 3
  go_wp2_with fail
  go_ret
  exact ⟨rfl, B4⟩
theorem TPal.below {w w' : World} {g m B : Nat} {h : TgaHd} {lv : Value} {M : List Qc} (P : TPal w g h lv M m B) (b : Below w.heap.size w w') : TPal w' g h lv M m B := by
  rcases P with h1 | ⟨h1, h2, h3, h4, l, b', d, h5, h6, h7⟩
  · exact .inl h1
  · exact .inr ⟨h1, h2, h3, h4, l, b', d, h5, h6.below b, h7⟩
theorem TPal.turn {w w' : World} {g m B p g' t a f : Nat} {s : ByteArray} {h : TgaHd} {lv : Value} {M : List Qc} {x : Led} (P : TPal w g h lv M m B) (S : SrcAt w p g' s f t a) (L : LedAt w g x) (k : Turn [p, g] w w') : TPal w' g h lv M m B := by
  rcases P with h1 | ⟨h1, h2, h3, h4, l, b', d, h5, h6, h7⟩
  · exact .inl h1
  · have hl := h6.led L
    have hs := h6.src S
    exact .inr ⟨h1, h2, h3, h4, l, b', d, h5, h6.turn k (by simp only [List.mem_cons, List.not_mem_nil, or_false, not_or]; exact ⟨hs.1, hl.1⟩) (by simp only [List.mem_cons, List.not_mem_nil, or_false, not_or]; exact ⟨hs.2.1, hl.2.1⟩) (by simp only [List.mem_cons, List.not_mem_nil, or_false, not_or]; exact ⟨hs.2.2, hl.2.2⟩), h7⟩
theorem TPal.ptr {w : World} {g m B : Nat} {h : TgaHd} {lv : Value} {M : List Qc} (P : TPal w g h lv M m B) : (lv = .pointer none ∧ ¬ h.mapped) ∨ (∃ l, lv = .pointer (some ⟨l, 0, none⟩) ∧ h.mapped) := by
  rcases P with ⟨h0, h1, _⟩ | ⟨h1, h2, h3, h4, l, b', d, h5, h6⟩
  · exact .inl ⟨h1, h0⟩
  · exact .inr ⟨l, h5, h1⟩
theorem RowM.turn {w w' : World} {v : Value} {M : List Qc} {p g g' t a f : Nat} {s : ByteArray} {x : Led} (R : RowM w v M) (S : SrcAt w p g' s f t a) (L : LedAt w g x) (k : Turn [p, g] w w') : RowM w' v M := by
  rcases R with h | ⟨b, cap, rfl, h2, h3⟩
  · exact .inl h
  · refine .inr ⟨b, cap, rfl, Nat.lt_of_lt_of_le h2 k.size, ?_⟩
    intro i q hi
    obtain ⟨c0, c1, c2, c3⟩ := h3 i q hi
    have e0 := h3 0 (M[0]'(by have := (List.getElem?_eq_some_iff.1 hi).1; omega)) (List.getElem?_eq_getElem _)
    have hb : b ∉ [p, g] := by
      simp only [List.mem_cons, List.not_mem_nil, or_false, not_or]
      refine ⟨fun e => ?_, fun e => ?_⟩
      · subst e
        have := Blk.cell S 0
        rw [show (0 + 0 * 4) = 0 from rfl] at e0
        rw [e0.1] at this
        simp [srcCells] at this
      · subst e
        have := L.W
        rw [show (0 + 0 * 4) = 0 from rfl] at e0
        rw [e0.1] at this
        simp at this
    have fwd : ∀ (j : Nat) (u : Value), w.cell? ⟨b, j, none⟩ = some u → w'.cell? ⟨b, j, none⟩ = some u := fun j u e => (World.cell?_of_block (k.block b h2 hb)).trans e
    exact ⟨fwd _ _ c0, fwd _ _ c1, fwd _ _ c2, fwd _ _ c3⟩
/-- what stands while pixels are read -/
structure PfI (w0 w : World) (p g ph hb pm : Nat) (s : ByteArray) (h : TgaHd) (mi : Int) (va : Option Addr) (vn vc : Nat) (M : List Qc) (a0 a m : Nat) (lv : Value) (B0 : Nat) (y : Led) : Prop where
  X : Blk w ph 23 #[.int .i64 (h.name : Int), .int .i64 mi, .int .i64 (h.typ : Int), .int .i64 (h.first : Int), .int .i64 (h.count : Int), .int .i64 (h.entry : Int), .int .i64 (h.W : Int), .int .i64 (h.H : Int), .int .i64 (h.depth : Int), .int .i64 (h.alpha : Int), .bool h.left, .bool h.top, .int .i64 0, .int .i64 0]
  T : Blk w hb 35 #[.int .i64 (h.name : Int), .bool h.map, .int .i64 (h.typ : Int), .int .i64 (h.first : Int), .int .i64 (h.count : Int), .int .i64 (h.entry : Int), .int .i64 (h.W : Int), .int .i64 (h.H : Int), .int .i64 (h.depth : Int), .int .i64 (h.alpha : Int), .bool h.left, .bool h.top]
  Mp : Blk w pm 45 #[.int .i64 (a0 : Int), .slice va vn vc, .int .i64 0, .int .i64 0]
  R : RowM w (.slice va vn vc) M
  S : SrcAt w p g s 0 s.size a
  L : LedAt w g y
  P : TPal w g h lv M m B0
  B : Below w0.heap.size w0 w
  ge : w0.heap.size ≤ p ∧ w0.heap.size ≤ g
section
variable {w0 w w' : World} {p g ph hb pm : Nat} {s : ByteArray} {h : TgaHd} {mi : Int} {va : Option Addr} {vn vc : Nat} {M : List Qc} {a0 a m : Nat} {lv : Value} {B0 : Nat} {y : Led}
theorem PfI.below (I : PfI w0 w p g ph hb pm s h mi va vn vc M a0 a m lv B0 y) (b : Below w.heap.size w w') : PfI w0 w' p g ph hb pm s h mi va vn vc M a0 a m lv B0 y :=
  ⟨Blk.below I.X b (Blk.lt I.X), Blk.below I.T b (Blk.lt I.T), Blk.below I.Mp b (Blk.lt I.Mp), I.R.below b, Blk.below I.S b (Blk.lt I.S), Blk.below I.L b (Blk.lt I.L), I.P.below b, below_next I.B b, I.ge⟩
theorem PfI.turn {a' : Nat} {y' : Led} (I : PfI w0 w p g ph hb pm s h mi va vn vc M a0 a m lv B0 y) (t : Turn [p, g] w w') (S' : SrcAt w' p g s 0 s.size a') (L' : LedAt w' g y') : PfI w0 w' p g ph hb pm s h mi va vn vc M a0 a' m lv B0 y' :=
  ⟨Blk.turn I.X t (by simp only [List.mem_cons, List.not_mem_nil, or_false, not_or]; exact ⟨Blk.ne_ I.X I.S (by decide), Blk.ne_ I.X I.L (by decide)⟩), Blk.turn I.T t (by simp only [List.mem_cons, List.not_mem_nil, or_false, not_or]; exact ⟨Blk.ne_ I.T I.S (by decide), Blk.ne_ I.T I.L (by decide)⟩), Blk.turn I.Mp t (by simp only [List.mem_cons, List.not_mem_nil, or_false, not_or]; exact ⟨Blk.ne_ I.Mp I.S (by decide), Blk.ne_ I.Mp I.L (by decide)⟩), I.R.turn I.S I.L t, S', L', I.P.turn I.S I.L t, Turn.belowNext I.B t (by intro i hi; simp only [List.mem_cons, List.not_mem_nil, or_false] at hi; rcases hi with rfl | rfl; exact I.ge.1; exact I.ge.2) I.B.size, I.ge⟩
end
theorem tgaFault_size2 {s : ByteArray} (h : tgaFault s = none) : 18 ≤ s.size := by
  unfold tgaFault at h
  by_cases h1 : s.size < 18
  · rw [if_pos h1] at h; cases h
  · omega
theorem tgaFault_ok {s : ByteArray} (h : tgaFault s = none) : (tgaHd s).Ok := by
  have h18 := tgaFault_size2 h
  unfold tgaFault at h
  rw [if_neg (by omega)] at h
  exact (tgaHead_none h).1
theorem tgaFault_kind {s : ByteArray} {f : Nat × Nat} (h : tgaFault s = some f) : f.1 ≠ 0 := by
  unfold tgaFault at h
  by_cases h1 : s.size < 18
  · rw [if_pos h1] at h; cases h; simp
  · rw [if_neg h1] at h; exact (tgaHead_some h).1
theorem tgaMapR_kind {s : ByteArray} {h : TgaHd} {g : Nat × Nat} (e : tgaMapR s h = .inl g) : g.1 ≠ 0 := by
  unfold tgaMapR at e
  split at e
  · split at e
    · cases e
    · split at e
      · cases e
      · cases e; simp
  · cases e; simp
theorem tgaRdV_none2 {s : ByteArray} (h : tgaFault s = none) : tgaRdV s = tRV (tgaHd s) := by
  unfold tgaRdV; rw [h]
theorem tmod20 {n : Nat} (h : n ≤ 255) : ∃ N : Nat, Int.tmod (n : Int) 20 = (N : Int) ∧ N ≤ 19 := ⟨n % 20, by rw [Int.tmod_eq_emod_of_nonneg (by omega)]; omega, by omega⟩
theorem typ8 {h : TgaHd} (hk : TgaKnown h.typ) : ∃ r : Int, Int.tmod (h.typ : Int) 8 = r ∧ (r == 1) = decide h.mapped := by
  refine ⟨Int.tmod (h.typ : Int) 8, rfl, ?_⟩
  rw [Int.tmod_eq_emod_of_nonneg (by omega), Bool.eq_iff_iff, beq_iff_eq, decide_eq_true_iff, ← tgaMapped_iff]
  unfold TgaKnown TgaPacked at hk
  omega
theorem pix_ways {w20 : World} {p g b : Nat} {s : ByteArray} {h : TgaHd} {M : List Qc} {y y' : Led} {e : Ending} {t bb : Int} (R : Room y bb t) (ht : t ≤ 9000)
    (hor : (∃ kk aa : Nat, e = .returned (.tuple #[Qc.v ⟨0, 0, 0, 0⟩, .agg #[.int .i64 (kk : Int), .int .i64 2, .int .i64 (aa : Int)]]) ∧ SrcAt w20 p g s 0 s.size b ∧ NoRead y' b s.size kk aa ∧ NoRun y y' b s.size (b + h.size ≤ s.size) kk aa) ∨
     (e = .returned (.tuple #[Qc.v ⟨0, 0, 0, 0⟩, .agg #[.int .i64 ((2 : Nat) : Int), .int .i64 2, .int .i64 (b : Int)]]) ∧ SrcAt w20 p g s 0 s.size (b + h.size) ∧ y'.reason = 0 ∧ b + h.size ≤ s.size ∧ y.work 1 = (y', true) ∧ tgaPixel s h M b = .inl (2, b)) ∨
     (∃ q : Qc, e = .returned (.tuple #[q.v, .agg #[.int .i64 0, .int .i64 0, .int .i64 0]]) ∧ SrcAt w20 p g s 0 s.size (b + h.size) ∧ y'.reason = 0 ∧ b + h.size ≤ s.size ∧ y.work 1 = (y', true) ∧ tgaPixel s h M b = .inr q)) :
    (∃ k j : Nat, e = .returned (.tuple #[.agg #[.int .u8 0, .int .u8 0, .int .u8 0, .int .u8 0], .agg #[.int .i64 (k : Int), .int .i64 2, .int .i64 (j : Int)]]) ∧ k ≠ 0 ∧ tgaPixE s h M b = .inl (k, j) ∧ ∃ b', SrcAt w20 p g s 0 s.size b') ∨ (∃ q : Qc, e = .returned (.tuple #[.agg #[.int .u8 (q.r.toNat : Int), .int .u8 (q.g.toNat : Int), .int .u8 (q.b.toNat : Int), .int .u8 (q.a.toNat : Int)], .agg #[.int .i64 0, .int .i64 0, .int .i64 0]]) ∧ tgaPixE s h M b = .inr q ∧ SrcAt w20 p g s 0 s.size (b + h.size) ∧ b + h.size ≤ s.size ∧ Room y' bb (t + 1)) := by
  rcases hor with ⟨kk, aa, he, s', nr, r2⟩ | ⟨he, s', yr, hle, hw, hp⟩ | ⟨q, he, s', yr, hle, hw, hp⟩
  · obtain ⟨rfl, rfl, hno⟩ := room_pixel_no R ht nr r2
    exact .inl ⟨1, s.size, he, by decide, by unfold tgaPixE; rw [if_neg hno], _, s'⟩
  · exact .inl ⟨2, b, he, by decide, by unfold tgaPixE; rw [if_pos hle, hp], _, s'⟩
  · exact .inr ⟨q, he, by unfold tgaPixE; rw [if_pos hle, hp], s', hle, room_work R ht hw⟩
theorem fwp_gen {c : Code} {Q : Exit → Act → World → Prop} {a : Act} {w : World} {S : World → Prop} (hS : S w) (h : ∀ wx, S wx → c.wp Try.prog Q a wx) : c.wp Try.prog Q a w := h w hS
set_option maxRecDepth 100000 in
set_option maxHeartbeats 2000000 in
theorem tgapixOut_size {s : ByteArray} {n : Nat} {v0 v1 v2 v3 v4 v5 v6 v7 v8 v9 v12 v13 : Int} {v10 v11 : Bool} (HR : Hid (∀ w : World, Calls Try.prog 4 #[.string s] w fun e w' => e = .returned (.agg #[.int .i64 v0, .int .i64 v1, .int .i64 v2, .int .i64 v3, .int .i64 v4, .int .i64 v5, .int .i64 v6, .int .i64 v7, .int .i64 v8, .int .i64 v9, .bool v10, .bool v11, .int .i64 v12, .int .i64 v13]) ∧ Below w.heap.size w w')) (h1 : (900 : Int) < (s.size : Int)) (w : World) :
    Calls Try.prog 3 #[.string s, .int .u8 (n : Int)] w fun e w' => e = .returned (.bool true) ∧ Below w.heap.size w w' := by
  go_enter Try.func3, Try.ntmps3
  go_wp2_with (first
    | (go_at_call 4; refine (HR.out _).mono ?_; rintro e w1 ⟨rfl, b1⟩)
    | (go_at_call 5; refine (awake17_any _).mono ?_; rintro e w2 ⟨rfl, b2⟩))
  go_ret
  exact ⟨rfl, below_next (b1.alloc b1.size _) b2⟩
set_option maxRecDepth 100000 in
set_option maxHeartbeats 2000000 in
theorem tgapixOut_bad {s : ByteArray} {n : Nat} {v0 v1 v2 v3 v4 v5 v6 v7 v8 v9 v12 v13 : Int} {v10 v11 : Bool} (HR : Hid (∀ w : World, Calls Try.prog 4 #[.string s] w fun e w' => e = .returned (.agg #[.int .i64 v0, .int .i64 v1, .int .i64 v2, .int .i64 v3, .int .i64 v4, .int .i64 v5, .int .i64 v6, .int .i64 v7, .int .i64 v8, .int .i64 v9, .bool v10, .bool v11, .int .i64 v12, .int .i64 v13]) ∧ Below w.heap.size w w')) (h1 : ¬ (900 : Int) < (s.size : Int)) (h2 : ¬ v12 = 0) (w : World) :
    Calls Try.prog 3 #[.string s, .int .u8 (n : Int)] w fun e w' => e = .returned (.bool true) ∧ Below w.heap.size w w' := by
  go_enter Try.func3, Try.ntmps3
  go_wp2_with (first
    | (go_at_call 4; refine (HR.out _).mono ?_; rintro e w1 ⟨rfl, b1⟩)
    | (go_at_call 5; refine (awake17_any _).mono ?_; rintro e w2 ⟨rfl, b2⟩))
  go_ret
  exact ⟨rfl, below_next (b1.alloc b1.size _) b2⟩
set_option maxRecDepth 100000 in
set_option maxHeartbeats 2000000 in
theorem tgapixOut_count {s : ByteArray} {n : Nat} {v0 v1 v2 v3 v4 v5 v6 v7 v8 v9 v12 v13 : Int} {v10 v11 : Bool} (HR : Hid (∀ w : World, Calls Try.prog 4 #[.string s] w fun e w' => e = .returned (.agg #[.int .i64 v0, .int .i64 v1, .int .i64 v2, .int .i64 v3, .int .i64 v4, .int .i64 v5, .int .i64 v6, .int .i64 v7, .int .i64 v8, .int .i64 v9, .bool v10, .bool v11, .int .i64 v12, .int .i64 v13]) ∧ Below w.heap.size w w')) (h1 : ¬ (900 : Int) < (s.size : Int)) (h2 : v12 = 0) (h3 : (300 : Int) < v4) (w : World) :
    Calls Try.prog 3 #[.string s, .int .u8 (n : Int)] w fun e w' => e = .returned (.bool true) ∧ Below w.heap.size w w' := by
  go_enter Try.func3, Try.ntmps3
  go_wp2_with (first
    | (go_at_call 4; refine (HR.out _).mono ?_; rintro e w1 ⟨rfl, b1⟩)
    | (go_at_call 5; refine (awake17_any _).mono ?_; rintro e w2 ⟨rfl, b2⟩))
  go_ret
  exact ⟨rfl, below_next (b1.alloc b1.size _) b2⟩
set_option maxRecDepth 100000 in
set_option maxHeartbeats 40000000 in
theorem tgapixFiles_map {s : ByteArray} {h : TgaHd} {n : Nat} {k i : Nat} (hm : tgaMapR s h = .inl (k, i)) (hk0 : ¬ (k : Int) = 0) (hs : s.size ≤ 900) (ok : h.Ok) (hf : tgaFault s = none) (hh : tgaHd s = h) (hc : h.count ≤ 300) (hn : n ≤ 255) (w : World) :
    Calls Try.prog 3 #[.string s, .int .u8 (n : Int)] w fun e w' => e = .returned (.bool true) ∧ Below w.heap.size w w' := by
  have hsI : ¬ (900 : Int) < (s.size : Int) := by omega
  have hcI : ¬ (300 : Int) < (h.count : Int) := by omega
  have hs5 : s.size ≤ 100000 := by omega
  have hsm : s.size ≤ 1099511627776 := by omega
  have h18 := tgaFault_size2 hf
  have HR := Lib.hid (fun w => refTgaReadA (s := s) (by omega) w)
  rw [tgaRdV_none2 hf, hh] at HR
  have HM := Lib.hid (fun w => refTgaMapC (w := w) ok hs5)
  unfold tRV tRdV at HR HM
  obtain ⟨mi, hmi⟩ : ∃ mi, (if h.map = true then (1 : Int) else 0) = mi := ⟨_, rfl⟩
  rw [hmi] at HR HM
  have hkI : ¬ (k : Int) = 0 := hk0
  have HM2 : Hid (∀ w : World, Calls Try.prog 10 #[.string s, .agg #[.int .i64 (h.name : Int), .int .i64 mi, .int .i64 (h.typ : Int), .int .i64 (h.first : Int), .int .i64 (h.count : Int), .int .i64 (h.entry : Int), .int .i64 (h.W : Int), .int .i64 (h.H : Int), .int .i64 (h.depth : Int), .int .i64 (h.alpha : Int), .bool h.left, .bool h.top, .int .i64 0, .int .i64 0]] w fun e w' => e = .returned (.agg #[.int .i64 0, .slice none 0 0, .int .i64 (k : Int), .int .i64 (i : Int)]) ∧ Below w.heap.size w w') := Lib.hid (fun w => (HM.out w).mono (by
    rintro e w' ⟨b, ⟨k', a', h1, _, rfl⟩ | ⟨a', M, v, h1, _⟩⟩
    · rw [hm] at h1; cases h1; exact ⟨rfl, b⟩
    · rw [hm] at h1; cases h1))
  have HMR := Lib.hid hm
  clear HM hmi
  go_enter Try.func3, Try.ntmps3
  go_upto_region 2 with (go_at_call 4; refine (HR.out _).mono ?_; rintro e w1 ⟨rfl, b1⟩)
  have X1 : Blk (w1.alloc (.cells #[.int .i64 (h.name : Int), .int .i64 mi, .int .i64 (h.typ : Int), .int .i64 (h.first : Int), .int .i64 (h.count : Int), .int .i64 (h.entry : Int), .int .i64 (h.W : Int), .int .i64 (h.H : Int), .int .i64 (h.depth : Int), .int .i64 (h.alpha : Int), .bool h.left, .bool h.top, .int .i64 0, .int .i64 0] 23)) w1.heap.size 23 #[.int .i64 (h.name : Int), .int .i64 mi, .int .i64 (h.typ : Int), .int .i64 (h.first : Int), .int .i64 (h.count : Int), .int .i64 (h.entry : Int), .int .i64 (h.W : Int), .int .i64 (h.H : Int), .int .i64 (h.depth : Int), .int .i64 (h.alpha : Int), .bool h.left, .bool h.top, .int .i64 0, .int .i64 0] := Blk.new _ _ _
  have B1 : Below w.heap.size w (w1.alloc (.cells #[.int .i64 (h.name : Int), .int .i64 mi, .int .i64 (h.typ : Int), .int .i64 (h.first : Int), .int .i64 (h.count : Int), .int .i64 (h.entry : Int), .int .i64 (h.W : Int), .int .i64 (h.H : Int), .int .i64 (h.depth : Int), .int .i64 (h.alpha : Int), .bool h.left, .bool h.top, .int .i64 0, .int .i64 0] 23)) := b1.alloc b1.size _
  clear b1 HR
  generalize w1.alloc (.cells #[.int .i64 (h.name : Int), .int .i64 mi, .int .i64 (h.typ : Int), .int .i64 (h.first : Int), .int .i64 (h.count : Int), .int .i64 (h.entry : Int), .int .i64 (h.W : Int), .int .i64 (h.H : Int), .int .i64 (h.depth : Int), .int .i64 (h.alpha : Int), .bool h.left, .bool h.top, .int .i64 0, .int .i64 0] 23) = w4 at X1 B1 ⊢
  generalize w1.heap.size = ph at X1 ⊢
  have x4 : w4.cell? ⟨ph, 4, none⟩ = some (.int .i64 (h.count : Int)) := Blk.cell X1 4
  have x12 : w4.cell? ⟨ph, 12, none⟩ = some (.int .i64 0) := Blk.cell X1 12
  have HK := Lib.hid (And.intro X1 B1)
  clear X1 B1
  go_upto_region 6 with (first
    | (go_at_call 6; refine (ledNew_at (x := XFi) rfl _).mono ?_; rintro e w5 ⟨g, rfl, hgn, l5, b5⟩)
    | (go_at_call 7; refine (srcNew_any _ _ _).mono ?_; rintro e w6 ⟨p, rfl, hpn, s6, b6⟩))
  have hz5 := b5.size
  have l6 : LedAt w6 g XFi := Blk.below l5 b6 (Blk.lt l5)
  have E6 : Below w4.heap.size w4 w6 := below_next b5 b6
  have hpg : ∀ i ∈ [p, g], w4.heap.size ≤ i := by intro i hi; simp only [List.mem_cons, List.not_mem_nil, or_false] at hi; omega
  clear l5 b5 b6 x4 x12
  have HS : Hid (Calls Try.prog 8 #[.pointer (some ⟨p, 0, none⟩)] w6 fun e w' => e = .returned (.tuple #[.agg #[.int .i64 (h.name : Int), .bool h.map, .int .i64 (h.typ : Int), .int .i64 (h.first : Int), .int .i64 (h.count : Int), .int .i64 (h.entry : Int), .int .i64 (h.W : Int), .int .i64 (h.H : Int), .int .i64 (h.depth : Int), .int .i64 (h.alpha : Int), .bool h.left, .bool h.top], .agg #[.int .i64 0, .int .i64 0, .int .i64 0]]) ∧ ∃ y1, LedAt w' g y1 ∧ y1.Ok ∧ Room y1 0 1 ∧ SrcAt w' p g s 0 s.size 18 ∧ Turn [p, g] w6 w') := Lib.hid ((tgaReadC2 hsm s6 l6 XFi_ok rfl).mono (by
    rintro e w' ⟨y', l', ok', hb', t', ⟨kk, aa, hk, he, hr, hno, hyes⟩ | ⟨he, s', yr, _, _, hw, _⟩⟩
    · obtain ⟨yy, e1, _⟩ := work_is room_start (by decide)
      have := hyes yy e1
      rw [hf] at this
      cases this
    · rw [hh] at he; exact ⟨he, y', l', ok', room_work room_start (by decide) hw, s', t'⟩))
  have HL := Lib.hid (And.intro s6 (And.intro l6 E6))
  clear s6 l6 E6
  go_upto_region 9 with (go_at_call 8; refine HS.out.mono ?_; rintro e w7 ⟨rfl, y1, l7, ok7, R7, s7, t7⟩)
  have E7 : Below w4.heap.size w4 w7 := Turn.belowNext HL.out.2.2 t7 hpg HL.out.2.2.size
  have T8 : Blk ((w7.alloc (.cells #[.int .i64 (h.name : Int), .bool h.map, .int .i64 (h.typ : Int), .int .i64 (h.first : Int), .int .i64 (h.count : Int), .int .i64 (h.entry : Int), .int .i64 (h.W : Int), .int .i64 (h.H : Int), .int .i64 (h.depth : Int), .int .i64 (h.alpha : Int), .bool h.left, .bool h.top] 35)).alloc (.cells #[.int .i64 0, .int .i64 0, .int .i64 0] 37)) w7.heap.size 35 #[.int .i64 (h.name : Int), .bool h.map, .int .i64 (h.typ : Int), .int .i64 (h.first : Int), .int .i64 (h.count : Int), .int .i64 (h.entry : Int), .int .i64 (h.W : Int), .int .i64 (h.H : Int), .int .i64 (h.depth : Int), .int .i64 (h.alpha : Int), .bool h.left, .bool h.top] := Blk.alloc (Blk.new _ _ _) _
  have F8 : FB ((w7.alloc (.cells #[.int .i64 (h.name : Int), .bool h.map, .int .i64 (h.typ : Int), .int .i64 (h.first : Int), .int .i64 (h.count : Int), .int .i64 (h.entry : Int), .int .i64 (h.W : Int), .int .i64 (h.H : Int), .int .i64 (h.depth : Int), .int .i64 (h.alpha : Int), .bool h.left, .bool h.top] 35)).alloc (.cells #[.int .i64 0, .int .i64 0, .int .i64 0] 37)) (w7.heap.size + 1) 0 0 0 := Blk.new_at _ _ _ (by simp)
  have l8 : LedAt ((w7.alloc (.cells #[.int .i64 (h.name : Int), .bool h.map, .int .i64 (h.typ : Int), .int .i64 (h.first : Int), .int .i64 (h.count : Int), .int .i64 (h.entry : Int), .int .i64 (h.W : Int), .int .i64 (h.H : Int), .int .i64 (h.depth : Int), .int .i64 (h.alpha : Int), .bool h.left, .bool h.top] 35)).alloc (.cells #[.int .i64 0, .int .i64 0, .int .i64 0] 37)) g y1 := Blk.alloc (Blk.alloc l7 _) _
  have s8 : SrcAt ((w7.alloc (.cells #[.int .i64 (h.name : Int), .bool h.map, .int .i64 (h.typ : Int), .int .i64 (h.first : Int), .int .i64 (h.count : Int), .int .i64 (h.entry : Int), .int .i64 (h.W : Int), .int .i64 (h.H : Int), .int .i64 (h.depth : Int), .int .i64 (h.alpha : Int), .bool h.left, .bool h.top] 35)).alloc (.cells #[.int .i64 0, .int .i64 0, .int .i64 0] 37)) p g s 0 s.size 18 := Blk.alloc (Blk.alloc s7 _) _
  have E8 : Below w4.heap.size w4 ((w7.alloc (.cells #[.int .i64 (h.name : Int), .bool h.map, .int .i64 (h.typ : Int), .int .i64 (h.first : Int), .int .i64 (h.count : Int), .int .i64 (h.entry : Int), .int .i64 (h.W : Int), .int .i64 (h.H : Int), .int .i64 (h.depth : Int), .int .i64 (h.alpha : Int), .bool h.left, .bool h.top] 35)).alloc (.cells #[.int .i64 0, .int .i64 0, .int .i64 0] 37)) := (E7.alloc E7.size _).alloc (by have := E7.size; simp; omega) _
  clear HS HL l7 s7 t7 E7
  generalize (w7.alloc (.cells #[.int .i64 (h.name : Int), .bool h.map, .int .i64 (h.typ : Int), .int .i64 (h.first : Int), .int .i64 (h.count : Int), .int .i64 (h.entry : Int), .int .i64 (h.W : Int), .int .i64 (h.H : Int), .int .i64 (h.depth : Int), .int .i64 (h.alpha : Int), .bool h.left, .bool h.top] 35)).alloc (.cells #[.int .i64 0, .int .i64 0, .int .i64 0] 37) = w8 at T8 F8 l8 s8 E8 ⊢
  generalize w7.heap.size + 1 = qh at F8 ⊢
  generalize w7.heap.size = hb at T8 ⊢
  have th0 : w8.cell? ⟨hb, 0, none⟩ = some (.int .i64 (h.name : Int)) := Blk.cell T8 0
  have th1 : w8.cell? ⟨hb, 1, none⟩ = some (.bool h.map) := Blk.cell T8 1
  have th2 : w8.cell? ⟨hb, 2, none⟩ = some (.int .i64 (h.typ : Int)) := Blk.cell T8 2
  have th3 : w8.cell? ⟨hb, 3, none⟩ = some (.int .i64 (h.first : Int)) := Blk.cell T8 3
  have th4 : w8.cell? ⟨hb, 4, none⟩ = some (.int .i64 (h.count : Int)) := Blk.cell T8 4
  have th5 : w8.cell? ⟨hb, 5, none⟩ = some (.int .i64 (h.entry : Int)) := Blk.cell T8 5
  have th6 : w8.cell? ⟨hb, 6, none⟩ = some (.int .i64 (h.W : Int)) := Blk.cell T8 6
  have th7 : w8.cell? ⟨hb, 7, none⟩ = some (.int .i64 (h.H : Int)) := Blk.cell T8 7
  have th8 : w8.cell? ⟨hb, 8, none⟩ = some (.int .i64 (h.depth : Int)) := Blk.cell T8 8
  have th9 : w8.cell? ⟨hb, 9, none⟩ = some (.int .i64 (h.alpha : Int)) := Blk.cell T8 9
  have th10 : w8.cell? ⟨hb, 10, none⟩ = some (.bool h.left) := Blk.cell T8 10
  have th11 : w8.cell? ⟨hb, 11, none⟩ = some (.bool h.top) := Blk.cell T8 11
  have HS : Hid (Calls Try.prog 9 #[.pointer (some ⟨p, 0, none⟩), .agg #[.int .i64 (h.name : Int), .bool h.map, .int .i64 (h.typ : Int), .int .i64 (h.first : Int), .int .i64 (h.count : Int), .int .i64 (h.entry : Int), .int .i64 (h.W : Int), .int .i64 (h.H : Int), .int .i64 (h.depth : Int), .int .i64 (h.alpha : Int), .bool h.left, .bool h.top]] w8 fun e w' => ∃ y2, e = .returned (.tuple #[.pointer none, .agg #[.int .i64 (k : Int), .int .i64 2, .int .i64 (i : Int)]]) ∧ LedAt w' g y2 ∧ y2.bytes = 0 ∧ Turn [p, g] w8 w') := Lib.hid ((tgaMapC ok hsm h18 s8 l8 ok7 R7.r).mono (by
    rintro e w' ⟨y', l', ok', t', ⟨kk, aa, hk, he, yb, hr⟩ | ⟨lv, M', m, a', he, s', ha', yr, yb, TP, hr⟩⟩
    · have e1 := room_map_bad R7 (Int.le_refl _) h18 hc hr
      rw [HMR.out] at e1
      cases e1
      exact ⟨y', he, l', yb.trans R7.b, t'⟩
    · obtain ⟨e1, R2⟩ := room_map R7 (Int.le_refl _) h18 hc yr yb hr
      rw [HMR.out] at e1
      cases e1))
  have HL := Lib.hid (And.intro s8 (And.intro l8 (And.intro E8 (And.intro T8 F8))))
  clear s8 l8 E8 T8 F8 R7 ok7
  go_upto_region 10 with (go_at_call 9; refine HS.out.mono ?_; rintro e w9 ⟨y2, rfl, l9, hb9, t9⟩)
  have E9 : Below w4.heap.size w4 w9 := Turn.belowNext HL.out.2.2.1 t9 hpg HL.out.2.2.1.size
  have T9 : Blk w9 hb 35 #[.int .i64 (h.name : Int), .bool h.map, .int .i64 (h.typ : Int), .int .i64 (h.first : Int), .int .i64 (h.count : Int), .int .i64 (h.entry : Int), .int .i64 (h.W : Int), .int .i64 (h.H : Int), .int .i64 (h.depth : Int), .int .i64 (h.alpha : Int), .bool h.left, .bool h.top] := Blk.turn HL.out.2.2.2.1 t9 (by simp only [List.mem_cons, List.not_mem_nil, or_false, not_or]; exact ⟨Blk.ne_ HL.out.2.2.2.1 HL.out.1 (by decide), Blk.ne_ HL.out.2.2.2.1 HL.out.2.1 (by decide)⟩)
  have F9 : FB w9 qh 0 0 0 := FB.turn HL.out.2.2.2.2 t9 (by simp only [List.mem_cons, List.not_mem_nil, or_false, not_or]; exact ⟨Blk.ne_ HL.out.2.2.2.2 HL.out.1 (by decide), Blk.ne_ HL.out.2.2.2.2 HL.out.2.1 (by decide)⟩)
  have u10 : Below w9.heap.size w9 (w9.alloc (.cells #[.int .i64 (k : Int), .int .i64 2, .int .i64 (i : Int)] 37)) := (Below.refl _ _).alloc (Nat.le_refl _) _
  have G10 : FB (w9.alloc (.cells #[.int .i64 (k : Int), .int .i64 2, .int .i64 (i : Int)] 37)) w9.heap.size (k : Int) 2 (i : Int) := Blk.new _ _ _
  have F10 : FB (w9.alloc (.cells #[.int .i64 (k : Int), .int .i64 2, .int .i64 (i : Int)] 37)) qh 0 0 0 := Blk.alloc F9 _
  have T10 : Blk (w9.alloc (.cells #[.int .i64 (k : Int), .int .i64 2, .int .i64 (i : Int)] 37)) hb 35 #[.int .i64 (h.name : Int), .bool h.map, .int .i64 (h.typ : Int), .int .i64 (h.first : Int), .int .i64 (h.count : Int), .int .i64 (h.entry : Int), .int .i64 (h.W : Int), .int .i64 (h.H : Int), .int .i64 (h.depth : Int), .int .i64 (h.alpha : Int), .bool h.left, .bool h.top] := Blk.alloc T9 _
  have l10 : LedAt (w9.alloc (.cells #[.int .i64 (k : Int), .int .i64 2, .int .i64 (i : Int)] 37)) g y2 := Blk.alloc l9 _
  have E10 : Below w4.heap.size w4 (w9.alloc (.cells #[.int .i64 (k : Int), .int .i64 2, .int .i64 (i : Int)] 37)) := E9.alloc E9.size _
  clear HS HL l9 t9 E9 T9 F9 u10 th0 th1 th2 th3 th4 th5 th6 th7 th8 th9 th10 th11
  generalize w9.alloc (.cells #[.int .i64 (k : Int), .int .i64 2, .int .i64 (i : Int)] 37) = w10 at G10 F10 T10 l10 E10 ⊢
  generalize w9.heap.size = qf at G10 ⊢
  have X10 : Blk w10 ph 23 #[.int .i64 (h.name : Int), .int .i64 mi, .int .i64 (h.typ : Int), .int .i64 (h.first : Int), .int .i64 (h.count : Int), .int .i64 (h.entry : Int), .int .i64 (h.W : Int), .int .i64 (h.H : Int), .int .i64 (h.depth : Int), .int .i64 (h.alpha : Int), .bool h.left, .bool h.top, .int .i64 0, .int .i64 0] := Blk.below HK.out.1 E10 (Blk.lt HK.out.1)
  have x0 : w10.cell? ⟨ph, 0, none⟩ = some (.int .i64 (h.name : Int)) := Blk.cell X10 0
  have x1 : w10.cell? ⟨ph, 1, none⟩ = some (.int .i64 mi) := Blk.cell X10 1
  have x2 : w10.cell? ⟨ph, 2, none⟩ = some (.int .i64 (h.typ : Int)) := Blk.cell X10 2
  have x3 : w10.cell? ⟨ph, 3, none⟩ = some (.int .i64 (h.first : Int)) := Blk.cell X10 3
  have x4 : w10.cell? ⟨ph, 4, none⟩ = some (.int .i64 (h.count : Int)) := Blk.cell X10 4
  have x5 : w10.cell? ⟨ph, 5, none⟩ = some (.int .i64 (h.entry : Int)) := Blk.cell X10 5
  have x6 : w10.cell? ⟨ph, 6, none⟩ = some (.int .i64 (h.W : Int)) := Blk.cell X10 6
  have x7 : w10.cell? ⟨ph, 7, none⟩ = some (.int .i64 (h.H : Int)) := Blk.cell X10 7
  have x8 : w10.cell? ⟨ph, 8, none⟩ = some (.int .i64 (h.depth : Int)) := Blk.cell X10 8
  have x9 : w10.cell? ⟨ph, 9, none⟩ = some (.int .i64 (h.alpha : Int)) := Blk.cell X10 9
  have x10 : w10.cell? ⟨ph, 10, none⟩ = some (.bool h.left) := Blk.cell X10 10
  have x11 : w10.cell? ⟨ph, 11, none⟩ = some (.bool h.top) := Blk.cell X10 11
  have x12 : w10.cell? ⟨ph, 12, none⟩ = some (.int .i64 0) := Blk.cell X10 12
  have x13 : w10.cell? ⟨ph, 13, none⟩ = some (.int .i64 0) := Blk.cell X10 13
  have HI := Lib.hid (And.intro G10 (And.intro F10 (And.intro l10 (And.intro E10 X10))))
  clear G10 F10 T10 l10 E10 X10
  go_upto_region 11 with (go_at_call 10; refine (HM2.out _).mono ?_; rintro e w11 ⟨rfl, b11⟩)
  have G12 : FB (w11.alloc (.cells #[.int .i64 0, .slice none 0 0, .int .i64 (k : Int), .int .i64 (i : Int)] 45)) qf (k : Int) 2 (i : Int) := Blk.alloc (FB.below HI.out.1 b11) _
  have F12 : FB (w11.alloc (.cells #[.int .i64 0, .slice none 0 0, .int .i64 (k : Int), .int .i64 (i : Int)] 45)) qh 0 0 0 := Blk.alloc (FB.below HI.out.2.1 b11) _
  have l12 : LedAt (w11.alloc (.cells #[.int .i64 0, .slice none 0 0, .int .i64 (k : Int), .int .i64 (i : Int)] 45)) g y2 := Blk.alloc (Blk.below HI.out.2.2.1 b11 (Blk.lt HI.out.2.2.1)) _
  have M12 : Blk (w11.alloc (.cells #[.int .i64 0, .slice none 0 0, .int .i64 (k : Int), .int .i64 (i : Int)] 45)) w11.heap.size 45 #[.int .i64 0, .slice none 0 0, .int .i64 (k : Int), .int .i64 (i : Int)] := Blk.new _ _ _
  have B12 : Below w.heap.size w (w11.alloc (.cells #[.int .i64 0, .slice none 0 0, .int .i64 (k : Int), .int .i64 (i : Int)] 45)) := by have B := below_next (below_next HK.out.2 HI.out.2.2.2.1) b11; exact B.alloc B.size _
  clear b11 HI x0 x1 x2 x3 x4 x5 x6 x7 x8 x9 x10 x11 x12 x13
  generalize w11.alloc (.cells #[.int .i64 0, .slice none 0 0, .int .i64 (k : Int), .int .i64 (i : Int)] 45) = w12 at G12 F12 l12 M12 B12 ⊢
  generalize w11.heap.size = pm at M12 ⊢
  have m2 : w12.cell? ⟨pm, 2, none⟩ = some (.int .i64 (k : Int)) := Blk.cell M12 2
  have m3 : w12.cell? ⟨pm, 3, none⟩ = some (.int .i64 (i : Int)) := Blk.cell M12 3
  obtain ⟨c0, c1, c2, z0, z1, z2, fl⟩ := FB.all G12
  have d0 : w12.cell? ⟨qh, 0, none⟩ = some (.int .i64 0) := Blk.cell F12 0
  go_wp2_with (first
    | (go_at_call 11; refine (bytes_at l12 hb9).mono ?_; rintro e w13 ⟨rfl, rfl⟩)
    | (go_at_call 5; refine (awake17_any _).mono ?_; rintro e w14 ⟨rfl, b14⟩))
  go_ret
  exact ⟨rfl, below_next B12 b14⟩
set_option maxRecDepth 100000 in
set_option maxHeartbeats 40000000 in
theorem tgapixFiles_in {s : ByteArray} {h : TgaHd} {n : Nat} {a : Nat} {M : List Qc} (hm : tgaMapR s h = .inr (a, M)) (hs : s.size ≤ 900) (ok : h.Ok) (hf : tgaFault s = none) (hh : tgaHd s = h) (hc : h.count ≤ 300) (hn : n ≤ 255) (w : World) :
    Calls Try.prog 3 #[.string s, .int .u8 (n : Int)] w fun e w' => e = .returned (.bool true) ∧ Below w.heap.size w w' := by
  have hsI : ¬ (900 : Int) < (s.size : Int) := by omega
  have hcI : ¬ (300 : Int) < (h.count : Int) := by omega
  have hs5 : s.size ≤ 100000 := by omega
  have hsm : s.size ≤ 1099511627776 := by omega
  have h18 := tgaFault_size2 hf
  have HR := Lib.hid (fun w => refTgaReadA (s := s) (by omega) w)
  rw [tgaRdV_none2 hf, hh] at HR
  have HM := Lib.hid (fun w => refTgaMapC (w := w) ok hs5)
  unfold tRV tRdV at HR HM
  obtain ⟨mi, hmi⟩ : ∃ mi, (if h.map = true then (1 : Int) else 0) = mi := ⟨_, rfl⟩
  rw [hmi] at HR HM
  have HM2 : Hid (∀ w : World, Calls Try.prog 10 #[.string s, .agg #[.int .i64 (h.name : Int), .int .i64 mi, .int .i64 (h.typ : Int), .int .i64 (h.first : Int), .int .i64 (h.count : Int), .int .i64 (h.entry : Int), .int .i64 (h.W : Int), .int .i64 (h.H : Int), .int .i64 (h.depth : Int), .int .i64 (h.alpha : Int), .bool h.left, .bool h.top, .int .i64 0, .int .i64 0]] w fun e w' => ∃ va vn vc, e = .returned (.agg #[.int .i64 (a : Int), .slice va vn vc, .int .i64 0, .int .i64 0]) ∧ Below w.heap.size w w' ∧ RowM w' (.slice va vn vc) M ∧ M.length ≤ 65535 ∧ a ≤ s.size) := Lib.hid (fun w => (HM.out w).mono (by
    rintro e w' ⟨b, ⟨k', a', h1, _, rfl⟩ | ⟨a', M', v, h1, h2, h3, rfl, RM⟩⟩
    · rw [hm] at h1; cases h1
    · rw [hm] at h1
      cases h1
      obtain ⟨va, vn, vc, rfl⟩ : ∃ a n c, v = .slice a n c := by
        rcases RM with ⟨rfl, _⟩ | ⟨g, cap, rfl, _, _⟩
        · exact ⟨_, _, _, rfl⟩
        · exact ⟨_, _, _, rfl⟩
      exact ⟨va, vn, vc, rfl, b, RM, h3, h2⟩))
  have HMR := Lib.hid hm
  have hd8 : h.depth = 8 ∨ TgaCol h.depth := by
    have := ok.d1
    unfold TgaDepth at this
    split at this
    · exact .inr this
    · exact .inl this
  obtain ⟨z, hz⟩ : ∃ z, h.size = z := ⟨_, rfl⟩
  have HSZ := Lib.hid (fun w => refTgaSize hd8 hz w)
  have HPX := Lib.hid (fun (w9 : World) (a : Nat) (v : Value) (R9 : RowM w9 v M) (hml : M.length ≤ 65535) (h9 : a ≤ s.size) => refTgaPixE ok R9 hml hs5 h9)
  unfold tRV tRdV at HSZ HPX
  rw [hmi] at HSZ HPX
  unfold Qc.v at HPX
  have HZ := Lib.hid hz
  clear hd8 hz
  clear HM hmi
  go_enter Try.func3, Try.ntmps3
  go_upto_region 2 with (go_at_call 4; refine (HR.out _).mono ?_; rintro e w1 ⟨rfl, b1⟩)
  have X1 : Blk (w1.alloc (.cells #[.int .i64 (h.name : Int), .int .i64 mi, .int .i64 (h.typ : Int), .int .i64 (h.first : Int), .int .i64 (h.count : Int), .int .i64 (h.entry : Int), .int .i64 (h.W : Int), .int .i64 (h.H : Int), .int .i64 (h.depth : Int), .int .i64 (h.alpha : Int), .bool h.left, .bool h.top, .int .i64 0, .int .i64 0] 23)) w1.heap.size 23 #[.int .i64 (h.name : Int), .int .i64 mi, .int .i64 (h.typ : Int), .int .i64 (h.first : Int), .int .i64 (h.count : Int), .int .i64 (h.entry : Int), .int .i64 (h.W : Int), .int .i64 (h.H : Int), .int .i64 (h.depth : Int), .int .i64 (h.alpha : Int), .bool h.left, .bool h.top, .int .i64 0, .int .i64 0] := Blk.new _ _ _
  have B1 : Below w.heap.size w (w1.alloc (.cells #[.int .i64 (h.name : Int), .int .i64 mi, .int .i64 (h.typ : Int), .int .i64 (h.first : Int), .int .i64 (h.count : Int), .int .i64 (h.entry : Int), .int .i64 (h.W : Int), .int .i64 (h.H : Int), .int .i64 (h.depth : Int), .int .i64 (h.alpha : Int), .bool h.left, .bool h.top, .int .i64 0, .int .i64 0] 23)) := b1.alloc b1.size _
  clear b1 HR
  generalize w1.alloc (.cells #[.int .i64 (h.name : Int), .int .i64 mi, .int .i64 (h.typ : Int), .int .i64 (h.first : Int), .int .i64 (h.count : Int), .int .i64 (h.entry : Int), .int .i64 (h.W : Int), .int .i64 (h.H : Int), .int .i64 (h.depth : Int), .int .i64 (h.alpha : Int), .bool h.left, .bool h.top, .int .i64 0, .int .i64 0] 23) = w4 at X1 B1 ⊢
  generalize w1.heap.size = ph at X1 ⊢
  have x4 : w4.cell? ⟨ph, 4, none⟩ = some (.int .i64 (h.count : Int)) := Blk.cell X1 4
  have x12 : w4.cell? ⟨ph, 12, none⟩ = some (.int .i64 0) := Blk.cell X1 12
  have HK := Lib.hid (And.intro X1 B1)
  clear X1 B1
  go_upto_region 6 with (first
    | (go_at_call 6; refine (ledNew_at (x := XFi) rfl _).mono ?_; rintro e w5 ⟨g, rfl, hgn, l5, b5⟩)
    | (go_at_call 7; refine (srcNew_any _ _ _).mono ?_; rintro e w6 ⟨p, rfl, hpn, s6, b6⟩))
  have hz5 := b5.size
  have l6 : LedAt w6 g XFi := Blk.below l5 b6 (Blk.lt l5)
  have E6 : Below w4.heap.size w4 w6 := below_next b5 b6
  have hpg : ∀ i ∈ [p, g], w4.heap.size ≤ i := by intro i hi; simp only [List.mem_cons, List.not_mem_nil, or_false] at hi; omega
  clear l5 b5 b6 x4 x12
  have HS : Hid (Calls Try.prog 8 #[.pointer (some ⟨p, 0, none⟩)] w6 fun e w' => e = .returned (.tuple #[.agg #[.int .i64 (h.name : Int), .bool h.map, .int .i64 (h.typ : Int), .int .i64 (h.first : Int), .int .i64 (h.count : Int), .int .i64 (h.entry : Int), .int .i64 (h.W : Int), .int .i64 (h.H : Int), .int .i64 (h.depth : Int), .int .i64 (h.alpha : Int), .bool h.left, .bool h.top], .agg #[.int .i64 0, .int .i64 0, .int .i64 0]]) ∧ ∃ y1, LedAt w' g y1 ∧ y1.Ok ∧ Room y1 0 1 ∧ SrcAt w' p g s 0 s.size 18 ∧ Turn [p, g] w6 w') := Lib.hid ((tgaReadC2 hsm s6 l6 XFi_ok rfl).mono (by
    rintro e w' ⟨y', l', ok', hb', t', ⟨kk, aa, hk, he, hr, hno, hyes⟩ | ⟨he, s', yr, _, _, hw, _⟩⟩
    · obtain ⟨yy, e1, _⟩ := work_is room_start (by decide)
      have := hyes yy e1
      rw [hf] at this
      cases this
    · rw [hh] at he; exact ⟨he, y', l', ok', room_work room_start (by decide) hw, s', t'⟩))
  have HL := Lib.hid (And.intro s6 (And.intro l6 E6))
  clear s6 l6 E6
  go_upto_region 9 with (go_at_call 8; refine HS.out.mono ?_; rintro e w7 ⟨rfl, y1, l7, ok7, R7, s7, t7⟩)
  have E7 : Below w4.heap.size w4 w7 := Turn.belowNext HL.out.2.2 t7 hpg HL.out.2.2.size
  have T8 : Blk ((w7.alloc (.cells #[.int .i64 (h.name : Int), .bool h.map, .int .i64 (h.typ : Int), .int .i64 (h.first : Int), .int .i64 (h.count : Int), .int .i64 (h.entry : Int), .int .i64 (h.W : Int), .int .i64 (h.H : Int), .int .i64 (h.depth : Int), .int .i64 (h.alpha : Int), .bool h.left, .bool h.top] 35)).alloc (.cells #[.int .i64 0, .int .i64 0, .int .i64 0] 37)) w7.heap.size 35 #[.int .i64 (h.name : Int), .bool h.map, .int .i64 (h.typ : Int), .int .i64 (h.first : Int), .int .i64 (h.count : Int), .int .i64 (h.entry : Int), .int .i64 (h.W : Int), .int .i64 (h.H : Int), .int .i64 (h.depth : Int), .int .i64 (h.alpha : Int), .bool h.left, .bool h.top] := Blk.alloc (Blk.new _ _ _) _
  have F8 : FB ((w7.alloc (.cells #[.int .i64 (h.name : Int), .bool h.map, .int .i64 (h.typ : Int), .int .i64 (h.first : Int), .int .i64 (h.count : Int), .int .i64 (h.entry : Int), .int .i64 (h.W : Int), .int .i64 (h.H : Int), .int .i64 (h.depth : Int), .int .i64 (h.alpha : Int), .bool h.left, .bool h.top] 35)).alloc (.cells #[.int .i64 0, .int .i64 0, .int .i64 0] 37)) (w7.heap.size + 1) 0 0 0 := Blk.new_at _ _ _ (by simp)
  have l8 : LedAt ((w7.alloc (.cells #[.int .i64 (h.name : Int), .bool h.map, .int .i64 (h.typ : Int), .int .i64 (h.first : Int), .int .i64 (h.count : Int), .int .i64 (h.entry : Int), .int .i64 (h.W : Int), .int .i64 (h.H : Int), .int .i64 (h.depth : Int), .int .i64 (h.alpha : Int), .bool h.left, .bool h.top] 35)).alloc (.cells #[.int .i64 0, .int .i64 0, .int .i64 0] 37)) g y1 := Blk.alloc (Blk.alloc l7 _) _
  have s8 : SrcAt ((w7.alloc (.cells #[.int .i64 (h.name : Int), .bool h.map, .int .i64 (h.typ : Int), .int .i64 (h.first : Int), .int .i64 (h.count : Int), .int .i64 (h.entry : Int), .int .i64 (h.W : Int), .int .i64 (h.H : Int), .int .i64 (h.depth : Int), .int .i64 (h.alpha : Int), .bool h.left, .bool h.top] 35)).alloc (.cells #[.int .i64 0, .int .i64 0, .int .i64 0] 37)) p g s 0 s.size 18 := Blk.alloc (Blk.alloc s7 _) _
  have E8 : Below w4.heap.size w4 ((w7.alloc (.cells #[.int .i64 (h.name : Int), .bool h.map, .int .i64 (h.typ : Int), .int .i64 (h.first : Int), .int .i64 (h.count : Int), .int .i64 (h.entry : Int), .int .i64 (h.W : Int), .int .i64 (h.H : Int), .int .i64 (h.depth : Int), .int .i64 (h.alpha : Int), .bool h.left, .bool h.top] 35)).alloc (.cells #[.int .i64 0, .int .i64 0, .int .i64 0] 37)) := (E7.alloc E7.size _).alloc (by have := E7.size; simp; omega) _
  clear HS HL l7 s7 t7 E7
  generalize (w7.alloc (.cells #[.int .i64 (h.name : Int), .bool h.map, .int .i64 (h.typ : Int), .int .i64 (h.first : Int), .int .i64 (h.count : Int), .int .i64 (h.entry : Int), .int .i64 (h.W : Int), .int .i64 (h.H : Int), .int .i64 (h.depth : Int), .int .i64 (h.alpha : Int), .bool h.left, .bool h.top] 35)).alloc (.cells #[.int .i64 0, .int .i64 0, .int .i64 0] 37) = w8 at T8 F8 l8 s8 E8 ⊢
  generalize w7.heap.size + 1 = qh at F8 ⊢
  generalize w7.heap.size = hb at T8 ⊢
  have th0 : w8.cell? ⟨hb, 0, none⟩ = some (.int .i64 (h.name : Int)) := Blk.cell T8 0
  have th1 : w8.cell? ⟨hb, 1, none⟩ = some (.bool h.map) := Blk.cell T8 1
  have th2 : w8.cell? ⟨hb, 2, none⟩ = some (.int .i64 (h.typ : Int)) := Blk.cell T8 2
  have th3 : w8.cell? ⟨hb, 3, none⟩ = some (.int .i64 (h.first : Int)) := Blk.cell T8 3
  have th4 : w8.cell? ⟨hb, 4, none⟩ = some (.int .i64 (h.count : Int)) := Blk.cell T8 4
  have th5 : w8.cell? ⟨hb, 5, none⟩ = some (.int .i64 (h.entry : Int)) := Blk.cell T8 5
  have th6 : w8.cell? ⟨hb, 6, none⟩ = some (.int .i64 (h.W : Int)) := Blk.cell T8 6
  have th7 : w8.cell? ⟨hb, 7, none⟩ = some (.int .i64 (h.H : Int)) := Blk.cell T8 7
  have th8 : w8.cell? ⟨hb, 8, none⟩ = some (.int .i64 (h.depth : Int)) := Blk.cell T8 8
  have th9 : w8.cell? ⟨hb, 9, none⟩ = some (.int .i64 (h.alpha : Int)) := Blk.cell T8 9
  have th10 : w8.cell? ⟨hb, 10, none⟩ = some (.bool h.left) := Blk.cell T8 10
  have th11 : w8.cell? ⟨hb, 11, none⟩ = some (.bool h.top) := Blk.cell T8 11
  have HS : Hid (Calls Try.prog 9 #[.pointer (some ⟨p, 0, none⟩), .agg #[.int .i64 (h.name : Int), .bool h.map, .int .i64 (h.typ : Int), .int .i64 (h.first : Int), .int .i64 (h.count : Int), .int .i64 (h.entry : Int), .int .i64 (h.W : Int), .int .i64 (h.H : Int), .int .i64 (h.depth : Int), .int .i64 (h.alpha : Int), .bool h.left, .bool h.top]] w8 fun e w' => ∃ lv m y2, e = .returned (.tuple #[lv, .agg #[.int .i64 0, .int .i64 0, .int .i64 0]]) ∧ LedAt w' g y2 ∧ y2.Ok ∧ Room y2 ((m : Nat) : Int) 400 ∧ SrcAt w' p g s 0 s.size a ∧ a ≤ s.size ∧ TPal w' g h lv M m w8.heap.size ∧ Turn [p, g] w8 w') := Lib.hid ((tgaMapC ok hsm h18 s8 l8 ok7 R7.r).mono (by
    rintro e w' ⟨y', l', ok', t', ⟨kk, aa, hk, he, _, hr⟩ | ⟨lv, M', m, a', he, s', ha', yr, yb, TP, hr⟩⟩
    · have := room_map_bad R7 (Int.le_refl _) h18 hc hr
      rw [HMR.out] at this
      cases this
    · obtain ⟨e1, R2⟩ := room_map R7 (Int.le_refl _) h18 hc yr yb hr
      rw [HMR.out] at e1
      cases e1
      exact ⟨lv, m, y', he, l', ok', R2, s', ha', TP, t'⟩))
  have HL := Lib.hid (And.intro s8 (And.intro l8 (And.intro E8 (And.intro T8 F8))))
  clear s8 l8 E8 T8 F8 R7 ok7
  go_upto_region 10 with (go_at_call 9; refine HS.out.mono ?_; rintro e w9 ⟨lv, m, y2, rfl, l9, ok9, R9, s9, ha9, TP9, t9⟩)
  have E9 : Below w4.heap.size w4 w9 := Turn.belowNext HL.out.2.2.1 t9 hpg HL.out.2.2.1.size
  have T9 : Blk w9 hb 35 #[.int .i64 (h.name : Int), .bool h.map, .int .i64 (h.typ : Int), .int .i64 (h.first : Int), .int .i64 (h.count : Int), .int .i64 (h.entry : Int), .int .i64 (h.W : Int), .int .i64 (h.H : Int), .int .i64 (h.depth : Int), .int .i64 (h.alpha : Int), .bool h.left, .bool h.top] := Blk.turn HL.out.2.2.2.1 t9 (by simp only [List.mem_cons, List.not_mem_nil, or_false, not_or]; exact ⟨Blk.ne_ HL.out.2.2.2.1 HL.out.1 (by decide), Blk.ne_ HL.out.2.2.2.1 HL.out.2.1 (by decide)⟩)
  have F9 : FB w9 qh 0 0 0 := FB.turn HL.out.2.2.2.2 t9 (by simp only [List.mem_cons, List.not_mem_nil, or_false, not_or]; exact ⟨Blk.ne_ HL.out.2.2.2.2 HL.out.1 (by decide), Blk.ne_ HL.out.2.2.2.2 HL.out.2.1 (by decide)⟩)
  have u10 : Below w9.heap.size w9 (w9.alloc (.cells #[.int .i64 0, .int .i64 0, .int .i64 0] 37)) := (Below.refl _ _).alloc (Nat.le_refl _) _
  have G10 : FB (w9.alloc (.cells #[.int .i64 0, .int .i64 0, .int .i64 0] 37)) w9.heap.size 0 0 0 := Blk.new _ _ _
  have F10 : FB (w9.alloc (.cells #[.int .i64 0, .int .i64 0, .int .i64 0] 37)) qh 0 0 0 := Blk.alloc F9 _
  have T10 : Blk (w9.alloc (.cells #[.int .i64 0, .int .i64 0, .int .i64 0] 37)) hb 35 #[.int .i64 (h.name : Int), .bool h.map, .int .i64 (h.typ : Int), .int .i64 (h.first : Int), .int .i64 (h.count : Int), .int .i64 (h.entry : Int), .int .i64 (h.W : Int), .int .i64 (h.H : Int), .int .i64 (h.depth : Int), .int .i64 (h.alpha : Int), .bool h.left, .bool h.top] := Blk.alloc T9 _
  have l10 : LedAt (w9.alloc (.cells #[.int .i64 0, .int .i64 0, .int .i64 0] 37)) g y2 := Blk.alloc l9 _
  have E10 : Below w4.heap.size w4 (w9.alloc (.cells #[.int .i64 0, .int .i64 0, .int .i64 0] 37)) := E9.alloc E9.size _
  have s10 : SrcAt (w9.alloc (.cells #[.int .i64 0, .int .i64 0, .int .i64 0] 37)) p g s 0 s.size a := Blk.alloc s9 _
  have TP10 := TP9.below u10
  clear s9 TP9
  clear HS HL l9 t9 E9 T9 F9 u10 th0 th1 th2 th3 th4 th5 th6 th7 th8 th9 th10 th11
  generalize w9.alloc (.cells #[.int .i64 0, .int .i64 0, .int .i64 0] 37) = w10 at G10 F10 T10 l10 E10 s10 TP10 ⊢
  generalize w9.heap.size = qf at G10 ⊢
  have X10 : Blk w10 ph 23 #[.int .i64 (h.name : Int), .int .i64 mi, .int .i64 (h.typ : Int), .int .i64 (h.first : Int), .int .i64 (h.count : Int), .int .i64 (h.entry : Int), .int .i64 (h.W : Int), .int .i64 (h.H : Int), .int .i64 (h.depth : Int), .int .i64 (h.alpha : Int), .bool h.left, .bool h.top, .int .i64 0, .int .i64 0] := Blk.below HK.out.1 E10 (Blk.lt HK.out.1)
  have x0 : w10.cell? ⟨ph, 0, none⟩ = some (.int .i64 (h.name : Int)) := Blk.cell X10 0
  have x1 : w10.cell? ⟨ph, 1, none⟩ = some (.int .i64 mi) := Blk.cell X10 1
  have x2 : w10.cell? ⟨ph, 2, none⟩ = some (.int .i64 (h.typ : Int)) := Blk.cell X10 2
  have x3 : w10.cell? ⟨ph, 3, none⟩ = some (.int .i64 (h.first : Int)) := Blk.cell X10 3
  have x4 : w10.cell? ⟨ph, 4, none⟩ = some (.int .i64 (h.count : Int)) := Blk.cell X10 4
  have x5 : w10.cell? ⟨ph, 5, none⟩ = some (.int .i64 (h.entry : Int)) := Blk.cell X10 5
  have x6 : w10.cell? ⟨ph, 6, none⟩ = some (.int .i64 (h.W : Int)) := Blk.cell X10 6
  have x7 : w10.cell? ⟨ph, 7, none⟩ = some (.int .i64 (h.H : Int)) := Blk.cell X10 7
  have x8 : w10.cell? ⟨ph, 8, none⟩ = some (.int .i64 (h.depth : Int)) := Blk.cell X10 8
  have x9 : w10.cell? ⟨ph, 9, none⟩ = some (.int .i64 (h.alpha : Int)) := Blk.cell X10 9
  have x10 : w10.cell? ⟨ph, 10, none⟩ = some (.bool h.left) := Blk.cell X10 10
  have x11 : w10.cell? ⟨ph, 11, none⟩ = some (.bool h.top) := Blk.cell X10 11
  have x12 : w10.cell? ⟨ph, 12, none⟩ = some (.int .i64 0) := Blk.cell X10 12
  have x13 : w10.cell? ⟨ph, 13, none⟩ = some (.int .i64 0) := Blk.cell X10 13
  have HI := Lib.hid (And.intro G10 (And.intro F10 (And.intro l10 (And.intro E10 (And.intro X10 (And.intro s10 (And.intro TP10 T10)))))))
  clear G10 F10 T10 l10 E10 X10 s10 TP10
  go_upto_region 11 with (go_at_call 10; refine (HM2.out _).mono ?_; rintro e w11 ⟨va, vn, vc, rfl, b11, R11, hml, hale⟩)
  have u12 : Below w11.heap.size w11 (w11.alloc (.cells #[.int .i64 (a : Int), .slice va vn vc, .int .i64 0, .int .i64 0] 45)) := (Below.refl _ _).alloc (Nat.le_refl _) _
  have G12 : FB (w11.alloc (.cells #[.int .i64 (a : Int), .slice va vn vc, .int .i64 0, .int .i64 0] 45)) qf 0 0 0 := Blk.alloc (FB.below HI.out.1 b11) _
  have F12 : FB (w11.alloc (.cells #[.int .i64 (a : Int), .slice va vn vc, .int .i64 0, .int .i64 0] 45)) qh 0 0 0 := Blk.alloc (FB.below HI.out.2.1 b11) _
  have I12 : PfI w (w11.alloc (.cells #[.int .i64 (a : Int), .slice va vn vc, .int .i64 0, .int .i64 0] 45)) p g ph hb w11.heap.size s h mi va vn vc M a a m lv w8.heap.size y2 := ⟨Blk.alloc (Blk.below HI.out.2.2.2.2.1 b11 (Blk.lt HI.out.2.2.2.2.1)) _, Blk.alloc (Blk.below HI.out.2.2.2.2.2.2.2 b11 (Blk.lt HI.out.2.2.2.2.2.2.2)) _, Blk.new _ _ _, R11.below u12, Blk.alloc (Blk.below HI.out.2.2.2.2.2.1 b11 (Blk.lt HI.out.2.2.2.2.2.1)) _, Blk.alloc (Blk.below HI.out.2.2.1 b11 (Blk.lt HI.out.2.2.1)) _, (HI.out.2.2.2.2.2.2.1.below b11).below u12, by have B := below_next (below_next HK.out.2 HI.out.2.2.2.1) b11; exact B.alloc B.size _, by have := HK.out.2.size; exact ⟨by omega, by omega⟩⟩
  clear b11 u12 R11 HI x0 x1 x2 x3 x4 x5 x6 x7 x8 x9 x10 x11 x12 x13
  generalize w11.alloc (.cells #[.int .i64 (a : Int), .slice va vn vc, .int .i64 0, .int .i64 0] 45) = w12 at G12 F12 I12 ⊢
  generalize w11.heap.size = pm at I12 ⊢
  have m0 : w12.cell? ⟨pm, 0, none⟩ = some (.int .i64 (a : Int)) := Blk.cell I12.Mp 0
  have m2 : w12.cell? ⟨pm, 2, none⟩ = some (.int .i64 0) := Blk.cell I12.Mp 2
  have x2 : w12.cell? ⟨ph, 2, none⟩ = some (.int .i64 (h.typ : Int)) := Blk.cell I12.X 2
  have c0 : w12.cell? ⟨qf, 0, none⟩ = some (.int .i64 0) := Blk.cell G12 0
  have d0 : w12.cell? ⟨qh, 0, none⟩ = some (.int .i64 0) := Blk.cell F12 0
  obtain ⟨N, hN, hN19⟩ := tmod20 hn
  obtain ⟨r8, hr8, hr1⟩ := typ8 ok.t1
  have HS12 := Lib.hid I12.S
  have HPT := Lib.hid (I12.P.ptr)
  have HI := Lib.hid I12
  clear I12 G12 F12
  have hq : ∃ la : Option Addr, lv = .pointer la ∧ (decide (la ≠ none)) = decide h.mapped := by
    rcases HPT.out with ⟨e, e2⟩ | ⟨l, e, e2⟩
    · exact ⟨none, e, by rw [decide_eq_false e2]; rfl⟩
    · exact ⟨_, e, by rw [decide_eq_true e2]; simp⟩
  clear HPT
  obtain ⟨la, rfl, hla⟩ := hq
  go_upto_region 15 with fail
  go_cut [107] from 89 to 107 (fun c wx => c = .bool false ∧ Hid (PfI w wx p g ph hb pm s h mi va vn vc M a a m (.pointer la) w8.heap.size y2))
  case first =>
    cases la with
    | none =>
      have hd : decide h.mapped = false := by rw [← hla]; rfl
      rw [hd] at hr1
      clear hla hd
      refine wp_region_held_drew (S := (fun w9 => w9.cell? ⟨qf, 0, none⟩ = some (.int .i64 0) ∧ w9.cell? ⟨pm, 0, none⟩ = some (.int .i64 (a : Int)) ∧ w9.cell? ⟨ph, 2, none⟩ = some (.int .i64 (h.typ : Int)))) (by kernel_rfl) ⟨c0, m0, x2⟩ (fun hHeld => ?_)
      refine wpAnyH_take (i := 0) (v := ?_) rfl (by kernel_rfl) (by kernel_rfl) (by kernel_rfl) (fun _ _ _ h => h) (Or.inl ⟨by kernel_rfl, ?_⟩) (by assumption) ?_
      rotate_left
      · intro w hSw; (try dsimp only at hSw); go_simp; (try with_reducible rfl)
      (try simp only [Act.put, List.getElem_toArray, List.getElem_cons_succ, List.getElem_cons_zero, List.setIfInBounds_toArray, List.set_cons_zero, List.set_cons_succ])
      refine wpAnyH_take (i := 1) (v := ?_) rfl (by kernel_rfl) (by kernel_rfl) (by kernel_rfl) (fun _ _ _ h => h) (Or.inl ⟨by kernel_rfl, ?_⟩) (by assumption) ?_
      rotate_left
      · intro w hSw; (try dsimp only at hSw); go_simp; (try with_reducible rfl)
      (try simp only [Act.put, List.getElem_toArray, List.getElem_cons_succ, List.getElem_cons_zero, List.setIfInBounds_toArray, List.set_cons_zero, List.set_cons_succ])
      refine wpAnyH_take (i := 2) (v := ?_) rfl (by kernel_rfl) (by kernel_rfl) (by kernel_rfl) (fun _ _ _ h => h) (Or.inl ⟨by kernel_rfl, ?_⟩) (by assumption) ?_
      rotate_left
      · intro w hSw; (try dsimp only at hSw); go_simp; (try with_reducible rfl)
      (try simp only [Act.put, List.getElem_toArray, List.getElem_cons_succ, List.getElem_cons_zero, List.setIfInBounds_toArray, List.set_cons_zero, List.set_cons_succ])
      refine wpAnyH_take (i := 3) (v := ?_) rfl (by kernel_rfl) (by kernel_rfl) (by kernel_rfl) (fun _ _ _ h => h) (Or.inl ⟨by kernel_rfl, ?_⟩) (by assumption) ?_
      rotate_left
      · intro w hSw; (try dsimp only at hSw); go_simp; (try with_reducible rfl)
      (try simp only [Act.put, List.getElem_toArray, List.getElem_cons_succ, List.getElem_cons_zero, List.setIfInBounds_toArray, List.set_cons_zero, List.set_cons_succ])
      refine wpAnyH_take (i := 4) (v := ?_) rfl (by kernel_rfl) (by kernel_rfl) (by kernel_rfl) (fun _ _ _ h => h) (Or.inl ⟨by kernel_rfl, ?_⟩) (by assumption) ?_
      rotate_left
      · intro w hSw; (try dsimp only at hSw); go_simp; (try with_reducible rfl)
      (try simp only [Act.put, List.getElem_toArray, List.getElem_cons_succ, List.getElem_cons_zero, List.setIfInBounds_toArray, List.set_cons_zero, List.set_cons_succ])
      refine wpAnyH_take (i := 6) (v := ?_) rfl (by kernel_rfl) (by kernel_rfl) (by kernel_rfl) (fun _ _ _ h => h) (Or.inl ⟨by kernel_rfl, ?_⟩) (by assumption) ?_
      rotate_left
      · intro w hSw; (try dsimp only at hSw); go_simp; (try with_reducible rfl)
      (try simp only [Act.put, List.getElem_toArray, List.getElem_cons_succ, List.getElem_cons_zero, List.setIfInBounds_toArray, List.set_cons_zero, List.set_cons_succ])
      refine wpAnyH_take (i := 7) (v := ?_) rfl (by kernel_rfl) (by kernel_rfl) (by kernel_rfl) (fun _ _ _ h => h) (Or.inl ⟨by kernel_rfl, ?_⟩) (by assumption) ?_
      rotate_left
      · intro w hSw; (try dsimp only at hSw); go_simp; (try with_reducible rfl)
      (try simp only [Act.put, List.getElem_toArray, List.getElem_cons_succ, List.getElem_cons_zero, List.setIfInBounds_toArray, List.set_cons_zero, List.set_cons_succ])
      refine wpAnyH_ready (rs := [5]) (by kernel_rfl) (by simp) ?_
      refine AllReadyH.cons_yes rfl (by kernel_rfl) (fun K hK => ?_) AllReadyH.nil
      go_simp
      refine (srcAt_at (Blk.drew HS12.out)).mono ?_
      rintro e w' ⟨rfl, rfl⟩
      refine hK.out _ _ ⟨c0, m0, x2⟩ (fun hHeld' => ?_)
      clear hK K hHeld
      have hHeld := hHeld'
      clear hHeld'
      (try simp only [Act.put, List.getElem_toArray, List.getElem_cons_succ, List.getElem_cons_zero, List.setIfInBounds_toArray, List.set_cons_zero, List.set_cons_succ])
      refine wpAnyH_take (i := 8) (v := ?_) rfl (by kernel_rfl) (by kernel_rfl) (by kernel_rfl) (fun _ _ _ h => h) (Or.inl ⟨by kernel_rfl, ?_⟩) (by assumption) ?_
      rotate_left
      · intro w hSw; (try dsimp only at hSw); go_simp; (try with_reducible rfl)
      (try simp only [Act.put, List.getElem_toArray, List.getElem_cons_succ, List.getElem_cons_zero, List.setIfInBounds_toArray, List.set_cons_zero, List.set_cons_succ])
      refine wpAnyH_take (i := 9) (v := ?_) rfl (by kernel_rfl) (by kernel_rfl) (by kernel_rfl) (fun _ _ _ h => h) (Or.inl ⟨by kernel_rfl, ?_⟩) (by assumption) ?_
      rotate_left
      · intro w hSw; (try dsimp only at hSw); go_simp; (try with_reducible rfl)
      (try simp only [Act.put, List.getElem_toArray, List.getElem_cons_succ, List.getElem_cons_zero, List.setIfInBounds_toArray, List.set_cons_zero, List.set_cons_succ])
      refine wpAnyH_take (i := 10) (v := ?_) rfl (by kernel_rfl) (by kernel_rfl) (by kernel_rfl) (fun _ _ _ h => h) (Or.inl ⟨by kernel_rfl, ?_⟩) (by assumption) ?_
      rotate_left
      · intro w hSw; (try dsimp only at hSw); go_simp; (try with_reducible rfl)
      (try simp only [Act.put, List.getElem_toArray, List.getElem_cons_succ, List.getElem_cons_zero, List.setIfInBounds_toArray, List.set_cons_zero, List.set_cons_succ])
      refine wpAnyH_take (i := 11) (v := ?_) rfl (by kernel_rfl) (by kernel_rfl) (by kernel_rfl) (fun _ _ _ h => h) (Or.inl ⟨by kernel_rfl, ?_⟩) (by assumption) ?_
      rotate_left
      · intro w hSw; (try dsimp only at hSw); go_simp; (try with_reducible rfl)
      (try simp only [Act.put, List.getElem_toArray, List.getElem_cons_succ, List.getElem_cons_zero, List.setIfInBounds_toArray, List.set_cons_zero, List.set_cons_succ])
      refine wpAnyH_take (i := 12) (v := ?_) rfl (by kernel_rfl) (by kernel_rfl) (by kernel_rfl) (fun _ _ _ h => h) (Or.inl ⟨by kernel_rfl, ?_⟩) (by assumption) ?_
      rotate_left
      · intro w hSw; (try dsimp only at hSw); go_simp; (try with_reducible rfl)
      (try simp only [Act.put, List.getElem_toArray, List.getElem_cons_succ, List.getElem_cons_zero, List.setIfInBounds_toArray, List.set_cons_zero, List.set_cons_succ])
      refine wpAnyH_take (i := 13) (v := ?_) rfl (by kernel_rfl) (by kernel_rfl) (by kernel_rfl) (fun _ _ _ h => h) (Or.inl ⟨by kernel_rfl, ?_⟩) (by assumption) ?_
      rotate_left
      · intro w hSw; (try dsimp only at hSw); go_simp; (try with_reducible rfl)
      (try simp only [Act.put, List.getElem_toArray, List.getElem_cons_succ, List.getElem_cons_zero, List.setIfInBounds_toArray, List.set_cons_zero, List.set_cons_succ])
      refine wpAnyH_take (i := 14) (v := ?_) rfl (by kernel_rfl) (by kernel_rfl) (by kernel_rfl) (fun _ _ _ h => h) (Or.inl ⟨by kernel_rfl, ?_⟩) (by assumption) ?_
      rotate_left
      · intro w hSw; (try dsimp only at hSw); go_simp; (try with_reducible rfl)
      (try simp only [Act.put, List.getElem_toArray, List.getElem_cons_succ, List.getElem_cons_zero, List.setIfInBounds_toArray, List.set_cons_zero, List.set_cons_succ])
      refine wpAnyH_take (i := 15) (v := ?_) rfl (by kernel_rfl) (by kernel_rfl) (by kernel_rfl) (fun _ _ _ h => h) (Or.inl ⟨by kernel_rfl, ?_⟩) (by assumption) ?_
      rotate_left
      · intro w hSw; (try dsimp only at hSw); go_simp; (try with_reducible rfl)
      (try simp only [Act.put, List.getElem_toArray, List.getElem_cons_succ, List.getElem_cons_zero, List.setIfInBounds_toArray, List.set_cons_zero, List.set_cons_succ])
      refine wpAnyH_take (i := 16) (v := ?_) rfl (by kernel_rfl) (by kernel_rfl) (by kernel_rfl) (fun _ _ _ h => h) (Or.inl ⟨by kernel_rfl, ?_⟩) (by assumption) ?_
      rotate_left
      · intro w hSw; (try dsimp only at hSw); go_simp; (try with_reducible rfl)
      (try simp only [Act.put, List.getElem_toArray, List.getElem_cons_succ, List.getElem_cons_zero, List.setIfInBounds_toArray, List.set_cons_zero, List.set_cons_succ])
      refine wpAnyH_take (i := 17) (v := ?_) rfl (by kernel_rfl) (by kernel_rfl) (by kernel_rfl) (fun _ _ _ h => h) (Or.inl ⟨by kernel_rfl, ?_⟩) (by assumption) ?_
      rotate_left
      · intro w hSw; (try dsimp only at hSw); go_simp; (try with_reducible rfl)
      (try simp only [Act.put, List.getElem_toArray, List.getElem_cons_succ, List.getElem_cons_zero, List.setIfInBounds_toArray, List.set_cons_zero, List.set_cons_succ])
      refine wpAnyH_take (i := 18) (v := ?_) rfl (by kernel_rfl) (by kernel_rfl) (by kernel_rfl) (fun _ _ _ h => h) (Or.inl ⟨by kernel_rfl, ?_⟩) (by assumption) ?_
      rotate_left
      · intro w hSw; (try dsimp only at hSw); go_simp; (try with_reducible rfl)
      (try simp only [Act.put, List.getElem_toArray, List.getElem_cons_succ, List.getElem_cons_zero, List.setIfInBounds_toArray, List.set_cons_zero, List.set_cons_succ])
      refine wpAnyH_done (by kernel_rfl) ?_ _
      (try simp only [List.getElem_toArray, List.getElem_cons_succ, List.getElem_cons_zero, List.set_cons_zero, List.set_cons_succ])
      go_wp2_with fail
      go_meet
      case rel => exact ⟨rfl, Lib.hid (HI.out.below ((Below.refl _ _).drew))⟩
    | some l =>
      have hd : decide h.mapped = true := by rw [← hla]; simp
      rw [hd] at hr1
      clear hla hd
      refine wp_region_held_drew (S := (fun w9 => w9.cell? ⟨qf, 0, none⟩ = some (.int .i64 0) ∧ w9.cell? ⟨pm, 0, none⟩ = some (.int .i64 (a : Int)) ∧ w9.cell? ⟨ph, 2, none⟩ = some (.int .i64 (h.typ : Int)))) (by kernel_rfl) ⟨c0, m0, x2⟩ (fun hHeld => ?_)
      refine wpAnyH_take (i := 0) (v := ?_) rfl (by kernel_rfl) (by kernel_rfl) (by kernel_rfl) (fun _ _ _ h => h) (Or.inl ⟨by kernel_rfl, ?_⟩) (by assumption) ?_
      rotate_left
      · intro w hSw; (try dsimp only at hSw); go_simp; (try with_reducible rfl)
      (try simp only [Act.put, List.getElem_toArray, List.getElem_cons_succ, List.getElem_cons_zero, List.setIfInBounds_toArray, List.set_cons_zero, List.set_cons_succ])
      refine wpAnyH_take (i := 1) (v := ?_) rfl (by kernel_rfl) (by kernel_rfl) (by kernel_rfl) (fun _ _ _ h => h) (Or.inl ⟨by kernel_rfl, ?_⟩) (by assumption) ?_
      rotate_left
      · intro w hSw; (try dsimp only at hSw); go_simp; (try with_reducible rfl)
      (try simp only [Act.put, List.getElem_toArray, List.getElem_cons_succ, List.getElem_cons_zero, List.setIfInBounds_toArray, List.set_cons_zero, List.set_cons_succ])
      refine wpAnyH_take (i := 2) (v := ?_) rfl (by kernel_rfl) (by kernel_rfl) (by kernel_rfl) (fun _ _ _ h => h) (Or.inl ⟨by kernel_rfl, ?_⟩) (by assumption) ?_
      rotate_left
      · intro w hSw; (try dsimp only at hSw); go_simp; (try with_reducible rfl)
      (try simp only [Act.put, List.getElem_toArray, List.getElem_cons_succ, List.getElem_cons_zero, List.setIfInBounds_toArray, List.set_cons_zero, List.set_cons_succ])
      refine wpAnyH_take (i := 3) (v := ?_) rfl (by kernel_rfl) (by kernel_rfl) (by kernel_rfl) (fun _ _ _ h => h) (Or.inl ⟨by kernel_rfl, ?_⟩) (by assumption) ?_
      rotate_left
      · intro w hSw; (try dsimp only at hSw); go_simp; (try with_reducible rfl)
      (try simp only [Act.put, List.getElem_toArray, List.getElem_cons_succ, List.getElem_cons_zero, List.setIfInBounds_toArray, List.set_cons_zero, List.set_cons_succ])
      refine wpAnyH_take (i := 4) (v := ?_) rfl (by kernel_rfl) (by kernel_rfl) (by kernel_rfl) (fun _ _ _ h => h) (Or.inl ⟨by kernel_rfl, ?_⟩) (by assumption) ?_
      rotate_left
      · intro w hSw; (try dsimp only at hSw); go_simp; (try with_reducible rfl)
      (try simp only [Act.put, List.getElem_toArray, List.getElem_cons_succ, List.getElem_cons_zero, List.setIfInBounds_toArray, List.set_cons_zero, List.set_cons_succ])
      refine wpAnyH_take (i := 6) (v := ?_) rfl (by kernel_rfl) (by kernel_rfl) (by kernel_rfl) (fun _ _ _ h => h) (Or.inl ⟨by kernel_rfl, ?_⟩) (by assumption) ?_
      rotate_left
      · intro w hSw; (try dsimp only at hSw); go_simp; (try with_reducible rfl)
      (try simp only [Act.put, List.getElem_toArray, List.getElem_cons_succ, List.getElem_cons_zero, List.setIfInBounds_toArray, List.set_cons_zero, List.set_cons_succ])
      refine wpAnyH_take (i := 7) (v := ?_) rfl (by kernel_rfl) (by kernel_rfl) (by kernel_rfl) (fun _ _ _ h => h) (Or.inl ⟨by kernel_rfl, ?_⟩) (by assumption) ?_
      rotate_left
      · intro w hSw; (try dsimp only at hSw); go_simp; (try with_reducible rfl)
      (try simp only [Act.put, List.getElem_toArray, List.getElem_cons_succ, List.getElem_cons_zero, List.setIfInBounds_toArray, List.set_cons_zero, List.set_cons_succ])
      refine wpAnyH_ready (rs := [5]) (by kernel_rfl) (by simp) ?_
      refine AllReadyH.cons_yes rfl (by kernel_rfl) (fun K hK => ?_) AllReadyH.nil
      go_simp
      refine (srcAt_at (Blk.drew HS12.out)).mono ?_
      rintro e w' ⟨rfl, rfl⟩
      refine hK.out _ _ ⟨c0, m0, x2⟩ (fun hHeld' => ?_)
      clear hK K hHeld
      have hHeld := hHeld'
      clear hHeld'
      (try simp only [Act.put, List.getElem_toArray, List.getElem_cons_succ, List.getElem_cons_zero, List.setIfInBounds_toArray, List.set_cons_zero, List.set_cons_succ])
      refine wpAnyH_take (i := 8) (v := ?_) rfl (by kernel_rfl) (by kernel_rfl) (by kernel_rfl) (fun _ _ _ h => h) (Or.inl ⟨by kernel_rfl, ?_⟩) (by assumption) ?_
      rotate_left
      · intro w hSw; (try dsimp only at hSw); go_simp; (try with_reducible rfl)
      (try simp only [Act.put, List.getElem_toArray, List.getElem_cons_succ, List.getElem_cons_zero, List.setIfInBounds_toArray, List.set_cons_zero, List.set_cons_succ])
      refine wpAnyH_take (i := 9) (v := ?_) rfl (by kernel_rfl) (by kernel_rfl) (by kernel_rfl) (fun _ _ _ h => h) (Or.inl ⟨by kernel_rfl, ?_⟩) (by assumption) ?_
      rotate_left
      · intro w hSw; (try dsimp only at hSw); go_simp; (try with_reducible rfl)
      (try simp only [Act.put, List.getElem_toArray, List.getElem_cons_succ, List.getElem_cons_zero, List.setIfInBounds_toArray, List.set_cons_zero, List.set_cons_succ])
      refine wpAnyH_take (i := 10) (v := ?_) rfl (by kernel_rfl) (by kernel_rfl) (by kernel_rfl) (fun _ _ _ h => h) (Or.inl ⟨by kernel_rfl, ?_⟩) (by assumption) ?_
      rotate_left
      · intro w hSw; (try dsimp only at hSw); go_simp; (try with_reducible rfl)
      (try simp only [Act.put, List.getElem_toArray, List.getElem_cons_succ, List.getElem_cons_zero, List.setIfInBounds_toArray, List.set_cons_zero, List.set_cons_succ])
      refine wpAnyH_take (i := 11) (v := ?_) rfl (by kernel_rfl) (by kernel_rfl) (by kernel_rfl) (fun _ _ _ h => h) (Or.inl ⟨by kernel_rfl, ?_⟩) (by assumption) ?_
      rotate_left
      · intro w hSw; (try dsimp only at hSw); go_simp; (try with_reducible rfl)
      (try simp only [Act.put, List.getElem_toArray, List.getElem_cons_succ, List.getElem_cons_zero, List.setIfInBounds_toArray, List.set_cons_zero, List.set_cons_succ])
      refine wpAnyH_take (i := 12) (v := ?_) rfl (by kernel_rfl) (by kernel_rfl) (by kernel_rfl) (fun _ _ _ h => h) (Or.inl ⟨by kernel_rfl, ?_⟩) (by assumption) ?_
      rotate_left
      · intro w hSw; (try dsimp only at hSw); go_simp; (try with_reducible rfl)
      (try simp only [Act.put, List.getElem_toArray, List.getElem_cons_succ, List.getElem_cons_zero, List.setIfInBounds_toArray, List.set_cons_zero, List.set_cons_succ])
      refine wpAnyH_take (i := 13) (v := ?_) rfl (by kernel_rfl) (by kernel_rfl) (by kernel_rfl) (fun _ _ _ h => h) (Or.inl ⟨by kernel_rfl, ?_⟩) (by assumption) ?_
      rotate_left
      · intro w hSw; (try dsimp only at hSw); go_simp; (try with_reducible rfl)
      (try simp only [Act.put, List.getElem_toArray, List.getElem_cons_succ, List.getElem_cons_zero, List.setIfInBounds_toArray, List.set_cons_zero, List.set_cons_succ])
      refine wpAnyH_take (i := 14) (v := ?_) rfl (by kernel_rfl) (by kernel_rfl) (by kernel_rfl) (fun _ _ _ h => h) (Or.inl ⟨by kernel_rfl, ?_⟩) (by assumption) ?_
      rotate_left
      · intro w hSw; (try dsimp only at hSw); go_simp; (try with_reducible rfl)
      (try simp only [Act.put, List.getElem_toArray, List.getElem_cons_succ, List.getElem_cons_zero, List.setIfInBounds_toArray, List.set_cons_zero, List.set_cons_succ])
      refine wpAnyH_take (i := 15) (v := ?_) rfl (by kernel_rfl) (by kernel_rfl) (by kernel_rfl) (fun _ _ _ h => h) (Or.inl ⟨by kernel_rfl, ?_⟩) (by assumption) ?_
      rotate_left
      · intro w hSw; (try dsimp only at hSw); go_simp; (try with_reducible rfl)
      (try simp only [Act.put, List.getElem_toArray, List.getElem_cons_succ, List.getElem_cons_zero, List.setIfInBounds_toArray, List.set_cons_zero, List.set_cons_succ])
      refine wpAnyH_take (i := 16) (v := ?_) rfl (by kernel_rfl) (by kernel_rfl) (by kernel_rfl) (fun _ _ _ h => h) (Or.inl ⟨by kernel_rfl, ?_⟩) (by assumption) ?_
      rotate_left
      · intro w hSw; (try dsimp only at hSw); go_simp; (try with_reducible rfl)
      (try simp only [Act.put, List.getElem_toArray, List.getElem_cons_succ, List.getElem_cons_zero, List.setIfInBounds_toArray, List.set_cons_zero, List.set_cons_succ])
      refine wpAnyH_take (i := 17) (v := ?_) rfl (by kernel_rfl) (by kernel_rfl) (by kernel_rfl) (fun _ _ _ h => h) (Or.inl ⟨by kernel_rfl, ?_⟩) (by assumption) ?_
      rotate_left
      · intro w hSw; (try dsimp only at hSw); go_simp; (try with_reducible rfl)
      (try simp only [Act.put, List.getElem_toArray, List.getElem_cons_succ, List.getElem_cons_zero, List.setIfInBounds_toArray, List.set_cons_zero, List.set_cons_succ])
      refine wpAnyH_take (i := 18) (v := ?_) rfl (by kernel_rfl) (by kernel_rfl) (by kernel_rfl) (fun _ _ _ h => h) (Or.inl ⟨by kernel_rfl, ?_⟩) (by assumption) ?_
      rotate_left
      · intro w hSw; (try dsimp only at hSw); go_simp; (try with_reducible rfl)
      (try simp only [Act.put, List.getElem_toArray, List.getElem_cons_succ, List.getElem_cons_zero, List.setIfInBounds_toArray, List.set_cons_zero, List.set_cons_succ])
      refine wpAnyH_done (by kernel_rfl) ?_ _
      (try simp only [List.getElem_toArray, List.getElem_cons_succ, List.getElem_cons_zero, List.set_cons_zero, List.set_cons_succ])
      go_wp2_with fail
      go_meet
      case rel => exact ⟨rfl, Lib.hid (HI.out.below ((Below.refl _ _).drew))⟩
  case rest =>
    obtain ⟨rfl, HI15⟩ := hcut
    clear m0 m2 x2 c0 d0 hr1 hr8 HS12 HI hla
    have m0 : wc.cell? ⟨pm, 0, none⟩ = some (.int .i64 (a : Int)) := Blk.cell HI15.out.Mp 0
    go_upto_region 19 with fail
    go_loopg [14, 15, 16, 17, 18, 19, 113] N (fun k v14 v15 v16 v17 v18 v19 v113 wr => ∃ (i b : Nat) (y : Led), i + k = N ∧ v113 = .int .i64 (i : Int) ∧ v14 = .int .i64 (b : Int) ∧ b ≤ s.size ∧ y.Ok ∧ Hid (Room y ((m : Nat) : Int) (400 + (i : Int))) ∧ Hid (PfI w wr p g ph hb pm s h mi va vn vc M a b m (.pointer la) w8.heap.size y))
    case atStart => exact ⟨0, a, y2, by omega, rfl, rfl, hale, ok9, Lib.hid (by simpa using R9), HI15⟩
    case round =>
      obtain ⟨i, b, y, hi, rfl, rfl, hbs, yok, HRM, HX⟩ := hrel
      clear HI15 m0
      by_cases hiN : i < N
      · have hiI : (i : Int) < (N : Int) := by omega
        have hII := Lib.hid hi
        clear hi
        have HPC := Lib.hid (tgaPixelC ok HX.out.P hsm hbs HX.out.S HX.out.L yok HRM.out.r)
        unfold TPixPost tHdV at HPC
        simp only [tFlt, tFlt0] at HPC
        have th0 : wr.cell? ⟨hb, 0, none⟩ = some (.int .i64 (h.name : Int)) := Blk.cell HX.out.T 0
        have th1 : wr.cell? ⟨hb, 1, none⟩ = some (.bool h.map) := Blk.cell HX.out.T 1
        have th2 : wr.cell? ⟨hb, 2, none⟩ = some (.int .i64 (h.typ : Int)) := Blk.cell HX.out.T 2
        have th3 : wr.cell? ⟨hb, 3, none⟩ = some (.int .i64 (h.first : Int)) := Blk.cell HX.out.T 3
        have th4 : wr.cell? ⟨hb, 4, none⟩ = some (.int .i64 (h.count : Int)) := Blk.cell HX.out.T 4
        have th5 : wr.cell? ⟨hb, 5, none⟩ = some (.int .i64 (h.entry : Int)) := Blk.cell HX.out.T 5
        have th6 : wr.cell? ⟨hb, 6, none⟩ = some (.int .i64 (h.W : Int)) := Blk.cell HX.out.T 6
        have th7 : wr.cell? ⟨hb, 7, none⟩ = some (.int .i64 (h.H : Int)) := Blk.cell HX.out.T 7
        have th8 : wr.cell? ⟨hb, 8, none⟩ = some (.int .i64 (h.depth : Int)) := Blk.cell HX.out.T 8
        have th9 : wr.cell? ⟨hb, 9, none⟩ = some (.int .i64 (h.alpha : Int)) := Blk.cell HX.out.T 9
        have th10 : wr.cell? ⟨hb, 10, none⟩ = some (.bool h.left) := Blk.cell HX.out.T 10
        have th11 : wr.cell? ⟨hb, 11, none⟩ = some (.bool h.top) := Blk.cell HX.out.T 11
        go_upto_region 21 with (go_at_call 13; refine HPC.out.mono ?_; rintro e w20 ⟨y', l20, ok20, hb20, t20, hor⟩; rcases pix_ways HRM.out (by omega) hor with ⟨k, j, rfl, hk, hpe, b', s20⟩ | ⟨q, rfl, hpe, s20, hbz, R20⟩)
        · have hkI : ¬ (k : Int) = 0 := by omega
          have hX20 := HX.out.turn t20 s20 l20
          have HX21 := Lib.hid (hX20.below (((Below.refl _ _).alloc (Nat.le_refl _) (.cells #[.int .u8 0, .int .u8 0, .int .u8 0, .int .u8 0] 49)).alloc (by simp) (.cells #[.int .i64 (k : Int), .int .i64 2, .int .i64 (j : Int)] 37)))
          have D21 : Blk ((w20.alloc (.cells #[.int .u8 0, .int .u8 0, .int .u8 0, .int .u8 0] 49)).alloc (.cells #[.int .i64 (k : Int), .int .i64 2, .int .i64 (j : Int)] 37)) w20.heap.size 49 #[.int .u8 0, .int .u8 0, .int .u8 0, .int .u8 0] := Blk.alloc (Blk.new _ _ _) _
          have E21 : FB ((w20.alloc (.cells #[.int .u8 0, .int .u8 0, .int .u8 0, .int .u8 0] 49)).alloc (.cells #[.int .i64 (k : Int), .int .i64 2, .int .i64 (j : Int)] 37)) (w20.heap.size + 1) (k : Int) 2 (j : Int) := Blk.new_at _ _ _ (by simp)
          clear HPC hX20 hor t20 s20 l20 th0 th1 th2 th3 th4 th5 th6 th7 th8 th9 th10 th11
          generalize (w20.alloc (.cells #[.int .u8 0, .int .u8 0, .int .u8 0, .int .u8 0] 49)).alloc (.cells #[.int .i64 (k : Int), .int .i64 2, .int .i64 (j : Int)] 37) = w21 at HX21 D21 E21 ⊢
          generalize w20.heap.size + 1 = qe at E21 ⊢
          generalize w20.heap.size = qd at D21 ⊢
          have x0 : w21.cell? ⟨ph, 0, none⟩ = some (.int .i64 (h.name : Int)) := Blk.cell HX21.out.X 0
          have x1 : w21.cell? ⟨ph, 1, none⟩ = some (.int .i64 mi) := Blk.cell HX21.out.X 1
          have x2 : w21.cell? ⟨ph, 2, none⟩ = some (.int .i64 (h.typ : Int)) := Blk.cell HX21.out.X 2
          have x3 : w21.cell? ⟨ph, 3, none⟩ = some (.int .i64 (h.first : Int)) := Blk.cell HX21.out.X 3
          have x4 : w21.cell? ⟨ph, 4, none⟩ = some (.int .i64 (h.count : Int)) := Blk.cell HX21.out.X 4
          have x5 : w21.cell? ⟨ph, 5, none⟩ = some (.int .i64 (h.entry : Int)) := Blk.cell HX21.out.X 5
          have x6 : w21.cell? ⟨ph, 6, none⟩ = some (.int .i64 (h.W : Int)) := Blk.cell HX21.out.X 6
          have x7 : w21.cell? ⟨ph, 7, none⟩ = some (.int .i64 (h.H : Int)) := Blk.cell HX21.out.X 7
          have x8 : w21.cell? ⟨ph, 8, none⟩ = some (.int .i64 (h.depth : Int)) := Blk.cell HX21.out.X 8
          have x9 : w21.cell? ⟨ph, 9, none⟩ = some (.int .i64 (h.alpha : Int)) := Blk.cell HX21.out.X 9
          have x10 : w21.cell? ⟨ph, 10, none⟩ = some (.bool h.left) := Blk.cell HX21.out.X 10
          have x11 : w21.cell? ⟨ph, 11, none⟩ = some (.bool h.top) := Blk.cell HX21.out.X 11
          have x12 : w21.cell? ⟨ph, 12, none⟩ = some (.int .i64 0) := Blk.cell HX21.out.X 12
          have x13 : w21.cell? ⟨ph, 13, none⟩ = some (.int .i64 0) := Blk.cell HX21.out.X 13
          have m1 : w21.cell? ⟨pm, 1, none⟩ = some (.slice va vn vc) := Blk.cell HX21.out.Mp 1
          have HPE := Lib.hid (HPX.out w21 b _ HX21.out.R hml hbs)
          have HPV := Lib.hid hpe
          clear hpe
          go_upto_region 22 with (go_at_call 14; refine HPE.out.mono ?_; rintro e w22 ⟨b22, q', k', i', rfl, hor2⟩; obtain ⟨rfl, rfl⟩ : k' = k ∧ i' = j := (by rw [HPV.out] at hor2; rcases hor2 with ⟨_, e2⟩ | ⟨_, _, e2⟩; (injection e2 with e2; injection e2 with e3 e4; exact ⟨e3.symm, e4.symm⟩); cases e2); clear hor2)
          have D23 : Blk (w22.alloc (.cells #[.int .u8 (q'.r.toNat : Int), .int .u8 (q'.g.toNat : Int), .int .u8 (q'.b.toNat : Int), .int .u8 (q'.a.toNat : Int)] 49)) qd 49 #[.int .u8 0, .int .u8 0, .int .u8 0, .int .u8 0] := Blk.alloc (Blk.below D21 b22 (Blk.lt D21)) _
          have E23 : FB (w22.alloc (.cells #[.int .u8 (q'.r.toNat : Int), .int .u8 (q'.g.toNat : Int), .int .u8 (q'.b.toNat : Int), .int .u8 (q'.a.toNat : Int)] 49)) qe (k' : Int) 2 (i' : Int) := Blk.alloc (FB.below E21 b22) _
          have B23 : Below w.heap.size w (w22.alloc (.cells #[.int .u8 (q'.r.toNat : Int), .int .u8 (q'.g.toNat : Int), .int .u8 (q'.b.toNat : Int), .int .u8 (q'.a.toNat : Int)] 49)) := by have B := below_next HX21.out.B b22; exact B.alloc B.size _
          clear HPE HPV D21 E21 HX21 b22 m1 x0 x1 x2 x3 x4 x5 x6 x7 x8 x9 x10 x11 x12 x13
          generalize w22.alloc (.cells #[.int .u8 (q'.r.toNat : Int), .int .u8 (q'.g.toNat : Int), .int .u8 (q'.b.toNat : Int), .int .u8 (q'.a.toNat : Int)] 49) = w23 at D23 E23 B23 ⊢
          obtain ⟨c0, c1, c2, z0, z1, z2, fl⟩ := FB.all E23
          have d0 : w23.cell? ⟨qd, 0, none⟩ = some (.int .u8 0) := Blk.cell D23 0
          have d1 : w23.cell? ⟨qd, 1, none⟩ = some (.int .u8 0) := Blk.cell D23 1
          have d2 : w23.cell? ⟨qd, 2, none⟩ = some (.int .u8 0) := Blk.cell D23 2
          have d3 : w23.cell? ⟨qd, 3, none⟩ = some (.int .u8 0) := Blk.cell D23 3
          go_wp2_with (go_at_call 5; refine (awake17_any _).mono ?_; rintro e w24 ⟨rfl, b24⟩)
          go_ret
          exact ⟨rfl, below_next B23 b24⟩
        · have hX20 := HX.out.turn t20 s20 l20
          obtain ⟨er, her⟩ : ∃ e, (q.r.toNat : Int) = e := ⟨_, rfl⟩
          obtain ⟨eg, heg⟩ : ∃ e, (q.g.toNat : Int) = e := ⟨_, rfl⟩
          obtain ⟨eb, heb⟩ : ∃ e, (q.b.toNat : Int) = e := ⟨_, rfl⟩
          obtain ⟨ea, hea⟩ : ∃ e, (q.a.toNat : Int) = e := ⟨_, rfl⟩
          simp only [her, heg, heb, hea]
          have HQE := Lib.hid (And.intro her (And.intro heg (And.intro heb hea)))
          clear her heg heb hea
          have HX21 := Lib.hid (hX20.below (((Below.refl _ _).alloc (Nat.le_refl _) (.cells #[.int .u8 er, .int .u8 eg, .int .u8 eb, .int .u8 ea] 49)).alloc (by simp) (.cells #[.int .i64 0, .int .i64 0, .int .i64 0] 37)))
          have D21 : Blk ((w20.alloc (.cells #[.int .u8 er, .int .u8 eg, .int .u8 eb, .int .u8 ea] 49)).alloc (.cells #[.int .i64 0, .int .i64 0, .int .i64 0] 37)) w20.heap.size 49 #[.int .u8 er, .int .u8 eg, .int .u8 eb, .int .u8 ea] := Blk.alloc (Blk.new _ _ _) _
          have E21 : FB ((w20.alloc (.cells #[.int .u8 er, .int .u8 eg, .int .u8 eb, .int .u8 ea] 49)).alloc (.cells #[.int .i64 0, .int .i64 0, .int .i64 0] 37)) (w20.heap.size + 1) 0 0 0 := Blk.new_at _ _ _ (by simp)
          clear HPC hX20 hor t20 s20 l20 th0 th1 th2 th3 th4 th5 th6 th7 th8 th9 th10 th11
          generalize (w20.alloc (.cells #[.int .u8 er, .int .u8 eg, .int .u8 eb, .int .u8 ea] 49)).alloc (.cells #[.int .i64 0, .int .i64 0, .int .i64 0] 37) = w21 at HX21 D21 E21 ⊢
          generalize w20.heap.size + 1 = qe at E21 ⊢
          generalize w20.heap.size = qd at D21 ⊢
          have x0 : w21.cell? ⟨ph, 0, none⟩ = some (.int .i64 (h.name : Int)) := Blk.cell HX21.out.X 0
          have x1 : w21.cell? ⟨ph, 1, none⟩ = some (.int .i64 mi) := Blk.cell HX21.out.X 1
          have x2 : w21.cell? ⟨ph, 2, none⟩ = some (.int .i64 (h.typ : Int)) := Blk.cell HX21.out.X 2
          have x3 : w21.cell? ⟨ph, 3, none⟩ = some (.int .i64 (h.first : Int)) := Blk.cell HX21.out.X 3
          have x4 : w21.cell? ⟨ph, 4, none⟩ = some (.int .i64 (h.count : Int)) := Blk.cell HX21.out.X 4
          have x5 : w21.cell? ⟨ph, 5, none⟩ = some (.int .i64 (h.entry : Int)) := Blk.cell HX21.out.X 5
          have x6 : w21.cell? ⟨ph, 6, none⟩ = some (.int .i64 (h.W : Int)) := Blk.cell HX21.out.X 6
          have x7 : w21.cell? ⟨ph, 7, none⟩ = some (.int .i64 (h.H : Int)) := Blk.cell HX21.out.X 7
          have x8 : w21.cell? ⟨ph, 8, none⟩ = some (.int .i64 (h.depth : Int)) := Blk.cell HX21.out.X 8
          have x9 : w21.cell? ⟨ph, 9, none⟩ = some (.int .i64 (h.alpha : Int)) := Blk.cell HX21.out.X 9
          have x10 : w21.cell? ⟨ph, 10, none⟩ = some (.bool h.left) := Blk.cell HX21.out.X 10
          have x11 : w21.cell? ⟨ph, 11, none⟩ = some (.bool h.top) := Blk.cell HX21.out.X 11
          have x12 : w21.cell? ⟨ph, 12, none⟩ = some (.int .i64 0) := Blk.cell HX21.out.X 12
          have x13 : w21.cell? ⟨ph, 13, none⟩ = some (.int .i64 0) := Blk.cell HX21.out.X 13
          have m1 : w21.cell? ⟨pm, 1, none⟩ = some (.slice va vn vc) := Blk.cell HX21.out.Mp 1
          have HPE := Lib.hid (HPX.out w21 b _ HX21.out.R hml hbs)
          have HPV := Lib.hid hpe
          clear hpe
          go_upto_region 22 with (go_at_call 14; refine HPE.out.mono ?_; rintro e w22 ⟨b22, q', k', i', rfl, hor2⟩; obtain ⟨hk0', hq0'⟩ : k' = 0 ∧ q' = q := (by rw [HPV.out] at hor2; rcases hor2 with ⟨_, e2⟩ | ⟨e1, _, e2⟩; cases e2; (injection e2 with e2; exact ⟨e1, e2.symm⟩)); clear hor2; subst hk0' hq0'; (try simp only [HQE.out.1, HQE.out.2.1, HQE.out.2.2.1, HQE.out.2.2.2]); (try simp only [show (((0 : Nat)) : Int) = 0 from rfl]))
          have HX23 := Lib.hid ((HX21.out.below b22).below ((Below.refl _ _).alloc (Nat.le_refl _) (.cells #[.int .u8 er, .int .u8 eg, .int .u8 eb, .int .u8 ea] 49)))
          have D23 : Blk (w22.alloc (.cells #[.int .u8 er, .int .u8 eg, .int .u8 eb, .int .u8 ea] 49)) qd 49 #[.int .u8 er, .int .u8 eg, .int .u8 eb, .int .u8 ea] := Blk.alloc (Blk.below D21 b22 (Blk.lt D21)) _
          have E23 : FB (w22.alloc (.cells #[.int .u8 er, .int .u8 eg, .int .u8 eb, .int .u8 ea] 49)) qe 0 0 0 := Blk.alloc (FB.below E21 b22) _
          have G23 : Blk (w22.alloc (.cells #[.int .u8 er, .int .u8 eg, .int .u8 eb, .int .u8 ea] 49)) w22.heap.size 49 #[.int .u8 er, .int .u8 eg, .int .u8 eb, .int .u8 ea] := Blk.new _ _ _
          clear HPE HPV D21 E21 HX21 b22 m1 x0 x1 x2 x3 x4 x5 x6 x7 x8 x9 x10 x11 x12 x13
          generalize w22.alloc (.cells #[.int .u8 er, .int .u8 eg, .int .u8 eb, .int .u8 ea] 49) = w23 at D23 E23 G23 HX23 ⊢
          generalize w22.heap.size = qg' at G23 ⊢
          obtain ⟨c0, c1, c2, z0, z1, z2, fl⟩ := FB.all E23
          have d0 : w23.cell? ⟨qd, 0, none⟩ = some (.int .u8 er) := Blk.cell D23 0
          have d1 : w23.cell? ⟨qd, 1, none⟩ = some (.int .u8 eg) := Blk.cell D23 1
          have d2 : w23.cell? ⟨qd, 2, none⟩ = some (.int .u8 eb) := Blk.cell D23 2
          have d3 : w23.cell? ⟨qd, 3, none⟩ = some (.int .u8 ea) := Blk.cell D23 3
          have g0 : w23.cell? ⟨qg', 0, none⟩ = some (.int .u8 er) := Blk.cell G23 0
          have g1 : w23.cell? ⟨qg', 1, none⟩ = some (.int .u8 eg) := Blk.cell G23 1
          have g2 : w23.cell? ⟨qg', 2, none⟩ = some (.int .u8 eb) := Blk.cell G23 2
          have g3 : w23.cell? ⟨qg', 3, none⟩ = some (.int .u8 ea) := Blk.cell G23 3
          have x0 : w23.cell? ⟨ph, 0, none⟩ = some (.int .i64 (h.name : Int)) := Blk.cell HX23.out.X 0
          have x1 : w23.cell? ⟨ph, 1, none⟩ = some (.int .i64 mi) := Blk.cell HX23.out.X 1
          have x2 : w23.cell? ⟨ph, 2, none⟩ = some (.int .i64 (h.typ : Int)) := Blk.cell HX23.out.X 2
          have x3 : w23.cell? ⟨ph, 3, none⟩ = some (.int .i64 (h.first : Int)) := Blk.cell HX23.out.X 3
          have x4 : w23.cell? ⟨ph, 4, none⟩ = some (.int .i64 (h.count : Int)) := Blk.cell HX23.out.X 4
          have x5 : w23.cell? ⟨ph, 5, none⟩ = some (.int .i64 (h.entry : Int)) := Blk.cell HX23.out.X 5
          have x6 : w23.cell? ⟨ph, 6, none⟩ = some (.int .i64 (h.W : Int)) := Blk.cell HX23.out.X 6
          have x7 : w23.cell? ⟨ph, 7, none⟩ = some (.int .i64 (h.H : Int)) := Blk.cell HX23.out.X 7
          have x8 : w23.cell? ⟨ph, 8, none⟩ = some (.int .i64 (h.depth : Int)) := Blk.cell HX23.out.X 8
          have x9 : w23.cell? ⟨ph, 9, none⟩ = some (.int .i64 (h.alpha : Int)) := Blk.cell HX23.out.X 9
          have x10 : w23.cell? ⟨ph, 10, none⟩ = some (.bool h.left) := Blk.cell HX23.out.X 10
          have x11 : w23.cell? ⟨ph, 11, none⟩ = some (.bool h.top) := Blk.cell HX23.out.X 11
          have x12 : w23.cell? ⟨ph, 12, none⟩ = some (.int .i64 0) := Blk.cell HX23.out.X 12
          have x13 : w23.cell? ⟨ph, 13, none⟩ = some (.int .i64 0) := Blk.cell HX23.out.X 13
          obtain ⟨b2, hb2⟩ : ∃ b2, b + h.size = b2 := ⟨_, rfl⟩
          rw [hb2] at hbz HX23
          have hbI : (b : Int) + (z : Int) = (b2 : Int) := by rw [← HZ.out]; omega
          have hbI2 : (b2 : Int) ≤ 900 := by omega
          go_wp2_with (go_at_call 15; refine (HSZ.out _).mono ?_; rintro e w24 ⟨rfl, b24⟩)
          go_roundg (N - (i + 1))
          case measure => have := hII.out; omega
          case rel => exact ⟨i + 1, b2, y', by omega, by go_num, by go_num, hbz, ok20, Lib.hid (by have h1 := R20.t; exact ⟨R20.r, R20.B, R20.S, R20.b, by omega⟩), Lib.hid (HX23.out.below b24)⟩
      · obtain rfl : i = N := by omega
        have hiI : ¬ (i : Int) < (i : Int) := by omega
        have HS13 := Lib.hid HX.out.S
        have HB := Lib.hid HX.out.B
        go_wp2_with (first
          | (go_at_call 12; refine (srcAt_at HS13.out).mono ?_; rintro e w25 ⟨rfl, rfl⟩)
          | (go_at_call 5; refine (awake17_any _).mono ?_; rintro e w26 ⟨rfl, b26⟩))
        go_ret
        exact ⟨rfl, below_next HB.out b26⟩
theorem tgapixFiles_all (w : World) (s : ByteArray) (hs : s.size ≤ maxLen) (n : Nat) (hn : n ≤ 255) :
    Calls Try.prog 3 #[.string s, .int .u8 (n : Int)] w fun e w' => e = .returned (.bool true) ∧ Below w.heap.size w w' := by
  have hs' : s.size ≤ 9223372036854775807 := by unfold maxLen at hs; omega
  cases hf : tgaFault s with
  | some f =>
    have HR := Lib.hid (fun w => refTgaReadA hs' w)
    rw [tgaRdV_some (k := f.1) (i := f.2) hf] at HR
    unfold tRdV at HR
    by_cases h9 : 900 < s.size
    · exact tgapixOut_size HR (by omega) w
    · exact tgapixOut_bad HR (by omega) (by have := tgaFault_kind hf; omega) w
  | none =>
    have HR := Lib.hid (fun w => refTgaReadA hs' w)
    rw [tgaRdV_none2 hf] at HR
    unfold tRV tRdV at HR
    by_cases h9 : 900 < s.size
    · exact tgapixOut_size HR (by omega) w
    · have h9I : ¬ (900 : Int) < (s.size : Int) := by omega
      by_cases hc : 300 < (tgaHd s).count
      · exact tgapixOut_count HR h9I rfl (by omega) w
      · clear HR
        cases hm : tgaMapR s (tgaHd s) with
        | inl g => exact tgapixFiles_map (k := g.1) (i := g.2) hm (by have := tgaMapR_kind hm; omega) (by omega) (tgaFault_ok hf) hf rfl (by omega) hn w
        | inr q => exact tgapixFiles_in (a := q.1) (M := q.2) hm (by omega) (tgaFault_ok hf) hf rfl (by omega) hn w
end Go.Proofs.Ytccldalagbfmhaa
