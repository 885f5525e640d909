/- The law TgarleReads. -/
import Derived.Test.YtccldalagbfmhaaGreatMTgaRa
import Derived.Test.YtccldalagbfmhaaGreatMTgaN2
import Derived.Test.YtccldalagbfmhaaGreatMTga2
import Derived.Deep.CutRange
namespace Go.Proofs.YtccldalagbfmhaaGreat
open Go.RowKit
set_option linter.unusedVariables false
set_option linter.unusedSimpArgs false

theorem awake18_row' (w : World) : RowIn (w.alloc (.cells #[.string ⟨#[97]⟩, .string ⟨#[97]⟩, .string ⟨#[97]⟩, .string ⟨#[98]⟩] 9)) (some ⟨w.heap.size, 0, none⟩) 4 4 [⟨#[97]⟩, ⟨#[97]⟩, ⟨#[97]⟩, ⟨#[98]⟩] := by
  refine ⟨rfl, by omega, .inr ⟨_, _, rfl, fun j hj => ?_⟩⟩
  have h4 : j < 4 := hj
  rw [Nat.zero_add]
  refine (cell_new w _ _ j _ rfl).trans ?_
  match j, h4 with
  | 0, _ => rfl
  | 1, _ => rfl
  | 2, _ => rfl
  | 3, _ => rfl
theorem awake18_pack' : packL (BL [⟨#[97]⟩, ⟨#[97]⟩, ⟨#[97]⟩, ⟨#[98]⟩]) = [130, 97, 0, 98] := by decide
theorem awake18_all (w : World) : Calls Tryz.prog 36 #[] w fun e w' => e = .returned (.bool true) ∧ Below w.heap.size w w' := by
  have HP := Lib.hid (pack_any (awake18_row' w) (by omega) (by intro s hs; simp at hs; rcases hs with rfl | rfl <;> decide))
  rw [awake18_pack'] at HP
  go_enter Tryz.func36, Tryz.ntmps36
  go_wp2_with (go_at_call 85; refine HP.out.mono ?_; rintro e w1 ⟨rfl, _, b1⟩)
  go_ret
  exact ⟨ret1 (vbool (by rw [ByteArray.toList_eq]; decide)), below_next ((Below.refl _ _).alloc (Nat.le_refl _) _) b1⟩
theorem TPal.below {w w' : World} {g m B : Nat} {h : TgaHd} {lv : Value} {M : List Qc} (P : TPal w g h lv M m B) (b : Below w.heap.size w w') : TPal w' g h lv M m B := by
  rcases P with h1 | ⟨h1, h2, h3, h4, l, b', d, h5, h6, h7⟩
  · exact .inl h1
  · exact .inr ⟨h1, h2, h3, h4, l, b', d, h5, h6.below b, h7⟩
theorem TPal.ptr {w : World} {g m B : Nat} {h : TgaHd} {lv : Value} {M : List Qc} (P : TPal w g h lv M m B) : ∃ la, lv = .pointer la := by
  rcases P with ⟨_, h1, _⟩ | ⟨h1, h2, h3, h4, l, b', d, h5, h6⟩
  · exact ⟨_, h1⟩
  · exact ⟨_, h5⟩
theorem TPal.m_le {w : World} {g m B : Nat} {h : TgaHd} {lv : Value} {M : List Qc} (P : TPal w g h lv M m B) (hc : h.count ≤ 300) : m ≤ 1200 := by
  rcases P with ⟨_, _, _, h1⟩ | ⟨h1, h2, h3, h4, _⟩
  · omega
  · omega
/-- behind a new raster -/
theorem TPal.newRaster {w w' : World} {g m B d : Nat} {h : TgaHd} {lv : Value} {M : List Qc} {x : Led} (P : TPal w g h lv M m B) (l0 : LedAt w g x) (t : Turn [g] w w') (hd : w.heap.size ≤ d) : TPalX w' g h lv M d := by
  rcases P with ⟨h1, h2, h3, _⟩ | ⟨h1, h2, h3, h4, l, b', d', h5, h6, _⟩
  · exact .inl ⟨h1, h2, h3⟩
  · have hl := h6.led l0
    have hlt : d' < w.heap.size := by
      obtain ⟨_, _, _, k3, _⟩ := h6
      exact Blk.lt k3.row
    exact .inr ⟨h1, h2, h3, l, b', d', h5, h6.turn t (by simpa using hl.1) (by simpa using hl.2.1) (by simpa using hl.2.2), by omega⟩
def LawT (w : World) (qf qm qr : Nat) (W H : Int) (a : Option Addr) (n c : Nat) (v : Value) : Prop := w.cell? ⟨qf, 0, none⟩ = some (.int .i64 0) ∧ w.cell? ⟨qf, 1, none⟩ = some (.int .i64 0) ∧ w.cell? ⟨qf, 2, none⟩ = some (.int .i64 0) ∧ w.cell? ⟨qm, 0, none⟩ = some (.int .i64 W) ∧ w.cell? ⟨qm, 1, none⟩ = some (.int .i64 H) ∧ w.cell? ⟨qm, 2, none⟩ = some (.slice a n c) ∧
  w.cell? ⟨qr, 0, none⟩ = some (.int .i64 W) ∧ w.cell? ⟨qr, 1, none⟩ = some (.int .i64 H) ∧ w.cell? ⟨qr, 2, none⟩ = some v ∧ w.cell? ⟨qr, 3, none⟩ = some (.int .i64 0) ∧ w.cell? ⟨qr, 4, none⟩ = some (.int .i64 0)
theorem LawT.of {w : World} {qf qm qr : Nat} {W H : Int} {a : Option Addr} {n c : Nat} {v : Value} (F : FB w qf 0 0 0) (I : IB w qm W H a n c) (R : RI w qr W H v 0 0) : LawT w qf qm qr W H a n c v :=
  ⟨Blk.cell F 0, Blk.cell F 1, Blk.cell F 2, Blk.cell I 0, Blk.cell I 1, Blk.cell I 2, Blk.cell R 0, Blk.cell R 1, Blk.cell R 2, Blk.cell R 3, Blk.cell R 4⟩
theorem rwp_gen {c : Code} {Q : Exit → Act → World → Prop} {a : Act} {w : World} {S : World → Prop} (hS : S w) (h : ∀ wx, S wx → c.wp Tryz.prog Q a wx) : c.wp Tryz.prog Q a w := h w hS
theorem QAt.turnS {S : List Nat} {w w' : World} {g off : Nat} {L : List Qc} (h : QAt w g off L) (t : Turn S w w') (hg : g ∉ S) : QAt w' g off L := fun i q hi => by
  obtain ⟨h0, h1, h2, h3⟩ := h i q hi
  have f : ∀ (k : Nat) (v : Value), w.cell? ⟨g, k, none⟩ = some v → w'.cell? ⟨g, k, none⟩ = some v := fun k v e => (World.cell?_of_block (t.block g (World.block_lt_of_cell? w _ e) hg)).trans e
  exact ⟨f _ _ h0, f _ _ h1, f _ _ h2, f _ _ h3⟩
theorem bytesOf {w : World} {d : Nat} {l : List UInt8} (h : Blk w d 5 (C8 l).toArray) : BytesAt w (some ⟨d, 0, none⟩) l.length l := by
  refine ⟨rfl, .inr ⟨d, 0, rfl, fun j hj => ?_⟩⟩
  rw [Nat.zero_add, Blk.cell h j]
  simp [C8, List.getElem?_eq_getElem hj]
set_option maxHeartbeats 2000000 in
theorem tgarleOut_size {s : ByteArray} {v0 v1 v2 v3 v4 v5 v6 v7 v8 v9 v12 v13 : Int} {v10 v11 : Bool} (HR : Hid (∀ w : World, Calls Tryz.prog 35 #[.string s] w fun e w' => e = .returned (.agg #[.int .i64 v0, .int .i64 v1, .int .i64 v2, .int .i64 v3, .int .i64 v4, .int .i64 v5, .int .i64 v6, .int .i64 v7, .int .i64 v8, .int .i64 v9, .bool v10, .bool v11, .int .i64 v12, .int .i64 v13]) ∧ Below w.heap.size w w')) (h1 : (900 : Int) < (s.size : Int)) (w : World) :
    Calls Tryz.prog 7 #[.string s] w fun e w' => e = .returned (.bool true) ∧ Below w.heap.size w w' := by
  go_enter Tryz.func7, Tryz.ntmps7
  go_wp2_with (first
    | (go_at_call 35; refine (HR.out _).mono ?_; rintro e w1 ⟨rfl, b1⟩)
    | (go_at_call 36; refine (awake18_all _).mono ?_; rintro e w2 ⟨rfl, b2⟩))
  go_ret
  exact ⟨rfl, below_next (b1.alloc b1.size _) b2⟩
set_option maxHeartbeats 2000000 in
theorem tgarleOut_bad {s : ByteArray} {v0 v1 v2 v3 v4 v5 v6 v7 v8 v9 v12 v13 : Int} {v10 v11 : Bool} (HR : Hid (∀ w : World, Calls Tryz.prog 35 #[.string s] w fun e w' => e = .returned (.agg #[.int .i64 v0, .int .i64 v1, .int .i64 v2, .int .i64 v3, .int .i64 v4, .int .i64 v5, .int .i64 v6, .int .i64 v7, .int .i64 v8, .int .i64 v9, .bool v10, .bool v11, .int .i64 v12, .int .i64 v13]) ∧ Below w.heap.size w w')) (h1 : ¬ (900 : Int) < (s.size : Int)) (h2 : ¬ v12 = 0) (w : World) :
    Calls Tryz.prog 7 #[.string s] w fun e w' => e = .returned (.bool true) ∧ Below w.heap.size w w' := by
  go_enter Tryz.func7, Tryz.ntmps7
  go_wp2_with (first
    | (go_at_call 35; refine (HR.out _).mono ?_; rintro e w1 ⟨rfl, b1⟩)
    | (go_at_call 36; refine (awake18_all _).mono ?_; rintro e w2 ⟨rfl, b2⟩))
  go_ret
  exact ⟨rfl, below_next (b1.alloc b1.size _) b2⟩
set_option maxHeartbeats 2000000 in
theorem tgarleOut_count {s : ByteArray} {v0 v1 v2 v3 v4 v5 v6 v7 v8 v9 v12 v13 : Int} {v10 v11 : Bool} (HR : Hid (∀ w : World, Calls Tryz.prog 35 #[.string s] w fun e w' => e = .returned (.agg #[.int .i64 v0, .int .i64 v1, .int .i64 v2, .int .i64 v3, .int .i64 v4, .int .i64 v5, .int .i64 v6, .int .i64 v7, .int .i64 v8, .int .i64 v9, .bool v10, .bool v11, .int .i64 v12, .int .i64 v13]) ∧ Below w.heap.size w w')) (h1 : ¬ (900 : Int) < (s.size : Int)) (h2 : v12 = 0) (h3 : (300 : Int) < v4) (w : World) :
    Calls Tryz.prog 7 #[.string s] w fun e w' => e = .returned (.bool true) ∧ Below w.heap.size w w' := by
  go_enter Tryz.func7, Tryz.ntmps7
  go_wp2_with (first
    | (go_at_call 35; refine (HR.out _).mono ?_; rintro e w1 ⟨rfl, b1⟩)
    | (go_at_call 36; refine (awake18_all _).mono ?_; rintro e w2 ⟨rfl, b2⟩))
  go_ret
  exact ⟨rfl, below_next (b1.alloc b1.size _) b2⟩
set_option maxHeartbeats 2000000 in
theorem tgarleOut_W {s : ByteArray} {v0 v1 v2 v3 v4 v5 v6 v7 v8 v9 v12 v13 : Int} {v10 v11 : Bool} (HR : Hid (∀ w : World, Calls Tryz.prog 35 #[.string s] w fun e w' => e = .returned (.agg #[.int .i64 v0, .int .i64 v1, .int .i64 v2, .int .i64 v3, .int .i64 v4, .int .i64 v5, .int .i64 v6, .int .i64 v7, .int .i64 v8, .int .i64 v9, .bool v10, .bool v11, .int .i64 v12, .int .i64 v13]) ∧ Below w.heap.size w w')) (h1 : ¬ (900 : Int) < (s.size : Int)) (h2 : v12 = 0) (h3 : ¬ (300 : Int) < v4) (h4 : (60 : Int) < v6) (w : World) :
    Calls Tryz.prog 7 #[.string s] w fun e w' => e = .returned (.bool true) ∧ Below w.heap.size w w' := by
  go_enter Tryz.func7, Tryz.ntmps7
  go_wp2_with (first
    | (go_at_call 35; refine (HR.out _).mono ?_; rintro e w1 ⟨rfl, b1⟩)
    | (go_at_call 36; refine (awake18_all _).mono ?_; rintro e w2 ⟨rfl, b2⟩))
  go_ret
  exact ⟨rfl, below_next (b1.alloc b1.size _) b2⟩
set_option maxHeartbeats 2000000 in
theorem tgarleOut_H {s : ByteArray} {v0 v1 v2 v3 v4 v5 v6 v7 v8 v9 v12 v13 : Int} {v10 v11 : Bool} (HR : Hid (∀ w : World, Calls Tryz.prog 35 #[.string s] w fun e w' => e = .returned (.agg #[.int .i64 v0, .int .i64 v1, .int .i64 v2, .int .i64 v3, .int .i64 v4, .int .i64 v5, .int .i64 v6, .int .i64 v7, .int .i64 v8, .int .i64 v9, .bool v10, .bool v11, .int .i64 v12, .int .i64 v13]) ∧ Below w.heap.size w w')) (h1 : ¬ (900 : Int) < (s.size : Int)) (h2 : v12 = 0) (h3 : ¬ (300 : Int) < v4) (h4 : ¬ (60 : Int) < v6) (h5 : (60 : Int) < v7) (w : World) :
    Calls Tryz.prog 7 #[.string s] w fun e w' => e = .returned (.bool true) ∧ Below w.heap.size w w' := by
  go_enter Tryz.func7, Tryz.ntmps7
  go_wp2_with (first
    | (go_at_call 35; refine (HR.out _).mono ?_; rintro e w1 ⟨rfl, b1⟩)
    | (go_at_call 36; refine (awake18_all _).mono ?_; rintro e w2 ⟨rfl, b2⟩))
  go_ret
  exact ⟨rfl, below_next (b1.alloc b1.size _) b2⟩
set_option maxRecDepth 100000 in
set_option maxHeartbeats 40000000 in
theorem tgarleReads_map {s : ByteArray} {h : TgaHd} {k i : Nat} (hm : tgaMapR s h = .inl (k, i)) (hs : s.size ≤ 900) (ok : h.Ok) (hf : tgaFault s = none) (hh : tgaHd s = h) (hc : h.count ≤ 300) (hW : h.W ≤ 60) (hH : h.H ≤ 60) (w : World) :
    Calls Tryz.prog 7 #[.string s] w fun e w' => e = .returned (.bool true) ∧ Below w.heap.size w w' := by
  have hsI : ¬ (900 : Int) < (s.size : Int) := by omega
  have hcI : ¬ (300 : Int) < (h.count : Int) := by omega
  have hWI : ¬ (60 : Int) < (h.W : Int) := by omega
  have hHI : ¬ (60 : Int) < (h.H : Int) := by omega
  have hs5 : s.size ≤ 100000 := by omega
  have hsm : s.size ≤ 1099511627776 := by omega
  have h18 := tgaFault_size hf
  have HR := Lib.hid (fun w => refTgaReadC hsm w)
  rw [tgaRdV_none hf, hh] at HR
  have HM := Lib.hid (fun w => refTgaMapC (w := w) ok hs5)
  unfold tRV tRdV at HR HM
  obtain ⟨mi, hmi⟩ : ∃ mi, (if h.map = true then (1 : Int) else 0) = mi := ⟨_, rfl⟩
  rw [hmi] at HR HM
  have hkI : ¬ (k : Int) = 0 := by have := (tgaMapR_bad hm).1; omega
  have HM2 : Hid (∀ w : World, Calls Tryz.prog 37 #[.string s, .agg #[.int .i64 (h.name : Int), .int .i64 mi, .int .i64 (h.typ : Int), .int .i64 (h.first : Int), .int .i64 (h.count : Int), .int .i64 (h.entry : Int), .int .i64 (h.W : Int), .int .i64 (h.H : Int), .int .i64 (h.depth : Int), .int .i64 (h.alpha : Int), .bool h.left, .bool h.top, .int .i64 0, .int .i64 0]] w fun e w' => e = .returned (.agg #[.int .i64 0, .slice none 0 0, .int .i64 (k : Int), .int .i64 (i : Int)]) ∧ Below w.heap.size w w') := Lib.hid (fun w => (HM.out w).mono (by
    rintro e w' ⟨b, ⟨k', a', h1, _, rfl⟩ | ⟨a', M, v, h1, _⟩⟩
    · rw [hm] at h1; cases h1; exact ⟨rfl, b⟩
    · rw [hm] at h1; cases h1))
  clear HM hmi hm
  go_enter Tryz.func7, Tryz.ntmps7
  go_upto_region 2 with (go_at_call 35; refine (HR.out _).mono ?_; rintro e w1 ⟨rfl, b1⟩)
  have X1 : Blk (w1.alloc (.cells #[.int .i64 (h.name : Int), .int .i64 mi, .int .i64 (h.typ : Int), .int .i64 (h.first : Int), .int .i64 (h.count : Int), .int .i64 (h.entry : Int), .int .i64 (h.W : Int), .int .i64 (h.H : Int), .int .i64 (h.depth : Int), .int .i64 (h.alpha : Int), .bool h.left, .bool h.top, .int .i64 0, .int .i64 0] 48)) w1.heap.size 48 #[.int .i64 (h.name : Int), .int .i64 mi, .int .i64 (h.typ : Int), .int .i64 (h.first : Int), .int .i64 (h.count : Int), .int .i64 (h.entry : Int), .int .i64 (h.W : Int), .int .i64 (h.H : Int), .int .i64 (h.depth : Int), .int .i64 (h.alpha : Int), .bool h.left, .bool h.top, .int .i64 0, .int .i64 0] := Blk.new _ _ _
  have B1 : Below w.heap.size w (w1.alloc (.cells #[.int .i64 (h.name : Int), .int .i64 mi, .int .i64 (h.typ : Int), .int .i64 (h.first : Int), .int .i64 (h.count : Int), .int .i64 (h.entry : Int), .int .i64 (h.W : Int), .int .i64 (h.H : Int), .int .i64 (h.depth : Int), .int .i64 (h.alpha : Int), .bool h.left, .bool h.top, .int .i64 0, .int .i64 0] 48)) := b1.alloc b1.size _
  clear b1 HR
  generalize w1.alloc (.cells #[.int .i64 (h.name : Int), .int .i64 mi, .int .i64 (h.typ : Int), .int .i64 (h.first : Int), .int .i64 (h.count : Int), .int .i64 (h.entry : Int), .int .i64 (h.W : Int), .int .i64 (h.H : Int), .int .i64 (h.depth : Int), .int .i64 (h.alpha : Int), .bool h.left, .bool h.top, .int .i64 0, .int .i64 0] 48) = w2 at X1 B1 ⊢
  generalize w1.heap.size = ph at X1 ⊢
  have x0 : w2.cell? ⟨ph, 0, none⟩ = some (.int .i64 (h.name : Int)) := Blk.cell X1 0
  have x1 : w2.cell? ⟨ph, 1, none⟩ = some (.int .i64 mi) := Blk.cell X1 1
  have x2 : w2.cell? ⟨ph, 2, none⟩ = some (.int .i64 (h.typ : Int)) := Blk.cell X1 2
  have x3 : w2.cell? ⟨ph, 3, none⟩ = some (.int .i64 (h.first : Int)) := Blk.cell X1 3
  have x4 : w2.cell? ⟨ph, 4, none⟩ = some (.int .i64 (h.count : Int)) := Blk.cell X1 4
  have x5 : w2.cell? ⟨ph, 5, none⟩ = some (.int .i64 (h.entry : Int)) := Blk.cell X1 5
  have x6 : w2.cell? ⟨ph, 6, none⟩ = some (.int .i64 (h.W : Int)) := Blk.cell X1 6
  have x7 : w2.cell? ⟨ph, 7, none⟩ = some (.int .i64 (h.H : Int)) := Blk.cell X1 7
  have x8 : w2.cell? ⟨ph, 8, none⟩ = some (.int .i64 (h.depth : Int)) := Blk.cell X1 8
  have x9 : w2.cell? ⟨ph, 9, none⟩ = some (.int .i64 (h.alpha : Int)) := Blk.cell X1 9
  have x10 : w2.cell? ⟨ph, 10, none⟩ = some (.bool h.left) := Blk.cell X1 10
  have x11 : w2.cell? ⟨ph, 11, none⟩ = some (.bool h.top) := Blk.cell X1 11
  have x12 : w2.cell? ⟨ph, 12, none⟩ = some (.int .i64 0) := Blk.cell X1 12
  have x13 : w2.cell? ⟨ph, 13, none⟩ = some (.int .i64 0) := Blk.cell X1 13
  have HK := Lib.hid (And.intro X1 B1)
  clear X1 B1
  go_wp2_with (first
    | (go_at_call 37; refine (HM2.out _).mono ?_; rintro e w3 ⟨rfl, b3⟩)
    | (go_at_call 36; refine (awake18_all _).mono ?_; rintro e w4 ⟨rfl, b4⟩))
  go_ret
  have B3 := below_next HK.out.2 b3
  exact ⟨rfl, below_next (B3.alloc B3.size _) b4⟩
set_option maxRecDepth 100000 in
set_option maxHeartbeats 40000000 in
theorem tgarleReads_in {s : ByteArray} {h : TgaHd} {a : Nat} {M : List Qc} (hm : tgaMapR s h = .inr (a, M)) (hs : s.size ≤ 900) (ok : h.Ok) (hf : tgaFault s = none) (hh : tgaHd s = h) (hc : h.count ≤ 300) (hW : h.W ≤ 60) (hH : h.H ≤ 60) (w : World) :
    Calls Tryz.prog 7 #[.string s] w fun e w' => e = .returned (.bool true) ∧ Below w.heap.size w w' := by
  have hsI : ¬ (900 : Int) < (s.size : Int) := by omega
  have hcI : ¬ (300 : Int) < (h.count : Int) := by omega
  have hWI : ¬ (60 : Int) < (h.W : Int) := by omega
  have hHI : ¬ (60 : Int) < (h.H : Int) := by omega
  have hs5 : s.size ≤ 100000 := by omega
  have hsm : s.size ≤ 1099511627776 := by omega
  have h18 := tgaFault_size hf
  have HR := Lib.hid (fun w => refTgaReadC hsm w)
  rw [tgaRdV_none hf, hh] at HR
  have HM := Lib.hid (fun w => refTgaMapC (w := w) ok hs5)
  have HP := Lib.hid (fun (w : World) (v : Value) (RM : RowM w v M) (h1 : M.length ≤ 65535) (h2 : a ≤ s.size) => refTgaReadPx ok RM h1 hs5 h2 rfl)
  unfold tRV tRdV at HR HM HP
  obtain ⟨mi, hmi⟩ : ∃ mi, (if h.map = true then (1 : Int) else 0) = mi := ⟨_, rfl⟩
  rw [hmi] at HR HM HP
  unfold tMapV at HP
  have HM2 : Hid (∀ w : World, Calls Tryz.prog 37 #[.string s, .agg #[.int .i64 (h.name : Int), .int .i64 mi, .int .i64 (h.typ : Int), .int .i64 (h.first : Int), .int .i64 (h.count : Int), .int .i64 (h.entry : Int), .int .i64 (h.W : Int), .int .i64 (h.H : Int), .int .i64 (h.depth : Int), .int .i64 (h.alpha : Int), .bool h.left, .bool h.top, .int .i64 0, .int .i64 0]] w fun e w' => ∃ va vn vc, e = .returned (.agg #[.int .i64 (a : Int), .slice va vn vc, .int .i64 0, .int .i64 0]) ∧ Below w.heap.size w w' ∧ RowM w' (.slice va vn vc) M ∧ M.length ≤ 65535 ∧ a ≤ s.size) := Lib.hid (fun w => (HM.out w).mono (by
    rintro e w' ⟨b, ⟨k', a', h1, _, rfl⟩ | ⟨a', M', v, h1, h2, h3, rfl, RM⟩⟩
    · rw [hm] at h1; cases h1
    · rw [hm] at h1
      cases h1
      obtain ⟨va, vn, vc, rfl⟩ : ∃ a n c, v = .slice a n c := by
        rcases RM with ⟨rfl, _⟩ | ⟨g, cap, rfl, _, _⟩
        · exact ⟨_, _, _, rfl⟩
        · exact ⟨_, _, _, rfl⟩
      exact ⟨va, vn, vc, rfl, b, RM, h3, h2⟩))
  have HMR := Lib.hid hm
  clear HM hmi hm
  go_enter Tryz.func7, Tryz.ntmps7
  go_upto_region 2 with (go_at_call 35; refine (HR.out _).mono ?_; rintro e w1 ⟨rfl, b1⟩)
  have X1 : Blk (w1.alloc (.cells #[.int .i64 (h.name : Int), .int .i64 mi, .int .i64 (h.typ : Int), .int .i64 (h.first : Int), .int .i64 (h.count : Int), .int .i64 (h.entry : Int), .int .i64 (h.W : Int), .int .i64 (h.H : Int), .int .i64 (h.depth : Int), .int .i64 (h.alpha : Int), .bool h.left, .bool h.top, .int .i64 0, .int .i64 0] 48)) w1.heap.size 48 #[.int .i64 (h.name : Int), .int .i64 mi, .int .i64 (h.typ : Int), .int .i64 (h.first : Int), .int .i64 (h.count : Int), .int .i64 (h.entry : Int), .int .i64 (h.W : Int), .int .i64 (h.H : Int), .int .i64 (h.depth : Int), .int .i64 (h.alpha : Int), .bool h.left, .bool h.top, .int .i64 0, .int .i64 0] := Blk.new _ _ _
  have B1 : Below w.heap.size w (w1.alloc (.cells #[.int .i64 (h.name : Int), .int .i64 mi, .int .i64 (h.typ : Int), .int .i64 (h.first : Int), .int .i64 (h.count : Int), .int .i64 (h.entry : Int), .int .i64 (h.W : Int), .int .i64 (h.H : Int), .int .i64 (h.depth : Int), .int .i64 (h.alpha : Int), .bool h.left, .bool h.top, .int .i64 0, .int .i64 0] 48)) := b1.alloc b1.size _
  clear b1 HR
  generalize w1.alloc (.cells #[.int .i64 (h.name : Int), .int .i64 mi, .int .i64 (h.typ : Int), .int .i64 (h.first : Int), .int .i64 (h.count : Int), .int .i64 (h.entry : Int), .int .i64 (h.W : Int), .int .i64 (h.H : Int), .int .i64 (h.depth : Int), .int .i64 (h.alpha : Int), .bool h.left, .bool h.top, .int .i64 0, .int .i64 0] 48) = w2 at X1 B1 ⊢
  generalize w1.heap.size = ph at X1 ⊢
  have x0 : w2.cell? ⟨ph, 0, none⟩ = some (.int .i64 (h.name : Int)) := Blk.cell X1 0
  have x1 : w2.cell? ⟨ph, 1, none⟩ = some (.int .i64 mi) := Blk.cell X1 1
  have x2 : w2.cell? ⟨ph, 2, none⟩ = some (.int .i64 (h.typ : Int)) := Blk.cell X1 2
  have x3 : w2.cell? ⟨ph, 3, none⟩ = some (.int .i64 (h.first : Int)) := Blk.cell X1 3
  have x4 : w2.cell? ⟨ph, 4, none⟩ = some (.int .i64 (h.count : Int)) := Blk.cell X1 4
  have x5 : w2.cell? ⟨ph, 5, none⟩ = some (.int .i64 (h.entry : Int)) := Blk.cell X1 5
  have x6 : w2.cell? ⟨ph, 6, none⟩ = some (.int .i64 (h.W : Int)) := Blk.cell X1 6
  have x7 : w2.cell? ⟨ph, 7, none⟩ = some (.int .i64 (h.H : Int)) := Blk.cell X1 7
  have x8 : w2.cell? ⟨ph, 8, none⟩ = some (.int .i64 (h.depth : Int)) := Blk.cell X1 8
  have x9 : w2.cell? ⟨ph, 9, none⟩ = some (.int .i64 (h.alpha : Int)) := Blk.cell X1 9
  have x10 : w2.cell? ⟨ph, 10, none⟩ = some (.bool h.left) := Blk.cell X1 10
  have x11 : w2.cell? ⟨ph, 11, none⟩ = some (.bool h.top) := Blk.cell X1 11
  have x12 : w2.cell? ⟨ph, 12, none⟩ = some (.int .i64 0) := Blk.cell X1 12
  have x13 : w2.cell? ⟨ph, 13, none⟩ = some (.int .i64 0) := Blk.cell X1 13
  have HK := Lib.hid (And.intro X1 B1)
  clear X1 B1
  go_upto_region 5 with (go_at_call 37; refine (HM2.out _).mono ?_; rintro e w3 ⟨va, vn, vc, rfl, b3, RW, hml, hale⟩)
  have X3 : Blk (w3.alloc (.cells #[.int .i64 (a : Int), .slice va vn vc, .int .i64 0, .int .i64 0] 51)) ph 48 #[.int .i64 (h.name : Int), .int .i64 mi, .int .i64 (h.typ : Int), .int .i64 (h.first : Int), .int .i64 (h.count : Int), .int .i64 (h.entry : Int), .int .i64 (h.W : Int), .int .i64 (h.H : Int), .int .i64 (h.depth : Int), .int .i64 (h.alpha : Int), .bool h.left, .bool h.top, .int .i64 0, .int .i64 0] := Blk.alloc (Blk.below HK.out.1 b3 (Blk.lt HK.out.1)) _
  have B3 : Below w.heap.size w (w3.alloc (.cells #[.int .i64 (a : Int), .slice va vn vc, .int .i64 0, .int .i64 0] 51)) := (below_next HK.out.2 b3).alloc (below_next HK.out.2 b3).size _
  have M3 : Blk (w3.alloc (.cells #[.int .i64 (a : Int), .slice va vn vc, .int .i64 0, .int .i64 0] 51)) w3.heap.size 51 #[.int .i64 (a : Int), .slice va vn vc, .int .i64 0, .int .i64 0] := Blk.new _ _ _
  have R3 : RowM (w3.alloc (.cells #[.int .i64 (a : Int), .slice va vn vc, .int .i64 0, .int .i64 0] 51)) (.slice va vn vc) M := RW.below ((Below.refl _ _).alloc (Nat.le_refl _) _)
  clear b3 HK HM2 RW x0 x1 x2 x3 x4 x5 x6 x7 x8 x9 x10 x11 x12 x13
  generalize w3.alloc (.cells #[.int .i64 (a : Int), .slice va vn vc, .int .i64 0, .int .i64 0] 51) = w4 at X3 B3 M3 R3 ⊢
  generalize w3.heap.size = pm at M3 ⊢
  have m2 : w4.cell? ⟨pm, 2, none⟩ = some (.int .i64 0) := Blk.cell M3 2
  have HK := Lib.hid (And.intro X3 (And.intro M3 (And.intro R3 B3)))
  clear X3 M3 R3 B3
  go_upto_region 9 with (first
    | (go_at_call 38; refine (ledNew_at (x := XL) rfl _).mono ?_; rintro e w5 ⟨g, rfl, hgn, l5, b5⟩)
    | (go_at_call 39; refine (srcNew_any _ _ _).mono ?_; rintro e w6 ⟨p, rfl, hpn, s6, b6⟩))
  have hz5 := b5.size
  have l6 : LedAt w6 g XL := Blk.below l5 b6 (Blk.lt l5)
  have E6 : Below w4.heap.size w4 w6 := below_next b5 b6
  have hpg : ∀ i ∈ [p, g], w4.heap.size ≤ i := by intro i hi; simp only [List.mem_cons, List.not_mem_nil, or_false] at hi; omega
  clear l5 b5 b6 m2
  have HS : Hid (Calls Tryz.prog 40 #[.pointer (some ⟨p, 0, none⟩)] w6 fun e w' => e = .returned (.tuple #[.agg #[.int .i64 (h.name : Int), .bool h.map, .int .i64 (h.typ : Int), .int .i64 (h.first : Int), .int .i64 (h.count : Int), .int .i64 (h.entry : Int), .int .i64 (h.W : Int), .int .i64 (h.H : Int), .int .i64 (h.depth : Int), .int .i64 (h.alpha : Int), .bool h.left, .bool h.top], .agg #[.int .i64 0, .int .i64 0, .int .i64 0]]) ∧ ∃ y1, LedAt w' g y1 ∧ y1.Ok ∧ Room y1 0 1 ∧ SrcAt w' p g s 0 s.size 18 ∧ Turn [p, g] w6 w') := Lib.hid ((tgaReadC hsm s6 l6 XL_ok rfl).mono (by
    rintro e w' ⟨y', l', ok', hb', t', ⟨kk, aa, hk, he, hr, hno⟩ | ⟨he, s', yr, _, _, hw, _⟩⟩
    · exact (tgaNarrow_head hf (by rw [hh]; exact hW) (by rw [hh]; exact hH) (by rw [hh]; exact hc) hr hno).elim
    · rw [hh] at he; exact ⟨he, y', l', ok', room_head hw, s', t'⟩))
  have HL := Lib.hid (And.intro s6 (And.intro l6 E6))
  clear s6 l6 E6
  go_upto_region 12 with (go_at_call 40; refine HS.out.mono ?_; rintro e w7 ⟨rfl, y1, l7, ok7, R7, s7, t7⟩)
  have E7 : Below w4.heap.size w4 w7 := Turn.belowNext HL.out.2.2 t7 hpg HL.out.2.2.size
  have T8 : Blk ((w7.alloc (.cells #[.int .i64 (h.name : Int), .bool h.map, .int .i64 (h.typ : Int), .int .i64 (h.first : Int), .int .i64 (h.count : Int), .int .i64 (h.entry : Int), .int .i64 (h.W : Int), .int .i64 (h.H : Int), .int .i64 (h.depth : Int), .int .i64 (h.alpha : Int), .bool h.left, .bool h.top] 59)).alloc (.cells #[.int .i64 0, .int .i64 0, .int .i64 0] 31)) w7.heap.size 59 #[.int .i64 (h.name : Int), .bool h.map, .int .i64 (h.typ : Int), .int .i64 (h.first : Int), .int .i64 (h.count : Int), .int .i64 (h.entry : Int), .int .i64 (h.W : Int), .int .i64 (h.H : Int), .int .i64 (h.depth : Int), .int .i64 (h.alpha : Int), .bool h.left, .bool h.top] := Blk.alloc (Blk.new _ _ _) _
  have l8 : LedAt ((w7.alloc (.cells #[.int .i64 (h.name : Int), .bool h.map, .int .i64 (h.typ : Int), .int .i64 (h.first : Int), .int .i64 (h.count : Int), .int .i64 (h.entry : Int), .int .i64 (h.W : Int), .int .i64 (h.H : Int), .int .i64 (h.depth : Int), .int .i64 (h.alpha : Int), .bool h.left, .bool h.top] 59)).alloc (.cells #[.int .i64 0, .int .i64 0, .int .i64 0] 31)) g y1 := Blk.alloc (Blk.alloc l7 _) _
  have s8 : SrcAt ((w7.alloc (.cells #[.int .i64 (h.name : Int), .bool h.map, .int .i64 (h.typ : Int), .int .i64 (h.first : Int), .int .i64 (h.count : Int), .int .i64 (h.entry : Int), .int .i64 (h.W : Int), .int .i64 (h.H : Int), .int .i64 (h.depth : Int), .int .i64 (h.alpha : Int), .bool h.left, .bool h.top] 59)).alloc (.cells #[.int .i64 0, .int .i64 0, .int .i64 0] 31)) p g s 0 s.size 18 := Blk.alloc (Blk.alloc s7 _) _
  have E8 : Below w4.heap.size w4 ((w7.alloc (.cells #[.int .i64 (h.name : Int), .bool h.map, .int .i64 (h.typ : Int), .int .i64 (h.first : Int), .int .i64 (h.count : Int), .int .i64 (h.entry : Int), .int .i64 (h.W : Int), .int .i64 (h.H : Int), .int .i64 (h.depth : Int), .int .i64 (h.alpha : Int), .bool h.left, .bool h.top] 59)).alloc (.cells #[.int .i64 0, .int .i64 0, .int .i64 0] 31)) := (E7.alloc E7.size _).alloc (by have := E7.size; simp; omega) _
  have hbl : w4.heap.size ≤ w7.heap.size := E7.size
  clear HS HL l7 s7 t7 E7
  generalize (w7.alloc (.cells #[.int .i64 (h.name : Int), .bool h.map, .int .i64 (h.typ : Int), .int .i64 (h.first : Int), .int .i64 (h.count : Int), .int .i64 (h.entry : Int), .int .i64 (h.W : Int), .int .i64 (h.H : Int), .int .i64 (h.depth : Int), .int .i64 (h.alpha : Int), .bool h.left, .bool h.top] 59)).alloc (.cells #[.int .i64 0, .int .i64 0, .int .i64 0] 31) = w8 at T8 l8 s8 E8 ⊢
  generalize w7.heap.size = hb at T8 hbl ⊢
  have th0 : w8.cell? ⟨hb, 0, none⟩ = some (.int .i64 (h.name : Int)) := Blk.cell T8 0
  have th1 : w8.cell? ⟨hb, 1, none⟩ = some (.bool h.map) := Blk.cell T8 1
  have th2 : w8.cell? ⟨hb, 2, none⟩ = some (.int .i64 (h.typ : Int)) := Blk.cell T8 2
  have th3 : w8.cell? ⟨hb, 3, none⟩ = some (.int .i64 (h.first : Int)) := Blk.cell T8 3
  have th4 : w8.cell? ⟨hb, 4, none⟩ = some (.int .i64 (h.count : Int)) := Blk.cell T8 4
  have th5 : w8.cell? ⟨hb, 5, none⟩ = some (.int .i64 (h.entry : Int)) := Blk.cell T8 5
  have th6 : w8.cell? ⟨hb, 6, none⟩ = some (.int .i64 (h.W : Int)) := Blk.cell T8 6
  have th7 : w8.cell? ⟨hb, 7, none⟩ = some (.int .i64 (h.H : Int)) := Blk.cell T8 7
  have th8 : w8.cell? ⟨hb, 8, none⟩ = some (.int .i64 (h.depth : Int)) := Blk.cell T8 8
  have th9 : w8.cell? ⟨hb, 9, none⟩ = some (.int .i64 (h.alpha : Int)) := Blk.cell T8 9
  have th10 : w8.cell? ⟨hb, 10, none⟩ = some (.bool h.left) := Blk.cell T8 10
  have th11 : w8.cell? ⟨hb, 11, none⟩ = some (.bool h.top) := Blk.cell T8 11
  have HS : Hid (Calls Tryz.prog 41 #[.pointer (some ⟨p, 0, none⟩), .agg #[.int .i64 (h.name : Int), .bool h.map, .int .i64 (h.typ : Int), .int .i64 (h.first : Int), .int .i64 (h.count : Int), .int .i64 (h.entry : Int), .int .i64 (h.W : Int), .int .i64 (h.H : Int), .int .i64 (h.depth : Int), .int .i64 (h.alpha : Int), .bool h.left, .bool h.top]] w8 fun e w' => ∃ la m y2, e = .returned (.tuple #[.pointer la, .agg #[.int .i64 0, .int .i64 0, .int .i64 0]]) ∧ LedAt w' g y2 ∧ y2.Ok ∧ Room y2 ((m : Nat) : Int) 400 ∧ m ≤ 1200 ∧ SrcAt w' p g s 0 s.size a ∧ a ≤ s.size ∧ TPal w' g h (.pointer la) M m w8.heap.size ∧ Turn [p, g] w8 w') := Lib.hid ((tgaMapC ok hsm h18 s8 l8 ok7 R7.r).mono (by
    rintro e w' ⟨y', l', ok', t', ⟨kk, aa, hk, he, _, hr⟩ | ⟨lv, M', m, a', he, s', ha', yr, yb, TP, hr⟩⟩
    · exact (room_map_no R7 h18 hc HMR.out hr).elim
    · obtain ⟨⟨e1, e2⟩, R2⟩ := room_map R7 h18 hc HMR.out yr yb hr
      subst e1 e2
      obtain ⟨la, rfl⟩ := TP.ptr
      exact ⟨la, m, y', he, l', ok', R2, TP.m_le hc, s', ha', TP, t'⟩))
  have HL := Lib.hid (And.intro s8 (And.intro l8 (And.intro E8 T8)))
  clear s8 l8 E8 T8 R7 ok7
  go_upto_region 13 with (go_at_call 41; refine HS.out.mono ?_; rintro e w9 ⟨la, m, y2, rfl, l9, ok9, R9, hm9, s9, ha9, TP9, t9⟩)
  have E9 : Below w4.heap.size w4 w9 := Turn.belowNext HL.out.2.2.1 t9 hpg HL.out.2.2.1.size
  have T9 : Blk w9 hb 59 #[.int .i64 (h.name : Int), .bool h.map, .int .i64 (h.typ : Int), .int .i64 (h.first : Int), .int .i64 (h.count : Int), .int .i64 (h.entry : Int), .int .i64 (h.W : Int), .int .i64 (h.H : Int), .int .i64 (h.depth : Int), .int .i64 (h.alpha : Int), .bool h.left, .bool h.top] := Blk.turn HL.out.2.2.2 t9 (by simp only [List.mem_cons, List.not_mem_nil, or_false, not_or]; exact ⟨Blk.ne_ HL.out.2.2.2 HL.out.1 (by decide), Blk.ne_ HL.out.2.2.2 HL.out.2.1 (by decide)⟩)
  have u10 : Below w9.heap.size w9 (w9.alloc (.cells #[.int .i64 0, .int .i64 0, .int .i64 0] 31)) := (Below.refl _ _).alloc (Nat.le_refl _) _
  have F10 : FB (w9.alloc (.cells #[.int .i64 0, .int .i64 0, .int .i64 0] 31)) w9.heap.size 0 0 0 := Blk.new _ _ _
  have T10 : Blk (w9.alloc (.cells #[.int .i64 0, .int .i64 0, .int .i64 0] 31)) hb 59 #[.int .i64 (h.name : Int), .bool h.map, .int .i64 (h.typ : Int), .int .i64 (h.first : Int), .int .i64 (h.count : Int), .int .i64 (h.entry : Int), .int .i64 (h.W : Int), .int .i64 (h.H : Int), .int .i64 (h.depth : Int), .int .i64 (h.alpha : Int), .bool h.left, .bool h.top] := Blk.alloc T9 _
  have l10 : LedAt (w9.alloc (.cells #[.int .i64 0, .int .i64 0, .int .i64 0] 31)) g y2 := Blk.alloc l9 _
  have s10 : SrcAt (w9.alloc (.cells #[.int .i64 0, .int .i64 0, .int .i64 0] 31)) p g s 0 s.size a := Blk.alloc s9 _
  have TP10 := TP9.below u10
  have E10 : Below w4.heap.size w4 (w9.alloc (.cells #[.int .i64 0, .int .i64 0, .int .i64 0] 31)) := E9.alloc E9.size _
  have hql : w4.heap.size ≤ w9.heap.size := E9.size
  clear HS HL l9 s9 t9 E9 T9 TP9 u10 th0 th1 th2 th3 th4 th5 th6 th7 th8 th9 th10 th11
  generalize w9.alloc (.cells #[.int .i64 0, .int .i64 0, .int .i64 0] 31) = w10 at F10 T10 l10 s10 TP10 E10 ⊢
  generalize w9.heap.size = qf at F10 hql ⊢
  have X10 : Blk w10 ph 48 #[.int .i64 (h.name : Int), .int .i64 mi, .int .i64 (h.typ : Int), .int .i64 (h.first : Int), .int .i64 (h.count : Int), .int .i64 (h.entry : Int), .int .i64 (h.W : Int), .int .i64 (h.H : Int), .int .i64 (h.depth : Int), .int .i64 (h.alpha : Int), .bool h.left, .bool h.top, .int .i64 0, .int .i64 0] := Blk.below HK.out.1 E10 (Blk.lt HK.out.1)
  have x6 : w10.cell? ⟨ph, 6, none⟩ = some (.int .i64 (h.W : Int)) := Blk.cell X10 6
  have x7 : w10.cell? ⟨ph, 7, none⟩ = some (.int .i64 (h.H : Int)) := Blk.cell X10 7
  have HS : Hid (Calls Tryz.prog 42 #[.pointer (some ⟨g, 0, none⟩), .int .i64 (h.W : Int), .int .i64 (h.H : Int)] w10 fun e w' => ∃ r b d y3, e = .returned (.tuple #[.pointer (some ⟨r, 0, none⟩), .int .i64 0]) ∧ LedAt w' g y3 ∧ y3.Ok ∧ Room y3 ((4 * (h.W * h.H) + m : Nat) : Int) 400 ∧ RasAt w' r g b (h.W : Int) (h.H : Int) true ∧ BufAt w' b g d (flat (tgaPerm h [])) ∧ w10.heap.size ≤ r ∧ w10.heap.size ≤ b ∧ w10.heap.size ≤ d ∧ Turn [g] w10 w') := Lib.hid ((rasNew_ways 0 ok.w1 ok.w2 ok.h1 ok.h2 l10 ok9 R9.r).mono (by
    rintro e w' ⟨y', l', ok', t', ⟨he, _, hr⟩ | ⟨r, b, d, he, hr1, hb1, hd1, RA, BA, yr, _, hr⟩⟩
    · exact (narrow_newNo R9 hm9 ⟨ok.w1, hW⟩ ⟨ok.h1, hH⟩ hr).elim
    · exact ⟨r, b, d, y', he, l', ok', narrow_new R9 hm9 ⟨ok.w1, hW⟩ ⟨ok.h1, hH⟩ hr, RA, by rw [tgaPerm_nil, flat_zero]; exact BA, hr1, hb1, hd1, t'⟩))
  have HL := Lib.hid (And.intro s10 (And.intro l10 (And.intro E10 (And.intro T10 (And.intro F10 TP10)))))
  clear s10 l10 E10 T10 F10 TP10 X10 R9 ok9
  go_upto_region 14 with (go_at_call 42; refine HS.out.mono ?_; rintro e w11 ⟨r, b, d, y3, rfl, l11, ok11, R11, RA, BA, hr1, hb1, hd1, t11⟩)
  clear HS x6 x7
  have T11 : Blk w11 hb 59 #[.int .i64 (h.name : Int), .bool h.map, .int .i64 (h.typ : Int), .int .i64 (h.first : Int), .int .i64 (h.count : Int), .int .i64 (h.entry : Int), .int .i64 (h.W : Int), .int .i64 (h.H : Int), .int .i64 (h.depth : Int), .int .i64 (h.alpha : Int), .bool h.left, .bool h.top] := Blk.turn HL.out.2.2.2.1 t11 (by simp only [List.mem_cons, List.not_mem_nil, or_false]; exact Blk.ne_ HL.out.2.2.2.1 HL.out.2.1 (by decide))
  have F11 : FB w11 qf 0 0 0 := FB.turn HL.out.2.2.2.2.1 t11 (by simp only [List.mem_cons, List.not_mem_nil, or_false]; exact Blk.ne_ HL.out.2.2.2.2.1 HL.out.2.1 (by decide))
  have s11 : SrcAt w11 p g s 0 s.size a := Blk.turn HL.out.1 t11 (by simp only [List.mem_cons, List.not_mem_nil, or_false]; exact Blk.ne_ HL.out.1 HL.out.2.1 (by decide))
  have P11 := HL.out.2.2.2.2.2.newRaster HL.out.2.1 t11 hd1
  have E11 : Below w4.heap.size w4 w11 := Turn.belowNext HL.out.2.2.1 t11 (by intro i hi; exact hpg i (by simp only [List.mem_cons, List.not_mem_nil, or_false] at hi ⊢; exact .inr hi)) HL.out.2.2.1.size
  have hpd : ∀ i ∈ [p, g, d], w4.heap.size ≤ i := by intro i hi; have := HL.out.2.2.1.size; simp only [List.mem_cons, List.not_mem_nil, or_false] at hi; omega
  have X11 : Blk w11 ph 48 #[.int .i64 (h.name : Int), .int .i64 mi, .int .i64 (h.typ : Int), .int .i64 (h.first : Int), .int .i64 (h.count : Int), .int .i64 (h.entry : Int), .int .i64 (h.W : Int), .int .i64 (h.H : Int), .int .i64 (h.depth : Int), .int .i64 (h.alpha : Int), .bool h.left, .bool h.top, .int .i64 0, .int .i64 0] := Blk.below HK.out.1 E11 (Blk.lt HK.out.1)
  have x6 : w11.cell? ⟨ph, 6, none⟩ = some (.int .i64 (h.W : Int)) := Blk.cell X11 6
  have x7 : w11.cell? ⟨ph, 7, none⟩ = some (.int .i64 (h.H : Int)) := Blk.cell X11 7
  have f0 : w11.cell? ⟨qf, 0, none⟩ = some (.int .i64 0) := Blk.cell F11 0
  clear X11 t11 hd1
  have th0 : w11.cell? ⟨hb, 0, none⟩ = some (.int .i64 (h.name : Int)) := Blk.cell T11 0
  have th1 : w11.cell? ⟨hb, 1, none⟩ = some (.bool h.map) := Blk.cell T11 1
  have th2 : w11.cell? ⟨hb, 2, none⟩ = some (.int .i64 (h.typ : Int)) := Blk.cell T11 2
  have th3 : w11.cell? ⟨hb, 3, none⟩ = some (.int .i64 (h.first : Int)) := Blk.cell T11 3
  have th4 : w11.cell? ⟨hb, 4, none⟩ = some (.int .i64 (h.count : Int)) := Blk.cell T11 4
  have th5 : w11.cell? ⟨hb, 5, none⟩ = some (.int .i64 (h.entry : Int)) := Blk.cell T11 5
  have th6 : w11.cell? ⟨hb, 6, none⟩ = some (.int .i64 (h.W : Int)) := Blk.cell T11 6
  have th7 : w11.cell? ⟨hb, 7, none⟩ = some (.int .i64 (h.H : Int)) := Blk.cell T11 7
  have th8 : w11.cell? ⟨hb, 8, none⟩ = some (.int .i64 (h.depth : Int)) := Blk.cell T11 8
  have th9 : w11.cell? ⟨hb, 9, none⟩ = some (.int .i64 (h.alpha : Int)) := Blk.cell T11 9
  have th10 : w11.cell? ⟨hb, 10, none⟩ = some (.bool h.left) := Blk.cell T11 10
  have th11 : w11.cell? ⟨hb, 11, none⟩ = some (.bool h.top) := Blk.cell T11 11
  have HS := Lib.hid (tgaReadPxC (la := la) ok hsm ha9 s11 l11 RA BA P11 ok11 R11.r)
  have HPX := Lib.hid (fun (kk aa : Nat) (y' : Led) (hno : ∀ Z m, (tgaPixels s h M Z m a).run y3 = ((y'.give ((Z : Nat) : Int)).1, .bad kk aa)) => show tgaPixR s h M a = .bad kk aa by
    have e := room_pixels (M := M) R11 ha9 hW hH
    rw [hno] at e
    exact e.symm)
  have HPY := Lib.hid (fun (y' : Led) (L' : List Qc) (hyes : ∀ Z m, (tgaPixels s h M Z m a).run y3 = (tgaEnd h m L').run y') => show tgaPixR s h M a = .img h.W h.H (flat (tgaPerm h L')) by
    have e := room_pixels (M := M) R11 ha9 hW hH
    rw [hyes] at e
    exact e.symm)
  unfold TPxPost tHdV at HS
  simp only [tFlt, tFlt0] at HS
  have HL2 := Lib.hid (And.intro E11 (And.intro F11 (And.intro s11 (And.intro l11 BA))))
  have HRB : Hid (∀ k, k ∈ [r, b] → w.heap.size ≤ k) := Lib.hid (by intro k hk; have h1 := HL.out.2.2.1.size; have h2 := HK.out.2.2.2.size; simp only [List.mem_cons, List.not_mem_nil, or_false] at hk; omega)
  have HRBS := Lib.hid (And.intro hr1 hb1)
  clear E11 F11 s11 l11 BA RA P11 T11 R11 ok11 HL hr1 hb1
  go_upto_region 17 with (go_at_call 43; refine HS.out.mono ?_; rintro e w12 ⟨y4, L4, a4, l12, ok12, _, t12, s12, RA, BA, P12, hor⟩; have F12 : FB w12 qf 0 0 0 := FB.turn HL2.out.2.1 t12 (by simp only [List.mem_cons, List.not_mem_nil, or_false, not_or]; exact ⟨Blk.ne_ HL2.out.2.1 HL2.out.2.2.1 (by decide), Blk.ne_ HL2.out.2.1 HL2.out.2.2.2.1 (by decide), Blk.ne_ HL2.out.2.1 HL2.out.2.2.2.2.row (by decide)⟩); have E12 : Below w4.heap.size w4 w12 := Turn.belowNext HL2.out.1 t12 hpd HL2.out.1.size; clear f0; obtain ⟨f0, f1, f2', z0, z1, z2, fl⟩ := FB.all F12; rcases hor with ⟨kk, aa, hk, rfl, hno⟩ | ⟨rfl, yr4, hlen, hyes⟩)
  · skip
    have hD := HPX.out kk aa y4 hno
    have hkI : ¬ (kk : Int) = 0 := by omega
    refine rwp_gen (S := fun wx => Below w4.heap.size w4 wx ∧ FB wx qf (kk : Int) 2 (aa : Int)) (by exact ⟨below_set (below_set (below_set E12 hql) hql) hql, FB.st3 F12⟩) (fun w13 hX => ?_)
    obtain ⟨E13, F13⟩ := hX
    have X13 : Blk w13 ph 48 #[.int .i64 (h.name : Int), .int .i64 mi, .int .i64 (h.typ : Int), .int .i64 (h.first : Int), .int .i64 (h.count : Int), .int .i64 (h.entry : Int), .int .i64 (h.W : Int), .int .i64 (h.H : Int), .int .i64 (h.depth : Int), .int .i64 (h.alpha : Int), .bool h.left, .bool h.top, .int .i64 0, .int .i64 0] := Blk.below HK.out.1 E13 (Blk.lt HK.out.1)
    have M13 : Blk w13 pm 51 #[.int .i64 (a : Int), .slice va vn vc, .int .i64 0, .int .i64 0] := Blk.below HK.out.2.1 E13 (Blk.lt HK.out.2.1)
    have R13 : RowM w13 (.slice va vn vc) M := HK.out.2.2.1.below E13
    clear E12 F12 f0 f1 f2' z0 z1 z2 fl l12 s12 t12 P12 HS HPX HPY th0 th1 th2 th3 th4 th5 th6 th7 th8 th9 th10 th11 hno RA BA x6 x7
    have x0 : w13.cell? ⟨ph, 0, none⟩ = some (.int .i64 (h.name : Int)) := Blk.cell X13 0
    have x1 : w13.cell? ⟨ph, 1, none⟩ = some (.int .i64 mi) := Blk.cell X13 1
    have x2 : w13.cell? ⟨ph, 2, none⟩ = some (.int .i64 (h.typ : Int)) := Blk.cell X13 2
    have x3 : w13.cell? ⟨ph, 3, none⟩ = some (.int .i64 (h.first : Int)) := Blk.cell X13 3
    have x4 : w13.cell? ⟨ph, 4, none⟩ = some (.int .i64 (h.count : Int)) := Blk.cell X13 4
    have x5 : w13.cell? ⟨ph, 5, none⟩ = some (.int .i64 (h.entry : Int)) := Blk.cell X13 5
    have x6 : w13.cell? ⟨ph, 6, none⟩ = some (.int .i64 (h.W : Int)) := Blk.cell X13 6
    have x7 : w13.cell? ⟨ph, 7, none⟩ = some (.int .i64 (h.H : Int)) := Blk.cell X13 7
    have x8 : w13.cell? ⟨ph, 8, none⟩ = some (.int .i64 (h.depth : Int)) := Blk.cell X13 8
    have x9 : w13.cell? ⟨ph, 9, none⟩ = some (.int .i64 (h.alpha : Int)) := Blk.cell X13 9
    have x10 : w13.cell? ⟨ph, 10, none⟩ = some (.bool h.left) := Blk.cell X13 10
    have x11 : w13.cell? ⟨ph, 11, none⟩ = some (.bool h.top) := Blk.cell X13 11
    have x12 : w13.cell? ⟨ph, 12, none⟩ = some (.int .i64 0) := Blk.cell X13 12
    have x13 : w13.cell? ⟨ph, 13, none⟩ = some (.int .i64 0) := Blk.cell X13 13
    have m0 : w13.cell? ⟨pm, 0, none⟩ = some (.int .i64 (a : Int)) := Blk.cell M13 0
    have m1 : w13.cell? ⟨pm, 1, none⟩ = some (.slice va vn vc) := Blk.cell M13 1
    have m2 : w13.cell? ⟨pm, 2, none⟩ = some (.int .i64 0) := Blk.cell M13 2
    have m3 : w13.cell? ⟨pm, 3, none⟩ = some (.int .i64 0) := Blk.cell M13 3
    have HP13 := Lib.hid (HP.out w13 _ R13 hml hale)
    rw [hD] at HP13
    have HE := Lib.hid (And.intro E13 (And.intro F13 trivial))
    clear E13 F13 X13 M13 R13
    go_wp2_with (first
      | (go_at_call 44; refine HP13.out.mono ?_; rintro e w14 ⟨b14, rfl⟩; have F15 : FB (w14.alloc (.cells #[.int .i64 0, .int .i64 0, .slice none 0 0, .int .i64 (kk : Int), .int .i64 (aa : Int)] 42)) qf (kk : Int) 2 (aa : Int) := Blk.alloc (Blk.below HE.out.2.1 b14 (Blk.lt HE.out.2.1)) _; obtain ⟨f0, f1, f2', z0, z1, z2, fl⟩ := FB.all F15)
      | (go_at_call 36; refine (awake18_all _).mono ?_; rintro e w15 ⟨rfl, b15⟩))
    go_ret
    have B14 := below_next (below_next HK.out.2.2.2 HE.out.1) b14
    exact ⟨rfl, below_next (B14.alloc B14.size _) b15⟩
  · skip
    have hD := HPY.out y4 L4 hyes
    refine rwp_gen (S := fun wx => Below w4.heap.size w4 wx ∧ FB wx qf 0 0 0 ∧ BufAt wx b g d (flat (tgaPerm h L4)) ∧ RasAt wx r g b (h.W : Int) (h.H : Int) true) (by exact ⟨below_set (below_set (below_set E12 hql) hql) hql, FB.st3 F12, ⟨Blk.st3 BA.blk (Blk.ne_ BA.blk F12 (by decide)), Blk.st3 BA.row (Blk.ne_ BA.row F12 (by decide))⟩, Blk.st3 RA (Blk.ne_ RA F12 (by decide))⟩) (fun w13 hX => ?_)
    obtain ⟨E13, F13, G13, RA13⟩ := hX
    have X13 : Blk w13 ph 48 #[.int .i64 (h.name : Int), .int .i64 mi, .int .i64 (h.typ : Int), .int .i64 (h.first : Int), .int .i64 (h.count : Int), .int .i64 (h.entry : Int), .int .i64 (h.W : Int), .int .i64 (h.H : Int), .int .i64 (h.depth : Int), .int .i64 (h.alpha : Int), .bool h.left, .bool h.top, .int .i64 0, .int .i64 0] := Blk.below HK.out.1 E13 (Blk.lt HK.out.1)
    have M13 : Blk w13 pm 51 #[.int .i64 (a : Int), .slice va vn vc, .int .i64 0, .int .i64 0] := Blk.below HK.out.2.1 E13 (Blk.lt HK.out.2.1)
    have R13 : RowM w13 (.slice va vn vc) M := HK.out.2.2.1.below E13
    clear E12 F12 f0 f1 f2' z0 z1 z2 fl l12 s12 t12 P12 HS HPX HPY th0 th1 th2 th3 th4 th5 th6 th7 th8 th9 th10 th11 hyes RA BA x6 x7
    have x0 : w13.cell? ⟨ph, 0, none⟩ = some (.int .i64 (h.name : Int)) := Blk.cell X13 0
    have x1 : w13.cell? ⟨ph, 1, none⟩ = some (.int .i64 mi) := Blk.cell X13 1
    have x2 : w13.cell? ⟨ph, 2, none⟩ = some (.int .i64 (h.typ : Int)) := Blk.cell X13 2
    have x3 : w13.cell? ⟨ph, 3, none⟩ = some (.int .i64 (h.first : Int)) := Blk.cell X13 3
    have x4 : w13.cell? ⟨ph, 4, none⟩ = some (.int .i64 (h.count : Int)) := Blk.cell X13 4
    have x5 : w13.cell? ⟨ph, 5, none⟩ = some (.int .i64 (h.entry : Int)) := Blk.cell X13 5
    have x6 : w13.cell? ⟨ph, 6, none⟩ = some (.int .i64 (h.W : Int)) := Blk.cell X13 6
    have x7 : w13.cell? ⟨ph, 7, none⟩ = some (.int .i64 (h.H : Int)) := Blk.cell X13 7
    have x8 : w13.cell? ⟨ph, 8, none⟩ = some (.int .i64 (h.depth : Int)) := Blk.cell X13 8
    have x9 : w13.cell? ⟨ph, 9, none⟩ = some (.int .i64 (h.alpha : Int)) := Blk.cell X13 9
    have x10 : w13.cell? ⟨ph, 10, none⟩ = some (.bool h.left) := Blk.cell X13 10
    have x11 : w13.cell? ⟨ph, 11, none⟩ = some (.bool h.top) := Blk.cell X13 11
    have x12 : w13.cell? ⟨ph, 12, none⟩ = some (.int .i64 0) := Blk.cell X13 12
    have x13 : w13.cell? ⟨ph, 13, none⟩ = some (.int .i64 0) := Blk.cell X13 13
    have m0 : w13.cell? ⟨pm, 0, none⟩ = some (.int .i64 (a : Int)) := Blk.cell M13 0
    have m1 : w13.cell? ⟨pm, 1, none⟩ = some (.slice va vn vc) := Blk.cell M13 1
    have m2 : w13.cell? ⟨pm, 2, none⟩ = some (.int .i64 0) := Blk.cell M13 2
    have m3 : w13.cell? ⟨pm, 3, none⟩ = some (.int .i64 0) := Blk.cell M13 3
    have HP13 := Lib.hid (HP.out w13 _ R13 hml hale)
    rw [hD] at HP13
    have HE := Lib.hid (And.intro E13 (And.intro F13 (And.intro G13 RA13)))
    clear E13 F13 X13 M13 R13 G13 RA13
    obtain ⟨N, hN⟩ : ∃ N, h.W * h.H = N := ⟨_, rfl⟩
    obtain ⟨z, hz⟩ : ∃ z, 4 * N = z := ⟨_, rfl⟩
    have hN1 : 1 ≤ N := by rw [← hN]; exact Nat.mul_le_mul ok.w1 ok.h1
    have hNB : N ≤ 3600 := by rw [← hN]; exact Nat.mul_le_mul hW hH
    have hfz : (flat (tgaPerm h L4)).length = z := by rw [tgaFlat_len, hN, hz]
    have HZ := Lib.hid hz
    have HNE := Lib.hid hN
    have HN1 := Lib.hid hN1
    have HNB : Hid (N ≤ 268435456) := Lib.hid (by omega)
    have HFZ := Lib.hid hfz
    clear hz hN hN1 hNB hfz
    generalize flat (tgaPerm h L4) = fb at HE HP13 HFZ
    go_upto_region 18 with (go_at_call 44; refine HP13.out.mono ?_; rintro e w14 ⟨b14, v, L, rfl, own, hfl, hlen'⟩; obtain ⟨gq, cap, rfl, hcap, hq⟩ : ∃ gq cap, v = .slice (some ⟨gq, 0, none⟩) N cap ∧ N ≤ cap ∧ QAt w14 gq 0 L := (by have hlN : L.length = N := hlen'.trans HNE.out; rcases own.form with ⟨_, h'⟩ | ⟨gq, cap, h', _, _, h2, h3⟩; (have := HN1.out; rw [h'] at hlN; simp at hlN; omega); exact ⟨gq, cap, by rw [h', hlN], by omega, h3⟩))
    have u15 : Below w14.heap.size w14 (w14.alloc (.cells #[.int .i64 (h.W : Int), .int .i64 (h.H : Int), .slice (some ⟨gq, 0, none⟩) N cap, .int .i64 0, .int .i64 0] 42)) := (Below.refl _ _).alloc (Nat.le_refl _) _
    have R15 : RI (w14.alloc (.cells #[.int .i64 (h.W : Int), .int .i64 (h.H : Int), .slice (some ⟨gq, 0, none⟩) N cap, .int .i64 0, .int .i64 0] 42)) w14.heap.size (h.W : Int) (h.H : Int) (.slice (some ⟨gq, 0, none⟩) N cap) 0 0 := Blk.new _ _ _
    have F15 : FB (w14.alloc (.cells #[.int .i64 (h.W : Int), .int .i64 (h.H : Int), .slice (some ⟨gq, 0, none⟩) N cap, .int .i64 0, .int .i64 0] 42)) qf 0 0 0 := Blk.alloc (Blk.below HE.out.2.1 b14 (Blk.lt HE.out.2.1)) _
    have G15 : BufAt (w14.alloc (.cells #[.int .i64 (h.W : Int), .int .i64 (h.H : Int), .slice (some ⟨gq, 0, none⟩) N cap, .int .i64 0, .int .i64 0] 42)) b g d fb := ⟨Blk.alloc (Blk.below HE.out.2.2.1.blk b14 (Blk.lt HE.out.2.2.1.blk)) _, Blk.alloc (Blk.below HE.out.2.2.1.row b14 (Blk.lt HE.out.2.2.1.row)) _⟩
    have RA15 : RasAt (w14.alloc (.cells #[.int .i64 (h.W : Int), .int .i64 (h.H : Int), .slice (some ⟨gq, 0, none⟩) N cap, .int .i64 0, .int .i64 0] 42)) r g b (h.W : Int) (h.H : Int) true := Blk.alloc (Blk.below HE.out.2.2.2 b14 (Blk.lt HE.out.2.2.2)) _
    have Q15 : QAt (w14.alloc (.cells #[.int .i64 (h.W : Int), .int .i64 (h.H : Int), .slice (some ⟨gq, 0, none⟩) N cap, .int .i64 0, .int .i64 0] 42)) gq 0 L := hq.below u15
    have B15 : Below w.heap.size w (w14.alloc (.cells #[.int .i64 (h.W : Int), .int .i64 (h.H : Int), .slice (some ⟨gq, 0, none⟩) N cap, .int .i64 0, .int .i64 0] 42)) := by have B := below_next (below_next HK.out.2.2.2 HE.out.1) b14; exact B.alloc B.size _
    obtain ⟨csq, hBq, -⟩ := own.blk.2.2
    have hBq15 : Blk (w14.alloc (.cells #[.int .i64 (h.W : Int), .int .i64 (h.H : Int), .slice (some ⟨gq, 0, none⟩) N cap, .int .i64 0, .int .i64 0] 42)) gq 131 csq := Blk.alloc hBq _
    have HQG : Hid (gq ∉ [r, b]) := Lib.hid (by simp only [List.mem_cons, List.not_mem_nil, or_false, not_or]; exact ⟨Blk.ne_ hBq15 RA15 (by decide), Blk.ne_ hBq15 G15.blk (by decide)⟩)
    clear hBq hBq15
    have HLN : Hid (N = L.length) := Lib.hid (hlen'.trans HNE.out).symm
    have HFL := Lib.hid hfl
    clear u15 b14 own hfl hlen' hq HP13 HE x0 x1 x2 x3 x4 x5 x6 x7 x8 x9 x10 x11 x12 x13 m0 m1 m2 m3
    generalize w14.alloc (.cells #[.int .i64 (h.W : Int), .int .i64 (h.H : Int), .slice (some ⟨gq, 0, none⟩) N cap, .int .i64 0, .int .i64 0] 42) = w15 at R15 F15 G15 RA15 Q15 B15 ⊢
    generalize w14.heap.size = qr at R15 ⊢
    have d3 : w15.cell? ⟨qr, 3, none⟩ = some (.int .i64 0) := Blk.cell R15 3
    have hrb : ∀ k, k ∈ [r, b] → w.heap.size ≤ k := HRB.out
    have HIM := Lib.hid (rasImage_yes RA15 G15)
    rw [HFZ.out] at HIM
    have HT := Lib.hid (And.intro R15 (And.intro F15 (And.intro G15 (And.intro RA15 (And.intro Q15 B15)))))
    clear R15 F15 G15 RA15 Q15 B15
    go_upto_region 21 with (go_at_call 45; refine HIM.out.mono ?_; rintro e w16 ⟨rfl, _, _, D16, t16⟩)
    have nqr : qr ∉ [r, b] := by simp only [List.mem_cons, List.not_mem_nil, or_false, not_or]; exact ⟨Blk.ne_ HT.out.1 HT.out.2.2.2.1 (by decide), Blk.ne_ HT.out.1 HT.out.2.2.1.blk (by decide)⟩
    have nqf : qf ∉ [r, b] := by simp only [List.mem_cons, List.not_mem_nil, or_false, not_or]; exact ⟨Blk.ne_ HT.out.2.1 HT.out.2.2.2.1 (by decide), Blk.ne_ HT.out.2.1 HT.out.2.2.1.blk (by decide)⟩
    have R17 : RI (w16.alloc (.cells #[.int .i64 (h.W : Int), .int .i64 (h.H : Int), .slice (some ⟨d, 0, none⟩) z z] 29)) qr (h.W : Int) (h.H : Int) (.slice (some ⟨gq, 0, none⟩) N cap) 0 0 := Blk.alloc (Blk.turn HT.out.1 t16 nqr) _
    have F17 : FB (w16.alloc (.cells #[.int .i64 (h.W : Int), .int .i64 (h.H : Int), .slice (some ⟨d, 0, none⟩) z z] 29)) qf 0 0 0 := Blk.alloc (FB.turn HT.out.2.1 t16 nqf) _
    have I17 : IB (w16.alloc (.cells #[.int .i64 (h.W : Int), .int .i64 (h.H : Int), .slice (some ⟨d, 0, none⟩) z z] 29)) w16.heap.size (h.W : Int) (h.H : Int) (some ⟨d, 0, none⟩) z z := Blk.new _ _ _
    have Y17 : BytesAt (w16.alloc (.cells #[.int .i64 (h.W : Int), .int .i64 (h.H : Int), .slice (some ⟨d, 0, none⟩) z z] 29)) (some ⟨d, 0, none⟩) z fb := by have := (bytesOf D16).alloc (.cells #[.int .i64 (h.W : Int), .int .i64 (h.H : Int), .slice (some ⟨d, 0, none⟩) z z] 29); rw [HFZ.out] at this; exact this
    have Q17 : QAt (w16.alloc (.cells #[.int .i64 (h.W : Int), .int .i64 (h.H : Int), .slice (some ⟨d, 0, none⟩) z z] 29)) gq 0 L := (HT.out.2.2.2.2.1.turnS t16 HQG.out).below ((Below.refl _ _).alloc (Nat.le_refl _) _)
    have B17 : Below w.heap.size w (w16.alloc (.cells #[.int .i64 (h.W : Int), .int .i64 (h.H : Int), .slice (some ⟨d, 0, none⟩) z z] 29)) := by have B := Turn.belowNext HT.out.2.2.2.2.2 t16 hrb HT.out.2.2.2.2.2.size; exact B.alloc B.size _
    clear HIM D16 t16 nqr nqf d3
    generalize w16.alloc (.cells #[.int .i64 (h.W : Int), .int .i64 (h.H : Int), .slice (some ⟨d, 0, none⟩) z z] 29) = w17 at R17 F17 I17 Y17 Q17 B17 ⊢
    generalize w16.heap.size = qm at I17 ⊢
    have HH7 := Lib.hid (And.intro F17 (And.intro I17 (And.intro R17 (And.intro Y17 (And.intro Q17 B17)))))
    clear F17 I17 R17 Y17 Q17 B17
    refine wp_region_held_drew (S := fun w => LawT w qf qm qr (h.W : Int) (h.H : Int) (some ⟨d, 0, none⟩) z z (.slice (some ⟨gq, 0, none⟩) N cap)) (by kernel_rfl) (LawT.of (Blk.drew HH7.out.1) (Blk.drew HH7.out.2.1) (Blk.drew HH7.out.2.2.1)) (fun hHeld => ?_)
    refine wpAnyH_take (i := 0) (v := ?_) rfl (by kernel_rfl) (by kernel_rfl) (by kernel_rfl) (fun _ _ _ h => h) (Or.inl ⟨by kernel_rfl, ?_⟩) (by assumption) ?_
    rotate_left
    · intro w hSw; obtain ⟨s0, s1, s2, s3, s4, s5, s6, s7, s8, s9, s10⟩ := hSw; go_simp; (try with_reducible rfl)
    (try simp only [Act.put, List.getElem_toArray, List.getElem_cons_succ, List.getElem_cons_zero, List.setIfInBounds_toArray, List.set_cons_zero, List.set_cons_succ])
    refine wpAnyH_take (i := 1) (v := ?_) rfl (by kernel_rfl) (by kernel_rfl) (by kernel_rfl) (fun _ _ _ h => h) (Or.inl ⟨by kernel_rfl, ?_⟩) (by assumption) ?_
    rotate_left
    · intro w hSw; obtain ⟨s0, s1, s2, s3, s4, s5, s6, s7, s8, s9, s10⟩ := hSw; go_simp; (try with_reducible rfl)
    (try simp only [Act.put, List.getElem_toArray, List.getElem_cons_succ, List.getElem_cons_zero, List.setIfInBounds_toArray, List.set_cons_zero, List.set_cons_succ])
    refine wpAnyH_take (i := 2) (v := ?_) rfl (by kernel_rfl) (by kernel_rfl) (by kernel_rfl) (fun _ _ _ h => h) (Or.inl ⟨by kernel_rfl, ?_⟩) (by assumption) ?_
    rotate_left
    · intro w hSw; obtain ⟨s0, s1, s2, s3, s4, s5, s6, s7, s8, s9, s10⟩ := hSw; go_simp; (try with_reducible rfl)
    (try simp only [Act.put, List.getElem_toArray, List.getElem_cons_succ, List.getElem_cons_zero, List.setIfInBounds_toArray, List.set_cons_zero, List.set_cons_succ])
    refine wpAnyH_take (i := 3) (v := ?_) rfl (by kernel_rfl) (by kernel_rfl) (by kernel_rfl) (fun _ _ _ h => h) (Or.inl ⟨by kernel_rfl, ?_⟩) (by assumption) ?_
    rotate_left
    · intro w hSw; obtain ⟨s0, s1, s2, s3, s4, s5, s6, s7, s8, s9, s10⟩ := hSw; go_simp; (try with_reducible rfl)
    (try simp only [Act.put, List.getElem_toArray, List.getElem_cons_succ, List.getElem_cons_zero, List.setIfInBounds_toArray, List.set_cons_zero, List.set_cons_succ])
    refine wpAnyH_take (i := 4) (v := ?_) rfl (by kernel_rfl) (by kernel_rfl) (by kernel_rfl) (fun _ _ _ h => h) (Or.inl ⟨by kernel_rfl, ?_⟩) (by assumption) ?_
    rotate_left
    · intro w hSw; obtain ⟨s0, s1, s2, s3, s4, s5, s6, s7, s8, s9, s10⟩ := hSw; go_simp; (try with_reducible rfl)
    (try simp only [Act.put, List.getElem_toArray, List.getElem_cons_succ, List.getElem_cons_zero, List.setIfInBounds_toArray, List.set_cons_zero, List.set_cons_succ])
    refine wpAnyH_take (i := 5) (v := ?_) rfl (by kernel_rfl) (by kernel_rfl) (by kernel_rfl) (fun _ _ _ h => h) (Or.inl ⟨by kernel_rfl, ?_⟩) (by assumption) ?_
    rotate_left
    · intro w hSw; obtain ⟨s0, s1, s2, s3, s4, s5, s6, s7, s8, s9, s10⟩ := hSw; go_simp; (try with_reducible rfl)
    (try simp only [Act.put, List.getElem_toArray, List.getElem_cons_succ, List.getElem_cons_zero, List.setIfInBounds_toArray, List.set_cons_zero, List.set_cons_succ])
    refine wpAnyH_take (i := 6) (v := ?_) rfl (by kernel_rfl) (by kernel_rfl) (by kernel_rfl) (fun _ _ _ h => h) (Or.inl ⟨by kernel_rfl, ?_⟩) (by assumption) ?_
    rotate_left
    · intro w hSw; obtain ⟨s0, s1, s2, s3, s4, s5, s6, s7, s8, s9, s10⟩ := hSw; go_simp; (try with_reducible rfl)
    (try simp only [Act.put, List.getElem_toArray, List.getElem_cons_succ, List.getElem_cons_zero, List.setIfInBounds_toArray, List.set_cons_zero, List.set_cons_succ])
    refine wpAnyH_take (i := 7) (v := ?_) rfl (by kernel_rfl) (by kernel_rfl) (by kernel_rfl) (fun _ _ _ h => h) (Or.inl ⟨by kernel_rfl, ?_⟩) (by assumption) ?_
    rotate_left
    · intro w hSw; obtain ⟨s0, s1, s2, s3, s4, s5, s6, s7, s8, s9, s10⟩ := hSw; go_simp; (try with_reducible rfl)
    (try simp only [Act.put, List.getElem_toArray, List.getElem_cons_succ, List.getElem_cons_zero, List.setIfInBounds_toArray, List.set_cons_zero, List.set_cons_succ])
    refine wpAnyH_take (i := 8) (v := ?_) rfl (by kernel_rfl) (by kernel_rfl) (by kernel_rfl) (fun _ _ _ h => h) (Or.inl ⟨by kernel_rfl, ?_⟩) (by assumption) ?_
    rotate_left
    · intro w hSw; obtain ⟨s0, s1, s2, s3, s4, s5, s6, s7, s8, s9, s10⟩ := hSw; go_simp; (try with_reducible rfl)
    (try simp only [Act.put, List.getElem_toArray, List.getElem_cons_succ, List.getElem_cons_zero, List.setIfInBounds_toArray, List.set_cons_zero, List.set_cons_succ])
    refine wpAnyH_ready (rs := [9]) (by kernel_rfl) (by simp) ?_
    refine AllReadyH.cons_yes rfl (by kernel_rfl) (fun K hK => ?_) AllReadyH.nil
    go_simp
    refine (refPlain (w := w17.drew) HLN.out hcap HNB.out HH7.out.2.2.2.2.1).mono ?_
    rintro e w8 ⟨d8, c8, rfl, t8, b8⟩
    rw [HFL.out, HZ.out] at t8
    have F8 : FB w8 qf 0 0 0 := Blk.below (Blk.drew HH7.out.1) b8 (Blk.lt HH7.out.1)
    have I8 : IB w8 qm (h.W : Int) (h.H : Int) (some ⟨d, 0, none⟩) z z := Blk.below (Blk.drew HH7.out.2.1) b8 (Blk.lt HH7.out.2.1)
    have R8 : RI w8 qr (h.W : Int) (h.H : Int) (.slice (some ⟨gq, 0, none⟩) N cap) 0 0 := Blk.below (Blk.drew HH7.out.2.2.1) b8 (Blk.lt HH7.out.2.2.1)
    have T8 := BytesAt.below (w := w17.drew) HH7.out.2.2.2.1 b8
    have B8 := below_next HH7.out.2.2.2.2.2.drew b8
    rw [HZ.out]
    refine hK.out _ _ (LawT.of F8 I8 R8) (fun hHeld' => ?_)
    clear hK K hHeld
    have hHeld := hHeld'
    clear hHeld'
    (try simp only [Act.put, List.getElem_toArray, List.getElem_cons_succ, List.getElem_cons_zero, List.setIfInBounds_toArray, List.set_cons_zero, List.set_cons_succ])
    refine wpAnyH_ready (rs := [10]) (by kernel_rfl) (by simp) ?_
    refine AllReadyH.cons_yes rfl (by kernel_rfl) (fun K hK => ?_) AllReadyH.nil
    go_simp
    refine (refSame_bool (same_self _ _ _) T8 t8).mono ?_
    rintro e w9 ⟨rfl, b9⟩
    have B9 := below_next B8 b9
    have F9 : FB w9 qf 0 0 0 := Blk.below F8 b9 (Blk.lt F8)
    have I9 : IB w9 qm (h.W : Int) (h.H : Int) (some ⟨d, 0, none⟩) z z := Blk.below I8 b9 (Blk.lt I8)
    have R9 : RI w9 qr (h.W : Int) (h.H : Int) (.slice (some ⟨gq, 0, none⟩) N cap) 0 0 := Blk.below R8 b9 (Blk.lt R8)
    refine hK.out _ _ (LawT.of F9 I9 R9) (fun hHeld' => ?_)
    clear hK K hHeld
    have hHeld := hHeld'
    clear hHeld'
    (try simp only [Act.put, List.getElem_toArray, List.getElem_cons_succ, List.getElem_cons_zero, List.setIfInBounds_toArray, List.set_cons_zero, List.set_cons_succ])
    refine wpAnyH_take (i := 11) (v := ?_) rfl (by kernel_rfl) (by kernel_rfl) (by kernel_rfl) (fun _ _ _ h => h) (Or.inl ⟨by kernel_rfl, ?_⟩) (by assumption) ?_
    rotate_left
    · intro w hSw; obtain ⟨s0, s1, s2, s3, s4, s5, s6, s7, s8, s9, s10⟩ := hSw; go_simp; (try with_reducible rfl)
    (try simp only [Act.put, List.getElem_toArray, List.getElem_cons_succ, List.getElem_cons_zero, List.setIfInBounds_toArray, List.set_cons_zero, List.set_cons_succ])
    refine wpAnyH_take (i := 12) (v := ?_) rfl (by kernel_rfl) (by kernel_rfl) (by kernel_rfl) (fun _ _ _ h => h) (Or.inl ⟨by kernel_rfl, ?_⟩) (by assumption) ?_
    rotate_left
    · intro w hSw; obtain ⟨s0, s1, s2, s3, s4, s5, s6, s7, s8, s9, s10⟩ := hSw; go_simp; (try with_reducible rfl)
    (try simp only [Act.put, List.getElem_toArray, List.getElem_cons_succ, List.getElem_cons_zero, List.setIfInBounds_toArray, List.set_cons_zero, List.set_cons_succ])
    refine wpAnyH_ready (rs := [13]) (by kernel_rfl) (by simp) ?_
    refine AllReadyH.cons_yes rfl (by kernel_rfl) (fun K hK => ?_) AllReadyH.nil
    go_simp
    refine (awake18_all _).mono ?_
    rintro e w11 ⟨rfl, b11⟩
    refine hK.out _ _ (LawT.of (Blk.below F9 b11 (Blk.lt F9)) (Blk.below I9 b11 (Blk.lt I9)) (Blk.below R9 b11 (Blk.lt R9))) (fun hHeld' => ?_)
    clear hK K hHeld
    have hHeld := hHeld'
    clear hHeld'
    (try simp only [Act.put, List.getElem_toArray, List.getElem_cons_succ, List.getElem_cons_zero, List.setIfInBounds_toArray, List.set_cons_zero, List.set_cons_succ])
    refine wpAnyH_take (i := 14) (v := ?_) rfl (by kernel_rfl) (by kernel_rfl) (by kernel_rfl) (fun _ _ _ h => h) (Or.inl ⟨by kernel_rfl, ?_⟩) (by assumption) ?_
    rotate_left
    · intro w hSw; obtain ⟨s0, s1, s2, s3, s4, s5, s6, s7, s8, s9, s10⟩ := hSw; go_simp; (try with_reducible rfl)
    (try simp only [Act.put, List.getElem_toArray, List.getElem_cons_succ, List.getElem_cons_zero, List.setIfInBounds_toArray, List.set_cons_zero, List.set_cons_succ])
    refine wpAnyH_take (i := 15) (v := ?_) rfl (by kernel_rfl) (by kernel_rfl) (by kernel_rfl) (fun _ _ _ h => h) (Or.inl ⟨by kernel_rfl, ?_⟩) (by assumption) ?_
    rotate_left
    · intro w hSw; obtain ⟨s0, s1, s2, s3, s4, s5, s6, s7, s8, s9, s10⟩ := hSw; go_simp; (try with_reducible rfl)
    (try simp only [Act.put, List.getElem_toArray, List.getElem_cons_succ, List.getElem_cons_zero, List.setIfInBounds_toArray, List.set_cons_zero, List.set_cons_succ])
    refine wpAnyH_done (by kernel_rfl) ?_ _
    (try simp only [List.getElem_toArray, List.getElem_cons_succ, List.getElem_cons_zero, List.set_cons_zero, List.set_cons_succ])
    go_wp2_with fail
    go_ret
    exact ⟨rfl, below_next B9 b11⟩
theorem tgarleReads_said (w : World) (s : ByteArray) (hs : s.size ≤ maxLen) :
    Calls Tryz.prog 7 #[.string s] w fun e w' => e = .returned (.bool true) ∧ Below w.heap.size w w' := by
  have hs' : s.size ≤ 9223372036854775807 := by unfold maxLen at hs; omega
  cases hf : tgaFault s with
  | some f =>
    have HR := Lib.hid (fun w => refTgaReadA hs' w)
    rw [tgaRdV_some (k := f.1) (i := f.2) hf] at HR
    unfold tRdV at HR
    by_cases h9 : 900 < s.size
    · exact tgarleOut_size HR (by omega) w
    · exact tgarleOut_bad HR (by omega) (by have := (tgaFault_some hf).1; omega) w
  | none =>
    have HR := Lib.hid (fun w => refTgaReadA hs' w)
    rw [tgaRdV_none hf] at HR
    unfold tRV tRdV at HR
    by_cases h9 : 900 < s.size
    · exact tgarleOut_size HR (by omega) w
    · have h9I : ¬ (900 : Int) < (s.size : Int) := by omega
      by_cases hc : 300 < (tgaHd s).count
      · exact tgarleOut_count HR h9I rfl (by omega) w
      · by_cases hW : 60 < (tgaHd s).W
        · exact tgarleOut_W HR h9I rfl (by omega) (by omega) w
        · by_cases hH : 60 < (tgaHd s).H
          · exact tgarleOut_H HR h9I rfl (by omega) (by omega) (by omega) w
          · clear HR
            cases hm : tgaMapR s (tgaHd s) with
            | inl g => exact tgarleReads_map (k := g.1) (i := g.2) hm (by omega) (tgaFault_none hf) hf rfl (by omega) (by omega) (by omega) w
            | inr q => exact tgarleReads_in (a := q.1) (M := q.2) hm (by omega) (tgaFault_none hf) hf rfl (by omega) (by omega) (by omega) w
end Go.Proofs.YtccldalagbfmhaaGreat
