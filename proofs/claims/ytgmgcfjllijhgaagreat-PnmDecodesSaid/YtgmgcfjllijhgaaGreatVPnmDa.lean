/- The document's raw reading: a row's bytes, a power of two, a pixel. -/
import Derived.Test.YtgmgcfjllijhgaaGreatVPnmDocs
namespace Go.Proofs.YtgmgcfjllijhgaaGreat
open Go.RowKit
set_option linter.unusedVariables false
set_option linter.unusedSimpArgs false

/-- a row's bytes -/
def drowN (K W M : Nat) : Nat := if K = 4 then (W + 7) / 8 else (if K = 6 then 3 * W else W) * (if 255 < M then 2 else 1)
set_option maxRecDepth 100000 in
set_option maxHeartbeats 1000000 in
theorem drow_4n {W H n M r : Nat} {w : World} (hw : 1 ≤ W ∧ W ≤ 16384) (hm : 1 ≤ M ∧ M ≤ 65535) (hb : W % 8 = 0) (hr : r = drowN 4 W M) : Calls Tryz.prog 43 #[.agg #[.int .i64 4, .int .i64 (W : Int), .int .i64 (H : Int), .int .i64 (M : Int), .int .i64 (n : Int), .int .i64 0, .int .i64 0]] w fun e w' => e = .returned (.int .i64 (r : Int)) ∧ Below w.heap.size w w' := by
 have hr2 : r = (W + 7) / 8 := hr
 obtain ⟨q, hq⟩ : ∃ q, q = W / 8 := ⟨_, rfl⟩
 have hd1 : ((W : Int)) / 8 = (q : Int) := by omega
 have hd2 : ((W : Int)).tdiv 8 = (q : Int) := by rw [Int.tdiv_eq_ediv_of_nonneg (by omega)]; exact hd1
 obtain ⟨m, hm8⟩ : ∃ m, m = W % 8 := ⟨_, rfl⟩
 have he1 : ((W : Int)) % 8 = (m : Int) := by omega
 have he2 : ((W : Int)).tmod 8 = (m : Int) := by rw [Int.tmod_eq_emod_of_nonneg (by omega)]; exact he1
 have hq9 : q ≤ 2048 := by omega
 have h8 : ¬ (0 : Int) < (m : Int) := by omega
 have h9 : r = q := by omega
 obtain rfl : m = 0 := by omega
 have H9 := Lib.hid h9
 clear hq hm8 h9 hr2
 clear hr
 go_enter Tryz.func43, Tryz.ntmps43
 go_wp2_with fail
 go_ret
 exact ⟨ret1 (vint (by have := H9.out; omega)), (Below.refl _ _).alloc (Nat.le_refl _) _⟩

set_option maxRecDepth 100000 in
set_option maxHeartbeats 1000000 in
theorem drow_4b {W H n M r : Nat} {w : World} (hw : 1 ≤ W ∧ W ≤ 16384) (hm : 1 ≤ M ∧ M ≤ 65535) (hb : W % 8 ≠ 0) (hr : r = drowN 4 W M) : Calls Tryz.prog 43 #[.agg #[.int .i64 4, .int .i64 (W : Int), .int .i64 (H : Int), .int .i64 (M : Int), .int .i64 (n : Int), .int .i64 0, .int .i64 0]] w fun e w' => e = .returned (.int .i64 (r : Int)) ∧ Below w.heap.size w w' := by
 have hr2 : r = (W + 7) / 8 := hr
 obtain ⟨q, hq⟩ : ∃ q, q = W / 8 := ⟨_, rfl⟩
 have hd1 : ((W : Int)) / 8 = (q : Int) := by omega
 have hd2 : ((W : Int)).tdiv 8 = (q : Int) := by rw [Int.tdiv_eq_ediv_of_nonneg (by omega)]; exact hd1
 obtain ⟨m, hm8⟩ : ∃ m, m = W % 8 := ⟨_, rfl⟩
 have he1 : ((W : Int)) % 8 = (m : Int) := by omega
 have he2 : ((W : Int)).tmod 8 = (m : Int) := by rw [Int.tmod_eq_emod_of_nonneg (by omega)]; exact he1
 have hq9 : q ≤ 2048 := by omega
 have h8 : (0 : Int) < (m : Int) := by omega
 have h8n : 0 < m := by omega
 have h9 : r = q + 1 := by omega
 have H9 := Lib.hid h9
 clear hq hm8 h9 hr2
 clear hr
 go_enter Tryz.func43, Tryz.ntmps43
 go_wp2_with fail
 go_ret
 exact ⟨ret1 (vint (by have := H9.out; omega)), (Below.refl _ _).alloc (Nat.le_refl _) _⟩

set_option maxRecDepth 100000 in
set_option maxHeartbeats 1000000 in
theorem drow_5n {W H n M r : Nat} {w : World} (hw : 1 ≤ W ∧ W ≤ 16384) (hm : 1 ≤ M ∧ M ≤ 65535) (hb : ¬ 255 < M) (hr : r = drowN 5 W M) : Calls Tryz.prog 43 #[.agg #[.int .i64 5, .int .i64 (W : Int), .int .i64 (H : Int), .int .i64 (M : Int), .int .i64 (n : Int), .int .i64 0, .int .i64 0]] w fun e w' => e = .returned (.int .i64 (r : Int)) ∧ Below w.heap.size w w' := by
 have hr2 : r = W * 1 := by rw [hr]; unfold drowN; rw [if_neg (by decide), if_neg (by decide), if_neg hb]
 have hbi : ¬ (255 : Int) < (M : Int) := by omega
 clear hr
 go_enter Tryz.func43, Tryz.ntmps43
 go_wp2_with fail
 go_ret
 exact ⟨ret1 (vint (by omega)), (Below.refl _ _).alloc (Nat.le_refl _) _⟩

set_option maxRecDepth 100000 in
set_option maxHeartbeats 1000000 in
theorem drow_5b {W H n M r : Nat} {w : World} (hw : 1 ≤ W ∧ W ≤ 16384) (hm : 1 ≤ M ∧ M ≤ 65535) (hb : 255 < M) (hr : r = drowN 5 W M) : Calls Tryz.prog 43 #[.agg #[.int .i64 5, .int .i64 (W : Int), .int .i64 (H : Int), .int .i64 (M : Int), .int .i64 (n : Int), .int .i64 0, .int .i64 0]] w fun e w' => e = .returned (.int .i64 (r : Int)) ∧ Below w.heap.size w w' := by
 have hr2 : r = W * 2 := by rw [hr]; unfold drowN; rw [if_neg (by decide), if_neg (by decide), if_pos hb]
 have hbi : (255 : Int) < (M : Int) := by omega
 clear hr
 go_enter Tryz.func43, Tryz.ntmps43
 go_wp2_with fail
 go_ret
 exact ⟨ret1 (vint (by omega)), (Below.refl _ _).alloc (Nat.le_refl _) _⟩

set_option maxRecDepth 100000 in
set_option maxHeartbeats 1000000 in
theorem drow_6n {W H n M r : Nat} {w : World} (hw : 1 ≤ W ∧ W ≤ 16384) (hm : 1 ≤ M ∧ M ≤ 65535) (hb : ¬ 255 < M) (hr : r = drowN 6 W M) : Calls Tryz.prog 43 #[.agg #[.int .i64 6, .int .i64 (W : Int), .int .i64 (H : Int), .int .i64 (M : Int), .int .i64 (n : Int), .int .i64 0, .int .i64 0]] w fun e w' => e = .returned (.int .i64 (r : Int)) ∧ Below w.heap.size w w' := by
 have hr2 : r = (3 * W) * 1 := by rw [hr]; unfold drowN; rw [if_neg (by decide), if_pos rfl, if_neg hb]
 have hbi : ¬ (255 : Int) < (M : Int) := by omega
 clear hr
 go_enter Tryz.func43, Tryz.ntmps43
 go_wp2_with fail
 go_ret
 exact ⟨ret1 (vint (by omega)), (Below.refl _ _).alloc (Nat.le_refl _) _⟩

set_option maxRecDepth 100000 in
set_option maxHeartbeats 1000000 in
theorem drow_6b {W H n M r : Nat} {w : World} (hw : 1 ≤ W ∧ W ≤ 16384) (hm : 1 ≤ M ∧ M ≤ 65535) (hb : 255 < M) (hr : r = drowN 6 W M) : Calls Tryz.prog 43 #[.agg #[.int .i64 6, .int .i64 (W : Int), .int .i64 (H : Int), .int .i64 (M : Int), .int .i64 (n : Int), .int .i64 0, .int .i64 0]] w fun e w' => e = .returned (.int .i64 (r : Int)) ∧ Below w.heap.size w w' := by
 have hr2 : r = (3 * W) * 2 := by rw [hr]; unfold drowN; rw [if_neg (by decide), if_pos rfl, if_pos hb]
 have hbi : (255 : Int) < (M : Int) := by omega
 clear hr
 go_enter Tryz.func43, Tryz.ntmps43
 go_wp2_with fail
 go_ret
 exact ⟨ret1 (vint (by omega)), (Below.refl _ _).alloc (Nat.le_refl _) _⟩

theorem drowC {K W H n M r : Nat} {w : World} (hK : K = 4 ∨ K = 5 ∨ K = 6) (hw : 1 ≤ W ∧ W ≤ 16384) (hm : 1 ≤ M ∧ M ≤ 65535) (hr : r = drowN K W M) : Calls Tryz.prog 43 #[.agg #[.int .i64 (K : Int), .int .i64 (W : Int), .int .i64 (H : Int), .int .i64 (M : Int), .int .i64 (n : Int), .int .i64 0, .int .i64 0]] w fun e w' => e = .returned (.int .i64 (r : Int)) ∧ Below w.heap.size w w' := by
 rcases hK with rfl | rfl | rfl
 ·by_cases h : W % 8 = 0
  ·exact drow_4n hw hm h hr
  ·exact drow_4b hw hm h hr
 ·by_cases h : 255 < M
  ·exact drow_5b hw hm h hr
  ·exact drow_5n hw hm h hr
 ·by_cases h : 255 < M
  ·exact drow_6b hw hm h hr
  ·exact drow_6n hw hm h hr
/-- so many samples of q bytes -/
def rsmpsR (s : ByteArray) (q M : Nat) : Nat → Nat → List UInt8 → Out (List UInt8 × Nat)
 | 0, a, l => .inr (l, a)
 | m + 1, a, l => (rsmpR s q M a).bind fun r => rsmpsR s q M m r.2 (l ++ [r.1])
theorem rpixR_five (s : ByteArray) (K q M a : Nat) (hK : K ≠ 6) : rpixR s K q M a = (rsmpsR s q M 1 a []).bind fun r => .inr (grayQ (r.1.getD 0 0), r.2) := by
 unfold rpixR
 rw [if_neg hK]
 unfold rsmpsR
 cases rsmpR s q M a with
 | inl b => rfl
 | inr r => rfl
theorem rpixR_six (s : ByteArray) (q M a : Nat) : rpixR s 6 q M a = (rsmpsR s q M 3 a []).bind fun r => .inr (⟨r.1.getD 0 0, r.1.getD 1 0, r.1.getD 2 0, 255⟩, r.2) := by
 unfold rpixR
 rw [if_pos rfl]
 unfold rsmpsR
 cases rsmpR s q M a with
 | inl b => rfl
 | inr r =>
  simp only [Out.bind]
  unfold rsmpsR
  cases rsmpR s q M r.2 with
  | inl b => rfl
  | inr g =>
   simp only [Out.bind]
   unfold rsmpsR
   cases rsmpR s q M g.2 with
   | inl b => rfl
   | inr b => rfl
theorem rsmpR_next {s : ByteArray} {q M a : Nat} {r : UInt8 × Nat} (h : rsmpR s q M a = .inr r) : r.2 = a + q := by
 unfold rsmpR at h
 split at h
 ·split at h
  ·cases h
  ·injection h with h; subst h; rfl
 ·cases h
theorem rpixR_next {s : ByteArray} {K q M a : Nat} {r : Qc × Nat} (h : rpixR s K q M a = .inr r) : r.2 = a + (if K = 6 then 3 else 1) * q := by
 unfold rpixR at h
 split at h
 ·cases h1 : rsmpR s q M a with
  | inl b => rw [h1] at h; cases h
  | inr r1 =>
   rw [h1] at h
   simp only [Out.bind] at h
   cases h2 : rsmpR s q M r1.2 with
   | inl b => rw [h2] at h; cases h
   | inr r2 =>
    rw [h2] at h
    simp only [Out.bind] at h
    cases h3 : rsmpR s q M r2.2 with
    | inl b => rw [h3] at h; cases h
    | inr r3 =>
     rw [h3] at h
     injection h with h
     subst h
     have e1 := rsmpR_next h1
     have e2 := rsmpR_next h2
     have e3 := rsmpR_next h3
     rw [if_pos (by assumption)]
     show r3.2 = a + 3 * q
     omega
 ·cases h1 : rsmpR s q M a with
  | inl b => rw [h1] at h; cases h
  | inr r1 =>
   rw [h1] at h
   injection h with h
   subst h
   have e1 := rsmpR_next h1
   rw [if_neg (by assumption)]
   show r1.2 = a + 1 * q
   omega
/-- what the document's pixel tells -/
def rpixV (o : Out (Qc × Nat)) : Value := match o with
 | .inl b => .tuple #[.agg #[.int .u8 0, .int .u8 0, .int .u8 0, .int .u8 0], .agg #[.int .i64 0, .int .i64 0, .slice none 0 0, .int .i64 (b.1 : Int), .int .i64 (b.2 : Int)]]
 | .inr r => .tuple #[.agg #[.int .u8 (r.1.r.toNat : Int), .int .u8 (r.1.g.toNat : Int), .int .u8 (r.1.b.toNat : Int), .int .u8 (r.1.a.toNat : Int)], .agg #[.int .i64 0, .int .i64 0, .slice none 0 0, .int .i64 0, .int .i64 0]]
/-- what holds at each sample -/
structure RpI (w0 w : World) (K W H M n : Nat) (u : Value) (l : List UInt8) : Prop where
 Hd : Blk w w0.heap.size 24 #[.int .i64 (K : Int), .int .i64 (W : Int), .int .i64 (H : Int), .int .i64 (M : Int), .int .i64 (n : Int), .int .i64 0, .int .i64 0]
 C : CB w (w0.heap.size + 1) 0 0 0 0
 X : RI w (w0.heap.size + 2) 0 0 (.slice none 0 0) 0 0
 P : Owns1 w w0.heap.size 3 u (dV l)
 B : Below w0.heap.size w0 w
section
variable {w0 w w' : World} {K W H M n : Nat} {u : Value} {l : List UInt8}
theorem RpI.below (h : RpI w0 w K W H M n u l) (b : Below w.heap.size w w') : RpI w0 w' K W H M n u l :=
 ⟨Blk.below h.Hd b (Blk.lt h.Hd), Blk.below h.C b (Blk.lt h.C), Blk.below h.X b (Blk.lt h.X), h.P.stays b (Nat.le_refl _), below_next h.B b⟩
theorem RpI.alloc (h : RpI w0 w K W H M n u l) (x : Obj) : RpI w0 (w.alloc x) K W H M n u l := h.below ((Below.refl _ _).alloc (Nat.le_refl _) _)
theorem RpI.drew (h : RpI w0 w K W H M n u l) : RpI w0 w.drew K W H M n u l := ⟨Blk.drew h.Hd, Blk.drew h.C, Blk.drew h.X, h.P.drew, h.B.drew⟩
theorem RpI.take {u' : Value} {x : UInt8} (h : RpI w0 w K W H M n u l) (o : Owns1 w' w0.heap.size 3 u' (dV l ++ [.int .i64 (x.toNat : Int)])) (b : Below w0.heap.size w w') (g : w.grownBy w' u.ownBlock) : RpI w0 w' K W H M n u' (l ++ [x]) := by
 refine ⟨Blk.grownO3 h.Hd h.P (by decide) g, Blk.grownO3 h.C h.P (by decide) g, Blk.grownO3 h.X h.P (by decide) g, ?_, h.B.trans b⟩
 rw [dV_snoc]
 exact o
theorem RpI.head (h : RpI w0 w K W H M n u l) : w.cell? ⟨w0.heap.size, 0, none⟩ = some (.int .i64 (K : Int)) ∧ w.cell? ⟨w0.heap.size, 3, none⟩ = some (.int .i64 (M : Int)) := ⟨Blk.cell h.Hd 0, Blk.cell h.Hd 3⟩
theorem CB.all5 {a b c d : Int} {x : Nat} (h : CB w x a b c d) : w.cell? ⟨x, 0, none⟩ = some (.int .u8 a) ∧ w.cell? ⟨x, 1, none⟩ = some (.int .u8 b) ∧ w.cell? ⟨x, 2, none⟩ = some (.int .u8 c) ∧ w.cell? ⟨x, 3, none⟩ = some (.int .u8 d) ∧ w.frozen? ⟨x, 0, none⟩ = false ∧ w.frozen? ⟨x, 1, none⟩ = false ∧ w.frozen? ⟨x, 2, none⟩ = false ∧ w.frozen? ⟨x, 3, none⟩ = false ∧ x < w.heap.size :=
 ⟨h.c0, h.c1, h.c2, h.c3, Blk.frozen h 0, Blk.frozen h 1, Blk.frozen h 2, Blk.frozen h 3, Blk.lt h⟩
end
set_option maxRecDepth 100000 in
set_option maxHeartbeats 8000000 in
theorem refRpix51 {s : ByteArray} {W H M n fr x a0 : Nat} {frI : Int} (hfI : frI = (fr : Int)) (hsm : s.size ≤ 1099511627776) (hM : 1 ≤ M ∧ M ≤ 65535) (hbI : ¬ (255 : Int) < (M : Int)) (hx : x ≤ 16384) (hf : fr ≤ 2199023255552) (ha : a0 = fr + x * 1 * 1) (w : World) : Calls Tryz.prog 45 #[.string s, .agg #[.int .i64 5, .int .i64 (W : Int), .int .i64 (H : Int), .int .i64 (M : Int), .int .i64 (n : Int), .int .i64 0, .int .i64 0], .int .i64 frI, .int .i64 (x : Int)] w fun e w' => Below w.heap.size w w' ∧ e = .returned (rpixV (rpixR s 5 1 M a0)) := by
 subst hfI
 have hM1 := hM.1
 have hM2 := hM.2
 have hsB : (s.size : Int) ≤ 1099511627776 := by omega
 have I0' : RpI w (((w.alloc (.cells #[.int .i64 5, .int .i64 (W : Int), .int .i64 (H : Int), .int .i64 (M : Int), .int .i64 (n : Int), .int .i64 0, .int .i64 0] 24)).alloc (.cells #[.int .u8 0, .int .u8 0, .int .u8 0, .int .u8 0] 59)).alloc (.cells #[.int .i64 0, .int .i64 0, .slice none 0 0, .int .i64 0, .int .i64 0] 28)) 5 W H M n (.slice none 0 0) [] :=
  ⟨Blk.alloc (Blk.alloc (Blk.new _ _ _) _) _, Blk.alloc (Blk.new_at _ _ _ (by simp)) _, Blk.new_at _ _ _ (by simp), World.ownsRow_nil _ _ _ _, (((Below.refl _ _).alloc (Nat.le_refl _) _).alloc (by simp) _).alloc (by simp; omega) _⟩
 obtain ⟨Q, hQ⟩ : ∃ Q, rsmpsR s 1 M 1 a0 [] = Q := ⟨_, rfl⟩
 have HRQ := Lib.hid hQ
 have HA0 := Lib.hid ha
 clear ha hQ
 go_enter Tryz.func45, Tryz.ntmps45
 go_upto_region 1 with fail
 generalize ((w.alloc (.cells #[.int .i64 5, .int .i64 (W : Int), .int .i64 (H : Int), .int .i64 (M : Int), .int .i64 (n : Int), .int .i64 0, .int .i64 0] 24)).alloc (.cells #[.int .u8 0, .int .u8 0, .int .u8 0, .int .u8 0] 59)).alloc (.cells #[.int .i64 0, .int .i64 0, .slice none 0 0, .int .i64 0, .int .i64 0] 28) = w5 at I0' ⊢
 obtain ⟨h0, h3⟩ := I0'.head
 go_upto_region 2 with fail
 go_upto_region 6 with fail
 go_upto_region 7 with fail
 have hws : w.heap.size ≤ w5.heap.size := I0'.B.size
 have J0 : RpI w (w5.alloc (.cells #[] 3)) 5 W H M n (.slice (some ⟨w5.heap.size, 0, none⟩) 0 0) [] := by
  have h := I0'.alloc (.cells #[] 3)
  exact ⟨h.Hd, h.C, h.X, Owns1.empty3 hws, h.B⟩
 clear h0 h3 I0'
 generalize w5.alloc (.cells #[] 3) = w6 at J0 ⊢
 generalize w5.heap.size = lb0 at J0 hws ⊢
 have HJ0 := Lib.hid J0
 obtain ⟨h0, h3⟩ := J0.head
 clear J0
 go_upto_region 8 with fail
 clear h0 h3
 go_loopg [12, 13, 14, 15] 1 (fun gh v12 v13 v14 v15 wr => ∃ (k a : Nat) (l : List UInt8), k + gh = 1 ∧ v13 = .int .i64 (k : Int) ∧ l.length = k ∧ a = a0 + k * 1 ∧ Hid (rsmpsR s 1 M gh a l = Q) ∧ Hid (RpI w wr 5 W H M n v12 l))
 case atStart => exact ⟨0, a0, [], by omega, rfl, rfl, by omega, HRQ, HJ0⟩
 case round =>
  obtain ⟨k, a1, l, hk, rfl, hl, hal, HRS, HJ⟩ := hrel
  clear HJ0
  obtain ⟨h0, h3⟩ := HJ.out.head
  have HLL := Lib.hid hl
  clear hl
  by_cases hkc : k < 1
  ·have hkI : (k : Int) < 1 := by omega
   obtain ⟨g', rfl⟩ : ∃ g', gk = g' + 1 := ⟨gk - 1, by omega⟩
   have hat : (fr : Int) + ((x : Int) + (k : Int)) = (a1 : Int) := by have := HA0.out; omega
   have hrs := HRS.out
   unfold rsmpsR rsmpR at hrs
   have HAT := Lib.hid (And.intro trivial hal)
   clear hal
   go_upto_region 11 with fail
   by_cases hin : a1 + 1 ≤ s.size
   ·rw [if_pos hin] at hrs
    have hinI : ¬ (s.size : Int) < (a1 : Int) + 1 := by omega
    have HBE := Lib.hid (fun w => refBe_at (s := s) (a := a1) (n := 1) hin (by omega) rfl w)
    by_cases hVM : M < beN s a1 1
    ·rw [if_pos hVM] at hrs
     have HR2 : Hid (rpixR s 5 1 M a0 = .inl (2, a1)) := Lib.hid (by rw [rpixR_five s 5 1 M a0 (by decide), HRQ.out, ← hrs]; rfl)
     clear hrs HRS HRQ
     generalize beN s a1 1 = V at hVM HBE
     have hVI : (M : Int) < (V : Int) := by omega
     go_wp2_with (first
      | (go_at_call 72; refine (HBE.out _).mono ?_; rintro e w7 ⟨rfl, rfl⟩)
      | (go_at_call 32; refine (refBadC _ _ _).mono ?_; rintro e wb ⟨rfl, bb⟩; have IB := HJ.out.below bb; obtain ⟨c0, c1, c2, c3, y0, y1, y2, y3, cl⟩ := CB.all5 IB.C; obtain ⟨x0, x1, x2, x3, x4, zx0, zx1, zx2, zx3, zx4, xl⟩ := RI.all IB.X))
     exact bodyPost_ret (v := .tuple #[.agg #[.int .u8 0, .int .u8 0, .int .u8 0, .int .u8 0], .agg #[.int .i64 0, .int .i64 0, .slice none 0 0, .int .i64 2, .int .i64 (a1 : Int)]]) (by simp [results, Tryz.results45, go_sem, c0, c1, c2, c3, x0, x1, x2, x3, x4]) rfl (by rw [HR2.out]; exact ⟨Below.st5 (Below.st4 IB.B (Nat.le_succ _)) (by omega), rfl⟩)
    ·rw [if_neg hVM] at hrs
     have hrs2 : rsmpsR s 1 M g' (a1 + 1) (l ++ [smp8 (beN s a1 1) M]) = Q := hrs
     generalize beN s a1 1 = V at hVM HBE hrs2
     have hVI : ¬ (M : Int) < (V : Int) := by omega
     have HM0 := fun w => refMax_any (V : Int) (M : Int) w (smay_iff.2 ⟨by omega, by omega, by omega, by omega⟩)
     rw [smp8_is hM1 (by omega)] at HM0
     generalize smp8 V M = z at HM0 hrs2
     have HMX := Lib.hid HM0
     have HRX := Lib.hid hrs2
     have hlen : (dV l).length < 1099511627776 := by rw [dV_len, HLL.out]; omega
     clear hrs hrs2 HRS HM0
     go_upto_region 16 with (go_at_call 72; refine (HBE.out _).mono ?_; rintro e w7 ⟨rfl, rfl⟩)
     have hbs : w.heap.size ≤ (wr.alloc (.cells #[.int .i64 (z.toNat : Int)] 3)).heap.size := by have := HJ.out.B.size; simp; omega
     go_wp2_with (first
      | (go_at_call 34; refine (HMX.out _).mono ?_; rintro e w9 ⟨rfl, rfl⟩)
      | (at_builtin; refine wpList_append_one rfl (.tmp 61) (.tmp 66) 61 3 rfl (.int .i64 0) 8 Tryz.underlying61 infoInt3 rfl (by decide) w.heap.size _ (dV l) rfl (HJ.out.alloc _).P _ rfl (.int .i64 (z.toNat : Int)) (cell_new _ _ _ 0 _ rfl) rfl hlen hbs ?_; intro v4 w4 o4 b4 g4))
     have HT4 := Lib.hid ((HJ.out.alloc (.cells #[.int .i64 (z.toNat : Int)] 3)).take o4 b4 g4)
     clear o4 b4 g4 HJ
     go_roundg g'
     case measure => omega
     case rel => exact ⟨k + 1, a1 + 1, l ++ [z], by omega, by go_num, by rw [List.length_append, HLL.out]; rfl, by have := HAT.out.2; omega, HRX, HT4⟩
   ·rw [if_neg hin] at hrs
    have hinI : (s.size : Int) < (a1 : Int) + 1 := by omega
    have HR2 : Hid (rpixR s 5 1 M a0 = .inl (1, s.size)) := Lib.hid (by rw [rpixR_five s 5 1 M a0 (by decide), HRQ.out, ← hrs]; rfl)
    clear hrs HRS HRQ
    go_wp2_with (go_at_call 32; refine (refBadC _ _ _).mono ?_; rintro e wb ⟨rfl, bb⟩; have IB := HJ.out.below bb; obtain ⟨c0, c1, c2, c3, y0, y1, y2, y3, cl⟩ := CB.all5 IB.C; obtain ⟨x0, x1, x2, x3, x4, zx0, zx1, zx2, zx3, zx4, xl⟩ := RI.all IB.X)
    exact bodyPost_ret (v := .tuple #[.agg #[.int .u8 0, .int .u8 0, .int .u8 0, .int .u8 0], .agg #[.int .i64 0, .int .i64 0, .slice none 0 0, .int .i64 1, .int .i64 (s.size : Int)]]) (by simp [results, Tryz.results45, go_sem, c0, c1, c2, c3, x0, x1, x2, x3, x4]) rfl (by rw [HR2.out]; exact ⟨Below.st5 (Below.st4 IB.B (Nat.le_succ _)) (by omega), rfl⟩)
  ·obtain rfl : k = 1 := by omega
   obtain rfl : gk = 0 := by omega
   have hrs := HRS.out
   unfold rsmpsR at hrs
   obtain ⟨y, rfl⟩ : ∃ y, l = [y] := by
    have := HLL.out
    match l with
    | [y] => exact ⟨y, rfl⟩
   obtain ⟨lb, cap, rfl⟩ : ∃ lb cap, u12 = .slice (some ⟨lb, 0, none⟩) 1 cap := by
    rcases HJ.out.P.form with ⟨_, h⟩ | ⟨g, cap, h, _⟩
    ·exact absurd (congrArg List.length h) (by simp [dV])
    ·exact ⟨g, cap, h⟩
   have l0 := (row_s HJ.out.P 0 y rfl)
   have HG0 := fun w => refGrayQ (v := y.toNat) (by have := y.toNat_lt; omega) w
   rw [show UInt8.ofNat y.toNat = y by simp] at HG0
   have HR2 : Hid (rpixR s 5 1 M a0 = .inr (grayQ y, a1)) := Lib.hid (by rw [rpixR_five s 5 1 M a0 (by decide), HRQ.out, ← hrs]; rfl)
   generalize grayQ y = c at HG0 HR2
   unfold Qc.v at HG0
   have HG := Lib.hid HG0
   clear HG0 HLL hrs HRS HRQ
   go_wp2_with (go_at_call 33; refine (HG.out _).mono ?_; rintro e w8 ⟨rfl, b8⟩; have I8 := HJ.out.below b8; obtain ⟨c0, c1, c2, c3, y0, y1, y2, y3, cl⟩ := CB.all5 I8.C; obtain ⟨x0, x1, x2, x3, x4, zx0, zx1, zx2, zx3, zx4, xl⟩ := RI.all I8.X)
   exact bodyPost_ret (v := .tuple #[.agg #[.int .u8 (c.r.toNat : Int), .int .u8 (c.g.toNat : Int), .int .u8 (c.b.toNat : Int), .int .u8 (c.a.toNat : Int)], .agg #[.int .i64 0, .int .i64 0, .slice none 0 0, .int .i64 0, .int .i64 0]]) (by simp [results, Tryz.results45, go_sem, c0, c1, c2, c3, x0, x1, x2, x3, x4]) rfl (by rw [HR2.out]; exact ⟨Below.st5 (Below.st4 I8.B (Nat.le_succ _)) (by omega), rfl⟩)
set_option maxRecDepth 100000 in
set_option maxHeartbeats 8000000 in
theorem refRpix52 {s : ByteArray} {W H M n fr x a0 : Nat} {frI : Int} (hfI : frI = (fr : Int)) (hsm : s.size ≤ 1099511627776) (hM : 1 ≤ M ∧ M ≤ 65535) (hbI : (255 : Int) < (M : Int)) (hx : x ≤ 16384) (hf : fr ≤ 2199023255552) (ha : a0 = fr + x * 1 * 2) (w : World) : Calls Tryz.prog 45 #[.string s, .agg #[.int .i64 5, .int .i64 (W : Int), .int .i64 (H : Int), .int .i64 (M : Int), .int .i64 (n : Int), .int .i64 0, .int .i64 0], .int .i64 frI, .int .i64 (x : Int)] w fun e w' => Below w.heap.size w w' ∧ e = .returned (rpixV (rpixR s 5 2 M a0)) := by
 subst hfI
 have hM1 := hM.1
 have hM2 := hM.2
 have hsB : (s.size : Int) ≤ 1099511627776 := by omega
 have I0' : RpI w (((w.alloc (.cells #[.int .i64 5, .int .i64 (W : Int), .int .i64 (H : Int), .int .i64 (M : Int), .int .i64 (n : Int), .int .i64 0, .int .i64 0] 24)).alloc (.cells #[.int .u8 0, .int .u8 0, .int .u8 0, .int .u8 0] 59)).alloc (.cells #[.int .i64 0, .int .i64 0, .slice none 0 0, .int .i64 0, .int .i64 0] 28)) 5 W H M n (.slice none 0 0) [] :=
  ⟨Blk.alloc (Blk.alloc (Blk.new _ _ _) _) _, Blk.alloc (Blk.new_at _ _ _ (by simp)) _, Blk.new_at _ _ _ (by simp), World.ownsRow_nil _ _ _ _, (((Below.refl _ _).alloc (Nat.le_refl _) _).alloc (by simp) _).alloc (by simp; omega) _⟩
 obtain ⟨Q, hQ⟩ : ∃ Q, rsmpsR s 2 M 1 a0 [] = Q := ⟨_, rfl⟩
 have HRQ := Lib.hid hQ
 have HA0 := Lib.hid ha
 clear ha hQ
 go_enter Tryz.func45, Tryz.ntmps45
 go_upto_region 1 with fail
 generalize ((w.alloc (.cells #[.int .i64 5, .int .i64 (W : Int), .int .i64 (H : Int), .int .i64 (M : Int), .int .i64 (n : Int), .int .i64 0, .int .i64 0] 24)).alloc (.cells #[.int .u8 0, .int .u8 0, .int .u8 0, .int .u8 0] 59)).alloc (.cells #[.int .i64 0, .int .i64 0, .slice none 0 0, .int .i64 0, .int .i64 0] 28) = w5 at I0' ⊢
 obtain ⟨h0, h3⟩ := I0'.head
 go_upto_region 2 with fail
 go_upto_region 6 with fail
 go_upto_region 7 with fail
 have hws : w.heap.size ≤ w5.heap.size := I0'.B.size
 have J0 : RpI w (w5.alloc (.cells #[] 3)) 5 W H M n (.slice (some ⟨w5.heap.size, 0, none⟩) 0 0) [] := by
  have h := I0'.alloc (.cells #[] 3)
  exact ⟨h.Hd, h.C, h.X, Owns1.empty3 hws, h.B⟩
 clear h0 h3 I0'
 generalize w5.alloc (.cells #[] 3) = w6 at J0 ⊢
 generalize w5.heap.size = lb0 at J0 hws ⊢
 have HJ0 := Lib.hid J0
 obtain ⟨h0, h3⟩ := J0.head
 clear J0
 go_upto_region 8 with fail
 clear h0 h3
 go_loopg [12, 13, 14, 15] 1 (fun gh v12 v13 v14 v15 wr => ∃ (k a : Nat) (l : List UInt8), k + gh = 1 ∧ v13 = .int .i64 (k : Int) ∧ l.length = k ∧ a = a0 + k * 2 ∧ Hid (rsmpsR s 2 M gh a l = Q) ∧ Hid (RpI w wr 5 W H M n v12 l))
 case atStart => exact ⟨0, a0, [], by omega, rfl, rfl, by omega, HRQ, HJ0⟩
 case round =>
  obtain ⟨k, a1, l, hk, rfl, hl, hal, HRS, HJ⟩ := hrel
  clear HJ0
  obtain ⟨h0, h3⟩ := HJ.out.head
  have HLL := Lib.hid hl
  clear hl
  by_cases hkc : k < 1
  ·have hkI : (k : Int) < 1 := by omega
   obtain ⟨g', rfl⟩ : ∃ g', gk = g' + 1 := ⟨gk - 1, by omega⟩
   have hat : (fr : Int) + ((x : Int) + (k : Int)) * 2 = (a1 : Int) := by have := HA0.out; omega
   have hrs := HRS.out
   unfold rsmpsR rsmpR at hrs
   have HAT := Lib.hid (And.intro trivial hal)
   clear hal
   go_upto_region 11 with fail
   by_cases hin : a1 + 2 ≤ s.size
   ·rw [if_pos hin] at hrs
    have hinI : ¬ (s.size : Int) < (a1 : Int) + 2 := by omega
    have HBE := Lib.hid (fun w => refBe_at (s := s) (a := a1) (n := 2) hin (by omega) rfl w)
    by_cases hVM : M < beN s a1 2
    ·rw [if_pos hVM] at hrs
     have HR2 : Hid (rpixR s 5 2 M a0 = .inl (2, a1)) := Lib.hid (by rw [rpixR_five s 5 2 M a0 (by decide), HRQ.out, ← hrs]; rfl)
     clear hrs HRS HRQ
     generalize beN s a1 2 = V at hVM HBE
     have hVI : (M : Int) < (V : Int) := by omega
     go_wp2_with (first
      | (go_at_call 72; refine (HBE.out _).mono ?_; rintro e w7 ⟨rfl, rfl⟩)
      | (go_at_call 32; refine (refBadC _ _ _).mono ?_; rintro e wb ⟨rfl, bb⟩; have IB := HJ.out.below bb; obtain ⟨c0, c1, c2, c3, y0, y1, y2, y3, cl⟩ := CB.all5 IB.C; obtain ⟨x0, x1, x2, x3, x4, zx0, zx1, zx2, zx3, zx4, xl⟩ := RI.all IB.X))
     exact bodyPost_ret (v := .tuple #[.agg #[.int .u8 0, .int .u8 0, .int .u8 0, .int .u8 0], .agg #[.int .i64 0, .int .i64 0, .slice none 0 0, .int .i64 2, .int .i64 (a1 : Int)]]) (by simp [results, Tryz.results45, go_sem, c0, c1, c2, c3, x0, x1, x2, x3, x4]) rfl (by rw [HR2.out]; exact ⟨Below.st5 (Below.st4 IB.B (Nat.le_succ _)) (by omega), rfl⟩)
    ·rw [if_neg hVM] at hrs
     have hrs2 : rsmpsR s 2 M g' (a1 + 2) (l ++ [smp8 (beN s a1 2) M]) = Q := hrs
     generalize beN s a1 2 = V at hVM HBE hrs2
     have hVI : ¬ (M : Int) < (V : Int) := by omega
     have HM0 := fun w => refMax_any (V : Int) (M : Int) w (smay_iff.2 ⟨by omega, by omega, by omega, by omega⟩)
     rw [smp8_is hM1 (by omega)] at HM0
     generalize smp8 V M = z at HM0 hrs2
     have HMX := Lib.hid HM0
     have HRX := Lib.hid hrs2
     have hlen : (dV l).length < 1099511627776 := by rw [dV_len, HLL.out]; omega
     clear hrs hrs2 HRS HM0
     go_upto_region 16 with (go_at_call 72; refine (HBE.out _).mono ?_; rintro e w7 ⟨rfl, rfl⟩)
     have hbs : w.heap.size ≤ (wr.alloc (.cells #[.int .i64 (z.toNat : Int)] 3)).heap.size := by have := HJ.out.B.size; simp; omega
     go_wp2_with (first
      | (go_at_call 34; refine (HMX.out _).mono ?_; rintro e w9 ⟨rfl, rfl⟩)
      | (at_builtin; refine wpList_append_one rfl (.tmp 61) (.tmp 66) 61 3 rfl (.int .i64 0) 8 Tryz.underlying61 infoInt3 rfl (by decide) w.heap.size _ (dV l) rfl (HJ.out.alloc _).P _ rfl (.int .i64 (z.toNat : Int)) (cell_new _ _ _ 0 _ rfl) rfl hlen hbs ?_; intro v4 w4 o4 b4 g4))
     have HT4 := Lib.hid ((HJ.out.alloc (.cells #[.int .i64 (z.toNat : Int)] 3)).take o4 b4 g4)
     clear o4 b4 g4 HJ
     go_roundg g'
     case measure => omega
     case rel => exact ⟨k + 1, a1 + 2, l ++ [z], by omega, by go_num, by rw [List.length_append, HLL.out]; rfl, by have := HAT.out.2; omega, HRX, HT4⟩
   ·rw [if_neg hin] at hrs
    have hinI : (s.size : Int) < (a1 : Int) + 2 := by omega
    have HR2 : Hid (rpixR s 5 2 M a0 = .inl (1, s.size)) := Lib.hid (by rw [rpixR_five s 5 2 M a0 (by decide), HRQ.out, ← hrs]; rfl)
    clear hrs HRS HRQ
    go_wp2_with (go_at_call 32; refine (refBadC _ _ _).mono ?_; rintro e wb ⟨rfl, bb⟩; have IB := HJ.out.below bb; obtain ⟨c0, c1, c2, c3, y0, y1, y2, y3, cl⟩ := CB.all5 IB.C; obtain ⟨x0, x1, x2, x3, x4, zx0, zx1, zx2, zx3, zx4, xl⟩ := RI.all IB.X)
    exact bodyPost_ret (v := .tuple #[.agg #[.int .u8 0, .int .u8 0, .int .u8 0, .int .u8 0], .agg #[.int .i64 0, .int .i64 0, .slice none 0 0, .int .i64 1, .int .i64 (s.size : Int)]]) (by simp [results, Tryz.results45, go_sem, c0, c1, c2, c3, x0, x1, x2, x3, x4]) rfl (by rw [HR2.out]; exact ⟨Below.st5 (Below.st4 IB.B (Nat.le_succ _)) (by omega), rfl⟩)
  ·obtain rfl : k = 1 := by omega
   obtain rfl : gk = 0 := by omega
   have hrs := HRS.out
   unfold rsmpsR at hrs
   obtain ⟨y, rfl⟩ : ∃ y, l = [y] := by
    have := HLL.out
    match l with
    | [y] => exact ⟨y, rfl⟩
   obtain ⟨lb, cap, rfl⟩ : ∃ lb cap, u12 = .slice (some ⟨lb, 0, none⟩) 1 cap := by
    rcases HJ.out.P.form with ⟨_, h⟩ | ⟨g, cap, h, _⟩
    ·exact absurd (congrArg List.length h) (by simp [dV])
    ·exact ⟨g, cap, h⟩
   have l0 := (row_s HJ.out.P 0 y rfl)
   have HG0 := fun w => refGrayQ (v := y.toNat) (by have := y.toNat_lt; omega) w
   rw [show UInt8.ofNat y.toNat = y by simp] at HG0
   have HR2 : Hid (rpixR s 5 2 M a0 = .inr (grayQ y, a1)) := Lib.hid (by rw [rpixR_five s 5 2 M a0 (by decide), HRQ.out, ← hrs]; rfl)
   generalize grayQ y = c at HG0 HR2
   unfold Qc.v at HG0
   have HG := Lib.hid HG0
   clear HG0 HLL hrs HRS HRQ
   go_wp2_with (go_at_call 33; refine (HG.out _).mono ?_; rintro e w8 ⟨rfl, b8⟩; have I8 := HJ.out.below b8; obtain ⟨c0, c1, c2, c3, y0, y1, y2, y3, cl⟩ := CB.all5 I8.C; obtain ⟨x0, x1, x2, x3, x4, zx0, zx1, zx2, zx3, zx4, xl⟩ := RI.all I8.X)
   exact bodyPost_ret (v := .tuple #[.agg #[.int .u8 (c.r.toNat : Int), .int .u8 (c.g.toNat : Int), .int .u8 (c.b.toNat : Int), .int .u8 (c.a.toNat : Int)], .agg #[.int .i64 0, .int .i64 0, .slice none 0 0, .int .i64 0, .int .i64 0]]) (by simp [results, Tryz.results45, go_sem, c0, c1, c2, c3, x0, x1, x2, x3, x4]) rfl (by rw [HR2.out]; exact ⟨Below.st5 (Below.st4 I8.B (Nat.le_succ _)) (by omega), rfl⟩)
set_option maxRecDepth 100000 in
set_option maxHeartbeats 8000000 in
theorem refRpix61 {s : ByteArray} {W H M n fr x a0 : Nat} {frI : Int} (hfI : frI = (fr : Int)) (hsm : s.size ≤ 1099511627776) (hM : 1 ≤ M ∧ M ≤ 65535) (hbI : ¬ (255 : Int) < (M : Int)) (hx : x ≤ 16384) (hf : fr ≤ 2199023255552) (ha : a0 = fr + x * 3 * 1) (w : World) : Calls Tryz.prog 45 #[.string s, .agg #[.int .i64 6, .int .i64 (W : Int), .int .i64 (H : Int), .int .i64 (M : Int), .int .i64 (n : Int), .int .i64 0, .int .i64 0], .int .i64 frI, .int .i64 (x : Int)] w fun e w' => Below w.heap.size w w' ∧ e = .returned (rpixV (rpixR s 6 1 M a0)) := by
 subst hfI
 have hM1 := hM.1
 have hM2 := hM.2
 have hsB : (s.size : Int) ≤ 1099511627776 := by omega
 have I0' : RpI w (((w.alloc (.cells #[.int .i64 6, .int .i64 (W : Int), .int .i64 (H : Int), .int .i64 (M : Int), .int .i64 (n : Int), .int .i64 0, .int .i64 0] 24)).alloc (.cells #[.int .u8 0, .int .u8 0, .int .u8 0, .int .u8 0] 59)).alloc (.cells #[.int .i64 0, .int .i64 0, .slice none 0 0, .int .i64 0, .int .i64 0] 28)) 6 W H M n (.slice none 0 0) [] :=
  ⟨Blk.alloc (Blk.alloc (Blk.new _ _ _) _) _, Blk.alloc (Blk.new_at _ _ _ (by simp)) _, Blk.new_at _ _ _ (by simp), World.ownsRow_nil _ _ _ _, (((Below.refl _ _).alloc (Nat.le_refl _) _).alloc (by simp) _).alloc (by simp; omega) _⟩
 obtain ⟨Q, hQ⟩ : ∃ Q, rsmpsR s 1 M 3 a0 [] = Q := ⟨_, rfl⟩
 have HRQ := Lib.hid hQ
 have HA0 := Lib.hid ha
 clear ha hQ
 go_enter Tryz.func45, Tryz.ntmps45
 go_upto_region 1 with fail
 generalize ((w.alloc (.cells #[.int .i64 6, .int .i64 (W : Int), .int .i64 (H : Int), .int .i64 (M : Int), .int .i64 (n : Int), .int .i64 0, .int .i64 0] 24)).alloc (.cells #[.int .u8 0, .int .u8 0, .int .u8 0, .int .u8 0] 59)).alloc (.cells #[.int .i64 0, .int .i64 0, .slice none 0 0, .int .i64 0, .int .i64 0] 28) = w5 at I0' ⊢
 obtain ⟨h0, h3⟩ := I0'.head
 go_upto_region 2 with fail
 go_upto_region 6 with fail
 go_upto_region 7 with fail
 have hws : w.heap.size ≤ w5.heap.size := I0'.B.size
 have J0 : RpI w (w5.alloc (.cells #[] 3)) 6 W H M n (.slice (some ⟨w5.heap.size, 0, none⟩) 0 0) [] := by
  have h := I0'.alloc (.cells #[] 3)
  exact ⟨h.Hd, h.C, h.X, Owns1.empty3 hws, h.B⟩
 clear h0 h3 I0'
 generalize w5.alloc (.cells #[] 3) = w6 at J0 ⊢
 generalize w5.heap.size = lb0 at J0 hws ⊢
 have HJ0 := Lib.hid J0
 obtain ⟨h0, h3⟩ := J0.head
 clear J0
 go_upto_region 8 with fail
 clear h0 h3
 go_loopg [12, 13, 14, 15] 3 (fun gh v12 v13 v14 v15 wr => ∃ (k a : Nat) (l : List UInt8), k + gh = 3 ∧ v13 = .int .i64 (k : Int) ∧ l.length = k ∧ a = a0 + k * 1 ∧ Hid (rsmpsR s 1 M gh a l = Q) ∧ Hid (RpI w wr 6 W H M n v12 l))
 case atStart => exact ⟨0, a0, [], by omega, rfl, rfl, by omega, HRQ, HJ0⟩
 case round =>
  obtain ⟨k, a1, l, hk, rfl, hl, hal, HRS, HJ⟩ := hrel
  clear HJ0
  obtain ⟨h0, h3⟩ := HJ.out.head
  have HLL := Lib.hid hl
  clear hl
  by_cases hkc : k < 3
  ·have hkI : (k : Int) < 3 := by omega
   obtain ⟨g', rfl⟩ : ∃ g', gk = g' + 1 := ⟨gk - 1, by omega⟩
   have hat : (fr : Int) + ((x : Int) * 3 + (k : Int)) = (a1 : Int) := by have := HA0.out; omega
   have hrs := HRS.out
   unfold rsmpsR rsmpR at hrs
   have HAT := Lib.hid (And.intro trivial hal)
   clear hal
   go_upto_region 11 with fail
   by_cases hin : a1 + 1 ≤ s.size
   ·rw [if_pos hin] at hrs
    have hinI : ¬ (s.size : Int) < (a1 : Int) + 1 := by omega
    have HBE := Lib.hid (fun w => refBe_at (s := s) (a := a1) (n := 1) hin (by omega) rfl w)
    by_cases hVM : M < beN s a1 1
    ·rw [if_pos hVM] at hrs
     have HR2 : Hid (rpixR s 6 1 M a0 = .inl (2, a1)) := Lib.hid (by rw [rpixR_six s 1 M a0, HRQ.out, ← hrs]; rfl)
     clear hrs HRS HRQ
     generalize beN s a1 1 = V at hVM HBE
     have hVI : (M : Int) < (V : Int) := by omega
     go_wp2_with (first
      | (go_at_call 72; refine (HBE.out _).mono ?_; rintro e w7 ⟨rfl, rfl⟩)
      | (go_at_call 32; refine (refBadC _ _ _).mono ?_; rintro e wb ⟨rfl, bb⟩; have IB := HJ.out.below bb; obtain ⟨c0, c1, c2, c3, y0, y1, y2, y3, cl⟩ := CB.all5 IB.C; obtain ⟨x0, x1, x2, x3, x4, zx0, zx1, zx2, zx3, zx4, xl⟩ := RI.all IB.X))
     exact bodyPost_ret (v := .tuple #[.agg #[.int .u8 0, .int .u8 0, .int .u8 0, .int .u8 0], .agg #[.int .i64 0, .int .i64 0, .slice none 0 0, .int .i64 2, .int .i64 (a1 : Int)]]) (by simp [results, Tryz.results45, go_sem, c0, c1, c2, c3, x0, x1, x2, x3, x4]) rfl (by rw [HR2.out]; exact ⟨Below.st5 (Below.st4 IB.B (Nat.le_succ _)) (by omega), rfl⟩)
    ·rw [if_neg hVM] at hrs
     have hrs2 : rsmpsR s 1 M g' (a1 + 1) (l ++ [smp8 (beN s a1 1) M]) = Q := hrs
     generalize beN s a1 1 = V at hVM HBE hrs2
     have hVI : ¬ (M : Int) < (V : Int) := by omega
     have HM0 := fun w => refMax_any (V : Int) (M : Int) w (smay_iff.2 ⟨by omega, by omega, by omega, by omega⟩)
     rw [smp8_is hM1 (by omega)] at HM0
     generalize smp8 V M = z at HM0 hrs2
     have HMX := Lib.hid HM0
     have HRX := Lib.hid hrs2
     have hlen : (dV l).length < 1099511627776 := by rw [dV_len, HLL.out]; omega
     clear hrs hrs2 HRS HM0
     go_upto_region 16 with (go_at_call 72; refine (HBE.out _).mono ?_; rintro e w7 ⟨rfl, rfl⟩)
     have hbs : w.heap.size ≤ (wr.alloc (.cells #[.int .i64 (z.toNat : Int)] 3)).heap.size := by have := HJ.out.B.size; simp; omega
     go_wp2_with (first
      | (go_at_call 34; refine (HMX.out _).mono ?_; rintro e w9 ⟨rfl, rfl⟩)
      | (at_builtin; refine wpList_append_one rfl (.tmp 61) (.tmp 66) 61 3 rfl (.int .i64 0) 8 Tryz.underlying61 infoInt3 rfl (by decide) w.heap.size _ (dV l) rfl (HJ.out.alloc _).P _ rfl (.int .i64 (z.toNat : Int)) (cell_new _ _ _ 0 _ rfl) rfl hlen hbs ?_; intro v4 w4 o4 b4 g4))
     have HT4 := Lib.hid ((HJ.out.alloc (.cells #[.int .i64 (z.toNat : Int)] 3)).take o4 b4 g4)
     clear o4 b4 g4 HJ
     go_roundg g'
     case measure => omega
     case rel => exact ⟨k + 1, a1 + 1, l ++ [z], by omega, by go_num, by rw [List.length_append, HLL.out]; rfl, by have := HAT.out.2; omega, HRX, HT4⟩
   ·rw [if_neg hin] at hrs
    have hinI : (s.size : Int) < (a1 : Int) + 1 := by omega
    have HR2 : Hid (rpixR s 6 1 M a0 = .inl (1, s.size)) := Lib.hid (by rw [rpixR_six s 1 M a0, HRQ.out, ← hrs]; rfl)
    clear hrs HRS HRQ
    go_wp2_with (go_at_call 32; refine (refBadC _ _ _).mono ?_; rintro e wb ⟨rfl, bb⟩; have IB := HJ.out.below bb; obtain ⟨c0, c1, c2, c3, y0, y1, y2, y3, cl⟩ := CB.all5 IB.C; obtain ⟨x0, x1, x2, x3, x4, zx0, zx1, zx2, zx3, zx4, xl⟩ := RI.all IB.X)
    exact bodyPost_ret (v := .tuple #[.agg #[.int .u8 0, .int .u8 0, .int .u8 0, .int .u8 0], .agg #[.int .i64 0, .int .i64 0, .slice none 0 0, .int .i64 1, .int .i64 (s.size : Int)]]) (by simp [results, Tryz.results45, go_sem, c0, c1, c2, c3, x0, x1, x2, x3, x4]) rfl (by rw [HR2.out]; exact ⟨Below.st5 (Below.st4 IB.B (Nat.le_succ _)) (by omega), rfl⟩)
  ·obtain rfl : k = 3 := by omega
   obtain rfl : gk = 0 := by omega
   have hrs := HRS.out
   unfold rsmpsR at hrs
   obtain ⟨y0, y1, y2, rfl⟩ : ∃ y0 y1 y2, l = [y0, y1, y2] := by
    have := HLL.out
    match l with
    | [y0, y1, y2] => exact ⟨y0, y1, y2, rfl⟩
   obtain ⟨lb, cap, rfl⟩ : ∃ lb cap, u12 = .slice (some ⟨lb, 0, none⟩) 3 cap := by
    rcases HJ.out.P.form with ⟨_, h⟩ | ⟨g, cap, h, _⟩
    ·exact absurd (congrArg List.length h) (by simp [dV])
    ·exact ⟨g, cap, h⟩
   have hx8 : IntKind.u8.wrap (y0.toNat : Int) = (y0.toNat : Int) := by have := y0.toNat_lt; exact IntWalk.u8_in _ (by omega)
   have hy8 : IntKind.u8.wrap (y1.toNat : Int) = (y1.toNat : Int) := by have := y1.toNat_lt; exact IntWalk.u8_in _ (by omega)
   have hz8 : IntKind.u8.wrap (y2.toNat : Int) = (y2.toNat : Int) := by have := y2.toNat_lt; exact IntWalk.u8_in _ (by omega)
   have HR2 : Hid (rpixR s 6 1 M a0 = .inr (⟨y0, y1, y2, 255⟩, a1)) := Lib.hid (by rw [rpixR_six s 1 M a0, HRQ.out, ← hrs]; rfl)
   clear HLL hrs HRS HRQ
   go_upto_region 19 with fail
   refine dwp_gen (S := fun wx => RpI w wx 6 W H M n (.slice (some ⟨lb, 0, none⟩) 3 cap) [y0, y1, y2]) (by exact HJ.out) (fun wx hX => ?_)
   have HX := Lib.hid hX
   have l0 := (row_s hX.P 0 y0 rfl)
   have l1 := (row_s hX.P 1 y1 rfl)
   have l2 := (row_s hX.P 2 y2 rfl)
   obtain ⟨c0, c1, c2, c3, v0, v1, v2, v3, cl⟩ := CB.all5 hX.C
   obtain ⟨x0, x1, x2, x3, x4, zx0, zx1, zx2, zx3, zx4, xl⟩ := RI.all hX.X
   clear h0 h3 HJ hX
   go_region
   all_goals go_wp2_with fail
   exact bodyPost_ret (v := .tuple #[.agg #[.int .u8 (y0.toNat : Int), .int .u8 (y1.toNat : Int), .int .u8 (y2.toNat : Int), .int .u8 255], .agg #[.int .i64 0, .int .i64 0, .slice none 0 0, .int .i64 0, .int .i64 0]]) (by simp [results, Tryz.results45, go_sem, c0, c1, c2, c3, x0, x1, x2, x3, x4]) rfl (by rw [HR2.out]; exact ⟨(Below.st5 (Below.st4 HX.out.B (Nat.le_succ _)) (by omega)).drew, rfl⟩)
set_option maxRecDepth 100000 in
set_option maxHeartbeats 8000000 in
theorem refRpix62 {s : ByteArray} {W H M n fr x a0 : Nat} {frI : Int} (hfI : frI = (fr : Int)) (hsm : s.size ≤ 1099511627776) (hM : 1 ≤ M ∧ M ≤ 65535) (hbI : (255 : Int) < (M : Int)) (hx : x ≤ 16384) (hf : fr ≤ 2199023255552) (ha : a0 = fr + x * 3 * 2) (w : World) : Calls Tryz.prog 45 #[.string s, .agg #[.int .i64 6, .int .i64 (W : Int), .int .i64 (H : Int), .int .i64 (M : Int), .int .i64 (n : Int), .int .i64 0, .int .i64 0], .int .i64 frI, .int .i64 (x : Int)] w fun e w' => Below w.heap.size w w' ∧ e = .returned (rpixV (rpixR s 6 2 M a0)) := by
 subst hfI
 have hM1 := hM.1
 have hM2 := hM.2
 have hsB : (s.size : Int) ≤ 1099511627776 := by omega
 have I0' : RpI w (((w.alloc (.cells #[.int .i64 6, .int .i64 (W : Int), .int .i64 (H : Int), .int .i64 (M : Int), .int .i64 (n : Int), .int .i64 0, .int .i64 0] 24)).alloc (.cells #[.int .u8 0, .int .u8 0, .int .u8 0, .int .u8 0] 59)).alloc (.cells #[.int .i64 0, .int .i64 0, .slice none 0 0, .int .i64 0, .int .i64 0] 28)) 6 W H M n (.slice none 0 0) [] :=
  ⟨Blk.alloc (Blk.alloc (Blk.new _ _ _) _) _, Blk.alloc (Blk.new_at _ _ _ (by simp)) _, Blk.new_at _ _ _ (by simp), World.ownsRow_nil _ _ _ _, (((Below.refl _ _).alloc (Nat.le_refl _) _).alloc (by simp) _).alloc (by simp; omega) _⟩
 obtain ⟨Q, hQ⟩ : ∃ Q, rsmpsR s 2 M 3 a0 [] = Q := ⟨_, rfl⟩
 have HRQ := Lib.hid hQ
 have HA0 := Lib.hid ha
 clear ha hQ
 go_enter Tryz.func45, Tryz.ntmps45
 go_upto_region 1 with fail
 generalize ((w.alloc (.cells #[.int .i64 6, .int .i64 (W : Int), .int .i64 (H : Int), .int .i64 (M : Int), .int .i64 (n : Int), .int .i64 0, .int .i64 0] 24)).alloc (.cells #[.int .u8 0, .int .u8 0, .int .u8 0, .int .u8 0] 59)).alloc (.cells #[.int .i64 0, .int .i64 0, .slice none 0 0, .int .i64 0, .int .i64 0] 28) = w5 at I0' ⊢
 obtain ⟨h0, h3⟩ := I0'.head
 go_upto_region 2 with fail
 go_upto_region 6 with fail
 go_upto_region 7 with fail
 have hws : w.heap.size ≤ w5.heap.size := I0'.B.size
 have J0 : RpI w (w5.alloc (.cells #[] 3)) 6 W H M n (.slice (some ⟨w5.heap.size, 0, none⟩) 0 0) [] := by
  have h := I0'.alloc (.cells #[] 3)
  exact ⟨h.Hd, h.C, h.X, Owns1.empty3 hws, h.B⟩
 clear h0 h3 I0'
 generalize w5.alloc (.cells #[] 3) = w6 at J0 ⊢
 generalize w5.heap.size = lb0 at J0 hws ⊢
 have HJ0 := Lib.hid J0
 obtain ⟨h0, h3⟩ := J0.head
 clear J0
 go_upto_region 8 with fail
 clear h0 h3
 go_loopg [12, 13, 14, 15] 3 (fun gh v12 v13 v14 v15 wr => ∃ (k a : Nat) (l : List UInt8), k + gh = 3 ∧ v13 = .int .i64 (k : Int) ∧ l.length = k ∧ a = a0 + k * 2 ∧ Hid (rsmpsR s 2 M gh a l = Q) ∧ Hid (RpI w wr 6 W H M n v12 l))
 case atStart => exact ⟨0, a0, [], by omega, rfl, rfl, by omega, HRQ, HJ0⟩
 case round =>
  obtain ⟨k, a1, l, hk, rfl, hl, hal, HRS, HJ⟩ := hrel
  clear HJ0
  obtain ⟨h0, h3⟩ := HJ.out.head
  have HLL := Lib.hid hl
  clear hl
  by_cases hkc : k < 3
  ·have hkI : (k : Int) < 3 := by omega
   obtain ⟨g', rfl⟩ : ∃ g', gk = g' + 1 := ⟨gk - 1, by omega⟩
   have hat : (fr : Int) + ((x : Int) * 3 + (k : Int)) * 2 = (a1 : Int) := by have := HA0.out; omega
   have hrs := HRS.out
   unfold rsmpsR rsmpR at hrs
   have HAT := Lib.hid (And.intro trivial hal)
   clear hal
   go_upto_region 11 with fail
   by_cases hin : a1 + 2 ≤ s.size
   ·rw [if_pos hin] at hrs
    have hinI : ¬ (s.size : Int) < (a1 : Int) + 2 := by omega
    have HBE := Lib.hid (fun w => refBe_at (s := s) (a := a1) (n := 2) hin (by omega) rfl w)
    by_cases hVM : M < beN s a1 2
    ·rw [if_pos hVM] at hrs
     have HR2 : Hid (rpixR s 6 2 M a0 = .inl (2, a1)) := Lib.hid (by rw [rpixR_six s 2 M a0, HRQ.out, ← hrs]; rfl)
     clear hrs HRS HRQ
     generalize beN s a1 2 = V at hVM HBE
     have hVI : (M : Int) < (V : Int) := by omega
     go_wp2_with (first
      | (go_at_call 72; refine (HBE.out _).mono ?_; rintro e w7 ⟨rfl, rfl⟩)
      | (go_at_call 32; refine (refBadC _ _ _).mono ?_; rintro e wb ⟨rfl, bb⟩; have IB := HJ.out.below bb; obtain ⟨c0, c1, c2, c3, y0, y1, y2, y3, cl⟩ := CB.all5 IB.C; obtain ⟨x0, x1, x2, x3, x4, zx0, zx1, zx2, zx3, zx4, xl⟩ := RI.all IB.X))
     exact bodyPost_ret (v := .tuple #[.agg #[.int .u8 0, .int .u8 0, .int .u8 0, .int .u8 0], .agg #[.int .i64 0, .int .i64 0, .slice none 0 0, .int .i64 2, .int .i64 (a1 : Int)]]) (by simp [results, Tryz.results45, go_sem, c0, c1, c2, c3, x0, x1, x2, x3, x4]) rfl (by rw [HR2.out]; exact ⟨Below.st5 (Below.st4 IB.B (Nat.le_succ _)) (by omega), rfl⟩)
    ·rw [if_neg hVM] at hrs
     have hrs2 : rsmpsR s 2 M g' (a1 + 2) (l ++ [smp8 (beN s a1 2) M]) = Q := hrs
     generalize beN s a1 2 = V at hVM HBE hrs2
     have hVI : ¬ (M : Int) < (V : Int) := by omega
     have HM0 := fun w => refMax_any (V : Int) (M : Int) w (smay_iff.2 ⟨by omega, by omega, by omega, by omega⟩)
     rw [smp8_is hM1 (by omega)] at HM0
     generalize smp8 V M = z at HM0 hrs2
     have HMX := Lib.hid HM0
     have HRX := Lib.hid hrs2
     have hlen : (dV l).length < 1099511627776 := by rw [dV_len, HLL.out]; omega
     clear hrs hrs2 HRS HM0
     go_upto_region 16 with (go_at_call 72; refine (HBE.out _).mono ?_; rintro e w7 ⟨rfl, rfl⟩)
     have hbs : w.heap.size ≤ (wr.alloc (.cells #[.int .i64 (z.toNat : Int)] 3)).heap.size := by have := HJ.out.B.size; simp; omega
     go_wp2_with (first
      | (go_at_call 34; refine (HMX.out _).mono ?_; rintro e w9 ⟨rfl, rfl⟩)
      | (at_builtin; refine wpList_append_one rfl (.tmp 61) (.tmp 66) 61 3 rfl (.int .i64 0) 8 Tryz.underlying61 infoInt3 rfl (by decide) w.heap.size _ (dV l) rfl (HJ.out.alloc _).P _ rfl (.int .i64 (z.toNat : Int)) (cell_new _ _ _ 0 _ rfl) rfl hlen hbs ?_; intro v4 w4 o4 b4 g4))
     have HT4 := Lib.hid ((HJ.out.alloc (.cells #[.int .i64 (z.toNat : Int)] 3)).take o4 b4 g4)
     clear o4 b4 g4 HJ
     go_roundg g'
     case measure => omega
     case rel => exact ⟨k + 1, a1 + 2, l ++ [z], by omega, by go_num, by rw [List.length_append, HLL.out]; rfl, by have := HAT.out.2; omega, HRX, HT4⟩
   ·rw [if_neg hin] at hrs
    have hinI : (s.size : Int) < (a1 : Int) + 2 := by omega
    have HR2 : Hid (rpixR s 6 2 M a0 = .inl (1, s.size)) := Lib.hid (by rw [rpixR_six s 2 M a0, HRQ.out, ← hrs]; rfl)
    clear hrs HRS HRQ
    go_wp2_with (go_at_call 32; refine (refBadC _ _ _).mono ?_; rintro e wb ⟨rfl, bb⟩; have IB := HJ.out.below bb; obtain ⟨c0, c1, c2, c3, y0, y1, y2, y3, cl⟩ := CB.all5 IB.C; obtain ⟨x0, x1, x2, x3, x4, zx0, zx1, zx2, zx3, zx4, xl⟩ := RI.all IB.X)
    exact bodyPost_ret (v := .tuple #[.agg #[.int .u8 0, .int .u8 0, .int .u8 0, .int .u8 0], .agg #[.int .i64 0, .int .i64 0, .slice none 0 0, .int .i64 1, .int .i64 (s.size : Int)]]) (by simp [results, Tryz.results45, go_sem, c0, c1, c2, c3, x0, x1, x2, x3, x4]) rfl (by rw [HR2.out]; exact ⟨Below.st5 (Below.st4 IB.B (Nat.le_succ _)) (by omega), rfl⟩)
  ·obtain rfl : k = 3 := by omega
   obtain rfl : gk = 0 := by omega
   have hrs := HRS.out
   unfold rsmpsR at hrs
   obtain ⟨y0, y1, y2, rfl⟩ : ∃ y0 y1 y2, l = [y0, y1, y2] := by
    have := HLL.out
    match l with
    | [y0, y1, y2] => exact ⟨y0, y1, y2, rfl⟩
   obtain ⟨lb, cap, rfl⟩ : ∃ lb cap, u12 = .slice (some ⟨lb, 0, none⟩) 3 cap := by
    rcases HJ.out.P.form with ⟨_, h⟩ | ⟨g, cap, h, _⟩
    ·exact absurd (congrArg List.length h) (by simp [dV])
    ·exact ⟨g, cap, h⟩
   have hx8 : IntKind.u8.wrap (y0.toNat : Int) = (y0.toNat : Int) := by have := y0.toNat_lt; exact IntWalk.u8_in _ (by omega)
   have hy8 : IntKind.u8.wrap (y1.toNat : Int) = (y1.toNat : Int) := by have := y1.toNat_lt; exact IntWalk.u8_in _ (by omega)
   have hz8 : IntKind.u8.wrap (y2.toNat : Int) = (y2.toNat : Int) := by have := y2.toNat_lt; exact IntWalk.u8_in _ (by omega)
   have HR2 : Hid (rpixR s 6 2 M a0 = .inr (⟨y0, y1, y2, 255⟩, a1)) := Lib.hid (by rw [rpixR_six s 2 M a0, HRQ.out, ← hrs]; rfl)
   clear HLL hrs HRS HRQ
   go_upto_region 19 with fail
   refine dwp_gen (S := fun wx => RpI w wx 6 W H M n (.slice (some ⟨lb, 0, none⟩) 3 cap) [y0, y1, y2]) (by exact HJ.out) (fun wx hX => ?_)
   have HX := Lib.hid hX
   have l0 := (row_s hX.P 0 y0 rfl)
   have l1 := (row_s hX.P 1 y1 rfl)
   have l2 := (row_s hX.P 2 y2 rfl)
   obtain ⟨c0, c1, c2, c3, v0, v1, v2, v3, cl⟩ := CB.all5 hX.C
   obtain ⟨x0, x1, x2, x3, x4, zx0, zx1, zx2, zx3, zx4, xl⟩ := RI.all hX.X
   clear h0 h3 HJ hX
   go_region
   all_goals go_wp2_with fail
   exact bodyPost_ret (v := .tuple #[.agg #[.int .u8 (y0.toNat : Int), .int .u8 (y1.toNat : Int), .int .u8 (y2.toNat : Int), .int .u8 255], .agg #[.int .i64 0, .int .i64 0, .slice none 0 0, .int .i64 0, .int .i64 0]]) (by simp [results, Tryz.results45, go_sem, c0, c1, c2, c3, x0, x1, x2, x3, x4]) rfl (by rw [HR2.out]; exact ⟨(Below.st5 (Below.st4 HX.out.B (Nat.le_succ _)) (by omega)).drew, rfl⟩)
theorem refRpix5 {s : ByteArray} {W H M n fr x q a0 : Nat} {frI : Int} (hfI : frI = (fr : Int)) (hsm : s.size ≤ 1099511627776) (hM : 1 ≤ M ∧ M ≤ 65535) (hq : q = if 255 < M then 2 else 1) (hx : x ≤ 16384) (hf : fr ≤ 2199023255552) (ha : a0 = fr + x * 1 * q) (w : World) : Calls Tryz.prog 45 #[.string s, .agg #[.int .i64 5, .int .i64 (W : Int), .int .i64 (H : Int), .int .i64 (M : Int), .int .i64 (n : Int), .int .i64 0, .int .i64 0], .int .i64 frI, .int .i64 (x : Int)] w fun e w' => Below w.heap.size w w' ∧ e = .returned (rpixV (rpixR s 5 q M a0)) := by
 by_cases h : 255 < M
 ·rw [if_pos h] at hq
  subst hq
  exact refRpix52 hfI hsm hM (by omega) hx hf ha w
 ·rw [if_neg h] at hq
  subst hq
  exact refRpix51 hfI hsm hM (by omega) hx hf ha w
theorem refRpix6 {s : ByteArray} {W H M n fr x q a0 : Nat} {frI : Int} (hfI : frI = (fr : Int)) (hsm : s.size ≤ 1099511627776) (hM : 1 ≤ M ∧ M ≤ 65535) (hq : q = if 255 < M then 2 else 1) (hx : x ≤ 16384) (hf : fr ≤ 2199023255552) (ha : a0 = fr + x * 3 * q) (w : World) : Calls Tryz.prog 45 #[.string s, .agg #[.int .i64 6, .int .i64 (W : Int), .int .i64 (H : Int), .int .i64 (M : Int), .int .i64 (n : Int), .int .i64 0, .int .i64 0], .int .i64 frI, .int .i64 (x : Int)] w fun e w' => Below w.heap.size w w' ∧ e = .returned (rpixV (rpixR s 6 q M a0)) := by
 by_cases h : 255 < M
 ·rw [if_pos h] at hq
  subst hq
  exact refRpix62 hfI hsm hM (by omega) hx hf ha w
 ·rw [if_neg h] at hq
  subst hq
  exact refRpix61 hfI hsm hM (by omega) hx hf ha w
end Go.Proofs.YtgmgcfjllijhgaaGreat
