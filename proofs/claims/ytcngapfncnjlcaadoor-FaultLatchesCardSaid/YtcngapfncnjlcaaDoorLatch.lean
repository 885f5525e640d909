/- fault: the latch. -/
import Derived.Test.YtcngapfncnjlcaaDoorWords
import Derived.Test.YtcngapfncnjlcaaDoorSync
namespace Go.Proofs.YtcngapfncnjlcaaDoor
open Go.RowKit
set_option linter.unusedVariables false
set_option linter.unusedSimpArgs false

/-- a latch: is a fault kept, and which -/
def LT (w : World) (x : Nat) (d k f a : Int) : Prop := Blk w x 44 #[.int .u32 d, .int .i32 0, .int .u32 0, .int .u32 d, .int .i64 k, .int .i64 f, .int .i64 a]
theorem LT.all {w : World} {x : Nat} {d k f a : Int} (h : LT w x d k f a) : w.cell? ⟨x, 0, none⟩ = some (.int .u32 d) ∧ w.cell? ⟨x, 1, none⟩ = some (.int .i32 0) ∧ w.cell? ⟨x, 3, none⟩ = some (.int .u32 d) ∧ w.cell? ⟨x, 4, none⟩ = some (.int .i64 k) ∧ w.cell? ⟨x, 5, none⟩ = some (.int .i64 f) ∧ w.cell? ⟨x, 6, none⟩ = some (.int .i64 a) ∧ x < w.heap.size :=
  ⟨Blk.cell h 0, Blk.cell h 1, Blk.cell h 3, Blk.cell h 4, Blk.cell h 5, Blk.cell h 6, Blk.lt h⟩
theorem newLatch (w : World) : Calls Tryd.prog 4 #[] w fun e w' => e = .returned (.pointer (some ⟨w.heap.size, 0, none⟩)) ∧ LT w' w.heap.size 0 0 0 0 ∧ Below w.heap.size w w' := by
  go_enter Tryd.func4, Tryd.ntmps4
  go_wp2_with fail
  go_ret
  exact ⟨rfl, Blk.new _ _ _, (Below.refl _ _).alloc (Nat.le_refl _) _⟩
theorem latchIs {w : World} {x : Nat} {d k f a : Int} {b : Bool} (h : LT w x d k f a) (hb : (d != 0) = b) : Calls Tryd.prog 7 #[.pointer (some ⟨x, 0, none⟩)] w fun e w' => e = .returned (.bool b) ∧ w = w' := by
  obtain ⟨c0, c1, c3, c4, c5, c6, cl⟩ := LT.all h
  clear h
  go_enter Tryd.func7, Tryd.ntmps7
  go_wp2_with (go_at_call 13; refine (loadB _ d b _ hb c3).mono ?_; rintro e w' ⟨rfl, rfl⟩)
  go_ret
  exact ⟨rfl, rfl⟩
theorem latchGet_no {w : World} {x : Nat} (h : LT w x 0 0 0 0) : Calls Tryd.prog 8 #[.pointer (some ⟨x, 0, none⟩)] w fun e w' => e = .returned (.agg #[.int .i64 0, .int .i64 0, .int .i64 0]) ∧ Below w.heap.size w w' := by
  have A : LT (w.alloc (.cells #[.int .i64 0, .int .i64 0, .int .i64 0] 27)) x 0 0 0 0 := Blk.alloc h _
  have G : Blk (w.alloc (.cells #[.int .i64 0, .int .i64 0, .int .i64 0] 27)) w.heap.size 27 #[.int .i64 0, .int .i64 0, .int .i64 0] := Blk.new _ _ _
  have g0 := Blk.cell G 0
  have g1 := Blk.cell G 1
  have g2 := Blk.cell G 2
  have z0 := Blk.frozen G 0
  have z1 := Blk.frozen G 1
  have z2 := Blk.frozen G 2
  have HI := Lib.hid (latchIs (b := false) A rfl)
  have B : Below w.heap.size w (w.alloc (.cells #[.int .i64 0, .int .i64 0, .int .i64 0] 27)) := (Below.refl _ _).alloc (Nat.le_refl _) _
  clear h A G
  go_enter Tryd.func8, Tryd.ntmps8
  go_wp2_with (go_at_call 7; refine HI.out.mono ?_; rintro e w' ⟨rfl, rfl⟩)
  exact bodyPost_ret (v := .agg #[.int .i64 0, .int .i64 0, .int .i64 0]) (by simp [results, Tryd.results8, go_sem, g0, g1, g2]) rfl ⟨rfl, (Below.refl _ _).alloc (Nat.le_refl _) _⟩
theorem latchGet_yes {w : World} {x : Nat} {k f a : Int} (h : LT w x 1 k f a) : Calls Tryd.prog 8 #[.pointer (some ⟨x, 0, none⟩)] w fun e w' => e = .returned (.agg #[.int .i64 k, .int .i64 f, .int .i64 a]) ∧ Below w.heap.size w w' := by
  have A : LT (w.alloc (.cells #[.int .i64 0, .int .i64 0, .int .i64 0] 27)) x 1 k f a := Blk.alloc h _
  have G : Blk (w.alloc (.cells #[.int .i64 0, .int .i64 0, .int .i64 0] 27)) w.heap.size 27 #[.int .i64 0, .int .i64 0, .int .i64 0] := Blk.new _ _ _
  have g0 := Blk.cell G 0
  have g1 := Blk.cell G 1
  have g2 := Blk.cell G 2
  have z0 := Blk.frozen G 0
  have z1 := Blk.frozen G 1
  have z2 := Blk.frozen G 2
  obtain ⟨c0, c1, c3, c4, c5, c6, cl⟩ := LT.all A
  have HI := Lib.hid (latchIs (b := true) A rfl)
  have B : Below w.heap.size w (w.alloc (.cells #[.int .i64 0, .int .i64 0, .int .i64 0] 27)) := (Below.refl _ _).alloc (Nat.le_refl _) _
  clear h A G
  go_enter Tryd.func8, Tryd.ntmps8
  go_wp2_with (go_at_call 7; refine HI.out.mono ?_; rintro e w' ⟨rfl, rfl⟩)
  exact bodyPost_ret (v := .agg #[.int .i64 k, .int .i64 f, .int .i64 a]) (by simp [results, Tryd.results8, go_sem, g0, g1, g2]) rfl ⟨rfl, (Below.refl _ _).alloc (Nat.le_refl _) _⟩
/-- what is done once -/
theorem noteIn {w : World} {x fb lb kb : Nat} {k f a : Int} (hx : Blk w x 44 #[.int .u32 0, .int .i32 1, .int .u32 0, .int .u32 0, .int .i64 0, .int .i64 0, .int .i64 0]) (hf : Blk w fb 27 #[.int .i64 k, .int .i64 f, .int .i64 a]) (hl : Blk w lb 23 #[.pointer (some ⟨x, 0, none⟩)]) (hk : Blk w kb 4 #[.bool false]) :
    Calls Tryd.prog 11 #[.pointer (some ⟨fb, 0, none⟩), .pointer (some ⟨lb, 0, none⟩), .pointer (some ⟨kb, 0, none⟩)] w fun e w' => e = .returned (.tuple #[]) ∧ Blk w' x 44 #[.int .u32 0, .int .i32 1, .int .u32 0, .int .u32 1, .int .i64 k, .int .i64 f, .int .i64 a] ∧ Blk w' kb 4 #[.bool true] ∧ Turn [x, kb] w w' := by
  have n1 : x ≠ fb := Blk.ne_ hx hf (by decide)
  have n2 : x ≠ lb := Blk.ne_ hx hl (by decide)
  have n3 : x ≠ kb := Blk.ne_ hx hk (by decide)
  have n4 : kb ≠ lb := Blk.ne_ hk hl (by decide)
  have n5 : kb ≠ fb := Blk.ne_ hk hf (by decide)
  have f0 := Blk.cell hf 0
  have f1 := Blk.cell hf 1
  have f2 := Blk.cell hf 2
  have l0 := Blk.cell hl 0
  have k0 := Blk.cell hk 0
  have kz := Blk.frozen hk 0
  have x4 := Blk.cell hx 4
  have x5 := Blk.cell hx 5
  have x6 := Blk.cell hx 6
  have z4 := Blk.frozen hx 4
  have z5 := Blk.frozen hx 5
  have z6 := Blk.frozen hx 6
  have xl := Blk.lt hx
  have fl := Blk.lt hf
  have ll := Blk.lt hl
  have kl := Blk.lt hk
  have t0 : Turn [x, kb] w ((((w.setCell ⟨x, 4, none⟩ (.int .i64 k)).setCell ⟨x, 5, none⟩ (.int .i64 f)).setCell ⟨x, 6, none⟩ (.int .i64 a)).setCell ⟨kb, 0, none⟩ (.bool true)) := ((((Turn.refl _ _).set_ 4 _ (by simp)).set_ 5 _ (by simp)).set_ 6 _ (by simp)).set_ 0 _ (by simp)
  have X0 : Blk ((((w.setCell ⟨x, 4, none⟩ (.int .i64 k)).setCell ⟨x, 5, none⟩ (.int .i64 f)).setCell ⟨x, 6, none⟩ (.int .i64 a)).setCell ⟨kb, 0, none⟩ (.bool true)) x 44 #[.int .u32 0, .int .i32 1, .int .u32 0, .int .u32 0, .int .i64 k, .int .i64 f, .int .i64 a] := Blk.far ((((Blk.set_ hx 4 _).set_ 5 _).set_ 6 _).eq_ rfl) (p := ⟨kb, 0, none⟩) n3 _
  have K0 : Blk ((((w.setCell ⟨x, 4, none⟩ (.int .i64 k)).setCell ⟨x, 5, none⟩ (.int .i64 f)).setCell ⟨x, 6, none⟩ (.int .i64 a)).setCell ⟨kb, 0, none⟩ (.bool true)) kb 4 #[.bool true] := (Blk.set_ (Blk.far (Blk.far (Blk.far hk (p := ⟨x, 4, none⟩) n3.symm _) (p := ⟨x, 5, none⟩) n3.symm _) (p := ⟨x, 6, none⟩) n3.symm _) 0 _).eq_ rfl
  have L0 : Blk ((((w.setCell ⟨x, 4, none⟩ (.int .i64 k)).setCell ⟨x, 5, none⟩ (.int .i64 f)).setCell ⟨x, 6, none⟩ (.int .i64 a)).setCell ⟨kb, 0, none⟩ (.bool true)) lb 23 #[.pointer (some ⟨x, 0, none⟩)] := Blk.far (Blk.far (Blk.far (Blk.far hl (p := ⟨x, 4, none⟩) n2.symm _) (p := ⟨x, 5, none⟩) n2.symm _) (p := ⟨x, 6, none⟩) n2.symm _) (p := ⟨kb, 0, none⟩) n4.symm _
  generalize hw : (((w.setCell ⟨x, 4, none⟩ (.int .i64 k)).setCell ⟨x, 5, none⟩ (.int .i64 f)).setCell ⟨x, 6, none⟩ (.int .i64 a)).setCell ⟨kb, 0, none⟩ (.bool true) = w5 at t0 X0 K0 L0
  have y3 := Blk.cell X0 3
  have v3 := Blk.frozen X0 3
  have m0 := Blk.cell L0 0
  have HW := Lib.hid hw
  have HE := Lib.hid (And.intro t0 (And.intro X0 K0))
  clear hx hf hl hk hw t0 X0 K0 L0
  go_enter Tryd.func11, Tryd.ntmps11
  go_upto_region 1 with fail
  rw [HW.out]
  go_wp2_with (go_at_call 12; refine (storeB ⟨x, 3, none⟩ _ _ y3 v3).mono ?_; rintro e w' ⟨rfl, rfl⟩)
  go_end0
  exact ⟨rfl, (Blk.set_ (Blk.drew HE.out.2.1) 3 _).eq_ rfl, Blk.far (Blk.drew HE.out.2.2) (p := ⟨x, 3, none⟩) n3.symm _, (HE.out.1.drew).set_ 3 _ (by simp)⟩
theorem latchNote_no {w : World} {x : Nat} {f a : Int} : Calls Tryd.prog 6 #[.pointer (some ⟨x, 0, none⟩), .agg #[.int .i64 0, .int .i64 f, .int .i64 a]] w fun e w' => e = .returned (.bool false) ∧ Below w.heap.size w w' := by
  go_enter Tryd.func6, Tryd.ntmps6
  go_wp2_with fail
  go_ret
  exact ⟨rfl, (((Below.refl _ _).alloc (Nat.le_refl _) _).alloc (by simp) _).alloc (by simp; omega) _⟩
theorem latchNote_done {w : World} {x : Nat} {k f a k0 f0 a0 : Int} (h : LT w x 1 k0 f0 a0) (hk : k ≠ 0) : Calls Tryd.prog 6 #[.pointer (some ⟨x, 0, none⟩), .agg #[.int .i64 k, .int .i64 f, .int .i64 a]] w fun e w' => e = .returned (.bool false) ∧ Below w.heap.size w w' := by
  have A : LT (((w.alloc (.cells #[.pointer (some ⟨x, 0, none⟩)] 23)).alloc (.cells #[.int .i64 k, .int .i64 f, .int .i64 a] 27)).alloc (.cells #[.bool false] 4)) x 1 k0 f0 a0 := Blk.alloc (Blk.alloc (Blk.alloc h _) _) _
  have HO := Lib.hid (fun fv => once_done ⟨x, 0, none⟩ fv _ (LT.all A).1)
  have hkI : ¬ k = 0 := hk
  clear h A hk
  go_enter Tryd.func6, Tryd.ntmps6
  go_wp2_with (go_at_call 10; refine (HO.out _).mono ?_; rintro e w' ⟨rfl, rfl⟩)
  go_ret
  exact ⟨rfl, (((Below.refl _ _).alloc (Nat.le_refl _) _).alloc (by simp) _).alloc (by simp; omega) _⟩
theorem latchNote_first {w : World} {x : Nat} {k f a : Int} (h : LT w x 0 0 0 0) (hk : k ≠ 0) : Calls Tryd.prog 6 #[.pointer (some ⟨x, 0, none⟩), .agg #[.int .i64 k, .int .i64 f, .int .i64 a]] w fun e w' => e = .returned (.bool true) ∧ LT w' x 1 k f a ∧ Turn [x] w w' := by
  have A : LT (((w.alloc (.cells #[.pointer (some ⟨x, 0, none⟩)] 23)).alloc (.cells #[.int .i64 k, .int .i64 f, .int .i64 a] 27)).alloc (.cells #[.bool false] 4)) x 0 0 0 0 := Blk.alloc (Blk.alloc (Blk.alloc h _) _) _
  have L : Blk (((w.alloc (.cells #[.pointer (some ⟨x, 0, none⟩)] 23)).alloc (.cells #[.int .i64 k, .int .i64 f, .int .i64 a] 27)).alloc (.cells #[.bool false] 4)) w.heap.size 23 #[.pointer (some ⟨x, 0, none⟩)] := Blk.alloc (Blk.alloc (Blk.new _ _ _) _) _
  have F : Blk (((w.alloc (.cells #[.pointer (some ⟨x, 0, none⟩)] 23)).alloc (.cells #[.int .i64 k, .int .i64 f, .int .i64 a] 27)).alloc (.cells #[.bool false] 4)) (w.heap.size + 1) 27 #[.int .i64 k, .int .i64 f, .int .i64 a] := Blk.alloc (Blk.new_at _ _ _ (by simp)) _
  have K : Blk (((w.alloc (.cells #[.pointer (some ⟨x, 0, none⟩)] 23)).alloc (.cells #[.int .i64 k, .int .i64 f, .int .i64 a] 27)).alloc (.cells #[.bool false] 4)) (w.heap.size + 1 + 1) 4 #[.bool false] := Blk.new_at _ _ _ (by simp)
  have t3 : Turn [x] w (((w.alloc (.cells #[.pointer (some ⟨x, 0, none⟩)] 23)).alloc (.cells #[.int .i64 k, .int .i64 f, .int .i64 a] 27)).alloc (.cells #[.bool false] 4)) := (((Turn.refl _ _).alloc _).alloc _).alloc _
  have hkI : ¬ k = 0 := hk
  have hz2 : w.heap.size ≤ w.heap.size + 1 + 1 := by omega
  generalize hw3 : ((w.alloc (.cells #[.pointer (some ⟨x, 0, none⟩)] 23)).alloc (.cells #[.int .i64 k, .int .i64 f, .int .i64 a] 27)).alloc (.cells #[.bool false] 4) = w3 at A L F K t3
  have HW := Lib.hid hw3
  generalize hkb : w.heap.size + 1 + 1 = kb at K hz2
  generalize hfb : w.heap.size + 1 = fb at F
  have HKB := Lib.hid hkb
  have HFB := Lib.hid hfb
  have n1 : x ≠ fb := Blk.ne_ A F (by decide)
  have n2 : x ≠ w.heap.size := Blk.ne_ A L (by decide)
  have n3 : x ≠ kb := Blk.ne_ A K (by decide)
  have A1 : Blk (w3.setCell ⟨x, 1, none⟩ (.int .i32 1)) x 44 #[.int .u32 0, .int .i32 1, .int .u32 0, .int .u32 0, .int .i64 0, .int .i64 0, .int .i64 0] := (Blk.set_ A 1 _).eq_ rfl
  have t4 : Turn [x] w (w3.setCell ⟨x, 1, none⟩ (.int .i32 1)) := t3.set_ 1 _ (by simp)
  have NI := noteIn A1 (Blk.far F (p := ⟨x, 1, none⟩) n1.symm _) (Blk.far L (p := ⟨x, 1, none⟩) n2.symm _) (Blk.far K (p := ⟨x, 1, none⟩) n3.symm _)
  have HO := Lib.hid (once_first x 0 11 #[.pointer (some ⟨fb, 0, none⟩), .pointer (some ⟨w.heap.size, 0, none⟩), .pointer (some ⟨kb, 0, none⟩)] w3 (fun w' => Blk w' x 44 #[.int .u32 0, .int .i32 1, .int .u32 0, .int .u32 1, .int .i64 k, .int .i64 f, .int .i64 a] ∧ Blk w' kb 4 #[.bool true] ∧ Turn [x, kb] (w3.setCell ⟨x, 1, none⟩ (.int .i32 1)) w') (fun w => by kernel_rfl) (LT.all A).1 (LT.all A).2.1 (Blk.frozen A 1) (NI.mono fun e w' h => h) (fun w' h => ⟨⟨_, Blk.cell h.1 0⟩, Blk.frozen h.1 0, Blk.cell h.1 1, Blk.frozen h.1 1⟩))
  have HT := Lib.hid t4
  have l0 := Blk.cell L 0
  have xl := Blk.lt A
  clear h A L F K t3 t4 A1 NI hk hw3 hkb hfb
  go_enter Tryd.func6, Tryd.ntmps6
  go_upto_region 3 with fail
  rw [HW.out, HKB.out, HFB.out]
  go_wp2_with (go_at_call 10; refine HO.out.mono ?_; rintro e w' ⟨rfl, w2, ⟨X2, K2, t2⟩, rfl⟩; have k0 := Blk.cell K2 0; have kl := Blk.lt K2; have n3' := n3.symm)
  go_ret
  refine ⟨rfl, ((Blk.set_ (Blk.set_ (Blk.drew X2) 0 _) 1 _).eq_ rfl), ?_⟩
  have t5 : Turn [x] w w2 := ⟨t2.os.trans HT.out.os, t2.tape.trans HT.out.tape, t2.output.trans HT.out.output, Nat.le_trans HT.out.size t2.size, fun i hi hn => (t2.block i (Nat.lt_of_lt_of_le hi HT.out.size) (by
    simp only [List.mem_cons, List.not_mem_nil, or_false] at hn ⊢
    omega)).trans (HT.out.block i hi hn)⟩
  exact ((t5.drew).set_ 0 _ (by simp)).set_ (0 + 1) _ (by simp)
end Go.Proofs.YtcngapfncnjlcaaDoor
