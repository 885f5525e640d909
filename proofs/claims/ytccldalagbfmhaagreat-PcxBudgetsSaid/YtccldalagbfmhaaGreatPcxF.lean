/- pcx: a pixel's colour, by the functions that a head chooses. -/
import Derived.Test.YtccldalagbfmhaaGreatPcxB
import Derived.Test.YtccldalagbfmhaaGreatPal1
import Derived.Deep.RegionHeld3
import Derived.Laws.EntriesVeiled
namespace Go.Proofs.YtccldalagbfmhaaGreat
open Go.RowKit
set_option linter.unusedVariables false
set_option linter.unusedSimpArgs false

theorem pcxBit_of {v n : Nat} (hv : v < 4294967296) : bits .and .i64 ((v : Int) / 2 ^ n) 1 = ((v / 2 ^ n % 2 : Nat) : Int) := by
  have e : (v : Int) / 2 ^ n = ((v / 2 ^ n : Nat) : Int) := by rw [Int.natCast_ediv]; simp
  have hb : v / 2 ^ n < 4294967296 := Nat.lt_of_le_of_lt (Nat.div_le_self _ _) hv
  rw [e, show (1 : Int) = ((1 : Nat) : Int) from rfl, and64 _ _ (by omega) (by omega), Nat.and_one_is_mod]
theorem getD_lt {R : List Nat} (h : ∀ v ∈ R, v < 256) (i : Nat) : R.getD i 0 < 256 := by
  rw [List.getD_eq_getElem?_getD]
  cases hi : R[i]? with
  | none => simp
  | some v => simpa using h v (List.mem_of_getElem? hi)
/-- a row's byte, by the function that pixels makes -/
theorem pcxAtC {w : World} {rb b g d i v : Nat} {R : List Nat} (hr : w.cell? ⟨rb, 0, none⟩ = some (.pointer (some ⟨b, 0, none⟩))) (hB : BufAt w b g d (pb8 R)) (hlt : ∀ v ∈ R, v < 256) (hi : i < R.length) (hN : R.length ≤ 1000000) (hv : R.getD i 0 = v) :
    Calls Tryz.prog 156 #[.int .i64 (i : Int), .pointer (some ⟨rb, 0, none⟩)] w fun e w' => e = .returned (.int .i64 (v : Int)) ∧ w = w' := by
  have hl := pb8_len R
  have H0 := bufAt_yes (i := i) hB (by omega) (by omega)
  have e : (((pb8 R)[i]'(by omega)).toNat : Int) = (v : Int) := by
    have h1 : (pb8 R)[i]'(by omega) = UInt8.ofNat v := by
      unfold pb8
      rw [List.getElem_map]
      congr 1
      rw [← hv, List.getD_eq_getElem?_getD, List.getElem?_eq_getElem hi]
      rfl
    rw [h1, ofNat8 (by rw [← hv]; exact getD_lt hlt i)]
  rw [e] at H0
  have H := Lib.hid H0
  have hvB : (v : Int) < 256 := by have := getD_lt hlt i; rw [hv] at this; omega
  clear H0 e hl hB hlt hv hi hN
  go_enter Tryz.func156, Tryz.ntmps156
  go_wp2_with (go_at_call 157; refine H.out.mono ?_; rintro e w' ⟨rfl, rfl⟩)
  go_ret
  exact ⟨rfl, rfl⟩
/-- what a row's bytes are told by -/
def RowC (w : World) (rb : Nat) (R : List Nat) : Prop := ∀ i v : Nat, i < R.length → R.getD i 0 = v → Calls Tryz.prog 156 #[.int .i64 (i : Int), .pointer (some ⟨rb, 0, none⟩)] w fun e w' => e = .returned (.int .i64 (v : Int)) ∧ w = w'
set_option maxHeartbeats 1000000 in
theorem pcxBitC {w : World} {q rb l pl x v : Nat} {R : List Nat} (hl : w.cell? ⟨q, 4, none⟩ = some (.int .i64 (l : Int))) (HA0 : RowC w rb R) (hlt : ∀ v ∈ R, v < 256) (hi : pl * l + x / 8 < R.length) (hN : R.length ≤ 1000000) (hx : x ≤ 16384) (hv : pcxBit R l pl x = v) :
    Calls Tryz.prog 203 #[.pointer (some ⟨q, 0, none⟩), .func (.func 156) #[] #[.pointer (some ⟨rb, 0, none⟩)], .int .i64 (pl : Int), .int .i64 (x : Int)] w fun e w' => e = .returned (.int .i64 (v : Int)) ∧ w = w' := by
  obtain ⟨z, hz⟩ : ∃ z, pl * l = z := ⟨_, rfl⟩
  obtain ⟨x8, hx8⟩ : ∃ z, x / 8 = z := ⟨_, rfl⟩
  obtain ⟨r8, hr8⟩ : ∃ z, x % 8 = z := ⟨_, rfl⟩
  obtain ⟨sh, hsh⟩ : ∃ z, 7 - r8 = z := ⟨_, rfl⟩
  obtain ⟨i, hii⟩ : ∃ z, z = pl * l + x / 8 := ⟨_, rfl⟩
  rw [hz, hx8] at hii
  obtain ⟨u, hu⟩ : ∃ u, R.getD i 0 = u := ⟨_, rfl⟩
  have hu8 : u < 256 := by rw [← hu]; exact getD_lt hlt i
  rw [hz, hx8, ← hii] at hi
  have hzI : IntKind.i64.wrap ((pl : Int) * (l : Int)) = (z : Int) := by rw [← Int.natCast_mul, hz]; exact IntWalk.i64_in _ (by omega)
  have hx8I : (x : Int) / 8 = (x8 : Int) := by omega
  have hx8T : (x : Int).tdiv 8 = (x8 : Int) := by rw [Int.tdiv_eq_ediv_of_nonneg (by omega)]; exact hx8I
  have hr8I : (x : Int) % 8 = (r8 : Int) := by omega
  have hr8T : (x : Int).tmod 8 = (r8 : Int) := by rw [Int.tmod_eq_emod_of_nonneg (by omega)]; exact hr8I
  have hshI : 7 - (r8 : Int) = (sh : Int) := by omega
  have hiI : (z : Int) + (x8 : Int) = (i : Int) := by omega
  have hiB : (i : Int) ≤ 1000000 := by omega
  have hzB : (z : Int) ≤ 1000000 := by omega
  have hr8B : (r8 : Int) ≤ 7 := by omega
  have hshB : (sh : Int) ≤ 7 := by omega
  have H := Lib.hid (HA0 i u hi hu)
  have hvv : u / 2 ^ sh % 2 = v := by
    rw [← hv]
    unfold pcxBit
    rw [hz, hx8, ← hii, hu, hr8, hsh]
  have HBIT : bits .and .i64 ((u : Int) / 2 ^ sh) 1 = (v : Int) := by rw [← hvv]; exact pcxBit_of (by omega)
  have hx8B : (x8 : Int) ≤ 2048 := by omega
  have huI : (u : Int) < 256 := by omega
  clear HA0 hlt hv hz hx8 hr8 hsh hii hu hvv hi hN hx hu8
  go_enter Tryz.func203, Tryz.ntmps203
  go_wp2_with (go_at_call 156; refine H.out.mono ?_; rintro e w' ⟨rfl, rfl⟩)
  go_ret
  exact ⟨rfl, rfl⟩
/-- a pixel's boxes: the row's, the picture's; the picture -/
def pcxCsF (s : ByteArray) (h : PcxHd) (fv : Value) : Array Value := #[.int .i64 (h.W : Int), .int .i64 (h.H : Int), .int .i64 (h.bits : Int), .int .i64 (h.planes : Int), .int .i64 (h.line : Int), .string (s.extract 16 64), fv]
structure PxW (w : World) (rb bx q : Nat) (s : ByteArray) (h : PcxHd) (fv : Value) (b g d : Nat) (R : List Nat) : Prop where
  r : Blk w rb 178 #[.pointer (some ⟨b, 0, none⟩)]
  B : BufAt w b g d (pb8 R)
  x : Blk w bx 270 #[.pointer (some ⟨q, 0, none⟩)]
  Q : Blk w q 145 (pcxCsF s h fv)
  n : R.length = h.row
  lt : ∀ v ∈ R, v < 256
section
variable {w w' : World} {rb bx q : Nat} {s : ByteArray} {h : PcxHd} {fv : Value} {b g d : Nat} {R : List Nat}
theorem PxW.below (P : PxW w rb bx q s h fv b g d R) (k : Below w.heap.size w w') : PxW w' rb bx q s h fv b g d R :=
  ⟨Blk.below P.r k (Blk.lt P.r), ⟨Blk.below P.B.blk k (Blk.lt P.B.blk), Blk.below P.B.row k (Blk.lt P.B.row)⟩, Blk.below P.x k (Blk.lt P.x), Blk.below P.Q k (Blk.lt P.Q), P.n, P.lt⟩
theorem PxW.alloc (P : PxW w rb bx q s h fv b g d R) (o : Obj) : PxW (w.alloc o) rb bx q s h fv b g d R := P.below ((Below.refl _ _).alloc (Nat.le_refl _) _)
theorem PxW.drew (P : PxW w rb bx q s h fv b g d R) : PxW w.drew rb bx q s h fv b g d R := ⟨Blk.drew P.r, ⟨P.B.blk.drew, P.B.row.drew⟩, Blk.drew P.x, Blk.drew P.Q, P.n, P.lt⟩
theorem PxW.rowC (P : PxW w rb bx q s h fv b g d R) (hN : h.row ≤ 1000000) : RowC w rb R := fun i v hi hv => pcxAtC (Blk.cell P.r 0) P.B P.lt hi (by rw [P.n]; exact hN) hv
end
theorem PcxHd.Ok.sizes {h : PcxHd} (ok : h.Ok) : h.line ≤ 16387 ∧ h.row ≤ 1000000 ∧ (h.planes = 3 → h.bits = 8 ∧ h.W ≤ h.line ∧ h.row = 3 * h.line) ∧ (h.bits = 8 → h.planes ≠ 3 → h.planes = 1 ∧ h.W ≤ h.line ∧ h.row = h.line) ∧ (h.bits ≠ 8 → h.bits = 1 ∧ (h.planes = 1 ∨ h.planes = 4) ∧ (h.W + 7) / 8 ≤ h.line) := by
  have l1 := ok.l1
  have l2 := ok.l2
  have w2 := ok.w2
  have pr := ok.pr
  unfold PcxPair at pr
  unfold PcxHd.row
  rcases pr with ⟨hb, hp | hp⟩ | ⟨hb, hp | hp⟩ <;> rw [hb] at l1 l2 <;> rw [hb, hp] <;> refine ⟨by omega, by omega, fun _ => ?_, fun _ _ => ?_, fun _ => ?_⟩ <;> first | omega | (exact ⟨by omega, by omega, by omega⟩)
theorem u8_in {v : Nat} (h : v < 256) : IntKind.u8.wrap (v : Int) = (v : Int) := by
  show (v : Int) % 256 = v
  omega
theorem col4_all' {w : World} {cb : Nat} {v0 v1 v2 v3 : Value} (h : Blk w cb 131 #[v0, v1, v2, v3]) : w.cell? ⟨cb, 0, none⟩ = some v0 ∧ w.cell? ⟨cb, 1, none⟩ = some v1 ∧ w.cell? ⟨cb, 2, none⟩ = some v2 ∧ w.cell? ⟨cb, 3, none⟩ = some v3 ∧ w.frozen? ⟨cb, 0, none⟩ = false ∧ w.frozen? ⟨cb, 1, none⟩ = false ∧ w.frozen? ⟨cb, 2, none⟩ = false ∧ w.frozen? ⟨cb, 3, none⟩ = false ∧ cb < w.heap.size :=
  ⟨Blk.cell h 0, Blk.cell h 1, Blk.cell h 2, Blk.cell h 3, Blk.frozen h 0, Blk.frozen h 1, Blk.frozen h 2, Blk.frozen h 3, Blk.lt h⟩
theorem cell_drewK {w : World} {p : Addr} {v : Value} (h : w.cell? p = some v) : w.drew.cell? p = some v := h
theorem cell_other1 {w : World} {g b k j : Nat} {u v : Value} (hne : g ≠ b) (h : w.cell? ⟨g, k, none⟩ = some u) : (w.setCell ⟨b, j, none⟩ v).cell? ⟨g, k, none⟩ = some u := (World.cell?_setCell_far w ⟨b, j, none⟩ ⟨g, k, none⟩ v (Ne.symm hne)).trans h
theorem cell_other4 {w : World} {g b k : Nat} {u v0 v1 v2 v3 : Value} (hne : g ≠ b) (h : w.cell? ⟨g, k, none⟩ = some u) : ((((w.setCell ⟨b, 0, none⟩ v0).setCell ⟨b, 1, none⟩ v1).setCell ⟨b, 2, none⟩ v2).setCell ⟨b, 3, none⟩ v3).cell? ⟨g, k, none⟩ = some u :=
  cell_other1 hne (cell_other1 hne (cell_other1 hne (cell_other1 hne h)))
/-- a pixel is told -/
def PixPost (w w' : World) (s : ByteArray) (h : PcxHd) (R : List Nat) (x : Nat) (e : Ending) : Prop := e = .returned (.tuple #[Qc.v (pcxQ s h R x), .bool true]) ∧ Below w.heap.size w w'
set_option maxRecDepth 100000 in
set_option maxHeartbeats 4000000 in
theorem pcxPix1 {w : World} {rb bx q : Nat} {s : ByteArray} {h : PcxHd} {fv : Value} {b g d : Nat} {R : List Nat} {x : Nat} (ok : h.Ok) (P0 : PxW w rb bx q s h fv b g d R) (hp : h.planes = 3) (hx : x < h.W) :
    Calls Tryz.prog 199 #[.func (.func 156) #[] #[.pointer (some ⟨rb, 0, none⟩)], .int .i64 (x : Int), .pointer (some ⟨bx, 0, none⟩)] w fun e w' => PixPost w w' s h R x e := by
  obtain ⟨hl, hN, h3, _, _⟩ := ok.sizes
  obtain ⟨hb, hW, hrow⟩ := h3 hp
  have C0 : Blk (w.alloc (.cells #[.int .u8 0, .int .u8 0, .int .u8 0, .int .u8 0] 131)) w.heap.size 131 #[.int .u8 0, .int .u8 0, .int .u8 0, .int .u8 0] := Blk.new _ _ _
  have B0 : Below w.heap.size w (w.alloc (.cells #[.int .u8 0, .int .u8 0, .int .u8 0, .int .u8 0] 131)) := (Below.refl _ _).alloc (Nat.le_refl _) _
  have P1 := P0.alloc (.cells #[.int .u8 0, .int .u8 0, .int .u8 0, .int .u8 0] 131)
  obtain ⟨i1, hi1⟩ : ∃ i, h.line + x = i := ⟨_, rfl⟩
  obtain ⟨i2, hi2⟩ : ∃ i, 2 * h.line + x = i := ⟨_, rfl⟩
  obtain ⟨v0, hv0⟩ : ∃ v, R.getD x 0 = v := ⟨_, rfl⟩
  obtain ⟨v1, hv1⟩ : ∃ v, R.getD i1 0 = v := ⟨_, rfl⟩
  obtain ⟨v2, hv2⟩ : ∃ v, R.getD i2 0 = v := ⟨_, rfl⟩
  have l0 : v0 < 256 := by rw [← hv0]; exact getD_lt P0.lt _
  have l1 : v1 < 256 := by rw [← hv1]; exact getD_lt P0.lt _
  have l2 : v2 < 256 := by rw [← hv2]; exact getD_lt P0.lt _
  have hq : Hid (Qc.v (pcxQ s h R x) = .agg #[.int .u8 (v0 : Int), .int .u8 (v1 : Int), .int .u8 (v2 : Int), .int .u8 255]) := Lib.hid (by
    unfold pcxQ
    rw [if_pos hp, hi1, hi2, hv0, hv1, hv2]
    unfold Qc.v
    rw [ofNat8 l0, ofNat8 l1, ofNat8 l2]
    rfl)
  generalize hw1 : w.alloc (.cells #[.int .u8 0, .int .u8 0, .int .u8 0, .int .u8 0] 131) = w1 at C0 B0 P1
  have HW1 := Lib.hid hw1
  have HP := Lib.hid (And.intro P1 (And.intro C0 B0))
  have HR := Lib.hid (P1.drew.rowC hN)
  have c4 : w1.cell? ⟨q, 4, none⟩ = some (.int .i64 (h.line : Int)) := Blk.cell P1.Q 4
  have cx : w1.cell? ⟨bx, 0, none⟩ = some (.pointer (some ⟨q, 0, none⟩)) := Blk.cell P1.x 0
  have hx1 : x < R.length := by rw [P0.n]; omega
  have hx2 : i1 < R.length := by rw [P0.n]; omega
  have hx3 : i2 < R.length := by rw [P0.n]; omega
  have i1I : (h.line : Int) + (x : Int) = (i1 : Int) := by omega
  have i2I : 2 * (h.line : Int) + (x : Int) = (i2 : Int) := by omega
  have hlI : (h.line : Int) ≤ 16387 := by omega
  have hxI : (x : Int) ≤ 16387 := by omega
  have l0I : (v0 : Int) < 256 := by omega
  have l1I : (v1 : Int) < 256 := by omega
  have l2I : (v2 : Int) < 256 := by omega
  have HV := Lib.hid (And.intro hv0 (And.intro hv1 hv2))
  have k1 : IntKind.i64.wrap (i1 : Int) = (i1 : Int) := IntWalk.i64_in _ (by omega)
  have k2 : IntKind.i64.wrap (2 * (h.line : Int)) = 2 * (h.line : Int) := IntWalk.i64_in _ (by omega)
  have k3 : IntKind.i64.wrap (i2 : Int) = (i2 : Int) := IntWalk.i64_in _ (by omega)
  have u0 : IntKind.u8.wrap (v0 : Int) = (v0 : Int) := u8_in l0
  have u1 : IntKind.u8.wrap (v1 : Int) = (v1 : Int) := u8_in l1
  have u2 : IntKind.u8.wrap (v2 : Int) = (v2 : Int) := u8_in l2
  clear hw1 P0 P1 C0 B0 hi1 hi2 hv0 hv1 hv2 hb hW hrow h3 hN hl hp hx ok l0 l1 l2
  go_enter Tryz.func199, Tryz.ntmps199
  go_upto_region 1 with fail
  rw [HW1.out]
  obtain ⟨d0, d1, d2, d3, z0, z1, z2, z3, dl⟩ := col4_all' HP.out.2.1
  have hqc : q ≠ w.heap.size := Blk.ne_ HP.out.1.Q HP.out.2.1 (by decide)
  have hbc : bx ≠ w.heap.size := Blk.ne_ HP.out.1.x HP.out.2.1 (by decide)
  refine wp_region_held_drew (S := (fun w' => w'.cell? ⟨q, 4, none⟩ = some (.int .i64 (h.line : Int)) ∧ w'.cell? ⟨bx, 0, none⟩ = some (.pointer (some ⟨q, 0, none⟩)))) (by kernel_rfl) ⟨c4, cx⟩ (fun hHeld => ?_)
  refine wpAnyH_take (i := 0) (v := ?_) rfl (by kernel_rfl) (by kernel_rfl) (by kernel_rfl) (fun _ _ _ h => h) (Or.inl ⟨by kernel_rfl, ?_⟩) (by assumption) ?_
  rotate_left
  · intro w hSw; (try dsimp only at hSw); go_simp; (try with_reducible rfl)
  (try simp only [Act.put, List.getElem_toArray, List.getElem_cons_succ, List.getElem_cons_zero, List.setIfInBounds_toArray, List.set_cons_zero, List.set_cons_succ])
  refine wpAnyH_take (i := 1) (v := ?_) rfl (by kernel_rfl) (by kernel_rfl) (by kernel_rfl) (fun _ _ _ h => h) (Or.inl ⟨by kernel_rfl, ?_⟩) (by assumption) ?_
  rotate_left
  · intro w hSw; (try dsimp only at hSw); go_simp; (try with_reducible rfl)
  (try simp only [Act.put, List.getElem_toArray, List.getElem_cons_succ, List.getElem_cons_zero, List.setIfInBounds_toArray, List.set_cons_zero, List.set_cons_succ])
  refine wpAnyH_take (i := 4) (v := ?_) rfl (by kernel_rfl) (by kernel_rfl) (by kernel_rfl) (fun _ _ _ h => h) (Or.inl ⟨by kernel_rfl, ?_⟩) (by assumption) ?_
  rotate_left
  · intro w hSw; (try dsimp only at hSw); go_simp; (try with_reducible rfl)
  (try simp only [Act.put, List.getElem_toArray, List.getElem_cons_succ, List.getElem_cons_zero, List.setIfInBounds_toArray, List.set_cons_zero, List.set_cons_succ])
  refine wpAnyH_take (i := 5) (v := ?_) rfl (by kernel_rfl) (by kernel_rfl) (by kernel_rfl) (fun _ _ _ h => h) (Or.inl ⟨by kernel_rfl, ?_⟩) (by assumption) ?_
  rotate_left
  · intro w hSw; (try dsimp only at hSw); go_simp; (try with_reducible rfl)
  (try simp only [Act.put, List.getElem_toArray, List.getElem_cons_succ, List.getElem_cons_zero, List.setIfInBounds_toArray, List.set_cons_zero, List.set_cons_succ])
  refine wpAnyH_take (i := 6) (v := ?_) rfl (by kernel_rfl) (by kernel_rfl) (by kernel_rfl) (fun _ _ _ h => h) (Or.inl ⟨by kernel_rfl, ?_⟩) (by assumption) ?_
  rotate_left
  · intro w hSw; (try dsimp only at hSw); go_simp; (try with_reducible rfl)
  (try simp only [Act.put, List.getElem_toArray, List.getElem_cons_succ, List.getElem_cons_zero, List.setIfInBounds_toArray, List.set_cons_zero, List.set_cons_succ])
  refine wpAnyH_take (i := 7) (v := ?_) rfl (by kernel_rfl) (by kernel_rfl) (by kernel_rfl) (fun _ _ _ h => h) (Or.inl ⟨by kernel_rfl, ?_⟩) (by assumption) ?_
  rotate_left
  · intro w hSw; (try dsimp only at hSw); go_simp; (try with_reducible rfl)
  (try simp only [Act.put, List.getElem_toArray, List.getElem_cons_succ, List.getElem_cons_zero, List.setIfInBounds_toArray, List.set_cons_zero, List.set_cons_succ])
  refine wpAnyH_take (i := 8) (v := ?_) rfl (by kernel_rfl) (by kernel_rfl) (by kernel_rfl) (fun _ _ _ h => h) (Or.inl ⟨by kernel_rfl, ?_⟩) (by assumption) ?_
  rotate_left
  · intro w hSw; (try dsimp only at hSw); go_simp; (try with_reducible rfl)
  (try simp only [Act.put, List.getElem_toArray, List.getElem_cons_succ, List.getElem_cons_zero, List.setIfInBounds_toArray, List.set_cons_zero, List.set_cons_succ])
  refine wpAnyH_take (i := 9) (v := ?_) rfl (by kernel_rfl) (by kernel_rfl) (by kernel_rfl) (fun _ _ _ h => h) (Or.inl ⟨by kernel_rfl, ?_⟩) (by assumption) ?_
  rotate_left
  · intro w hSw; (try dsimp only at hSw); go_simp; (try with_reducible rfl)
  (try simp only [Act.put, List.getElem_toArray, List.getElem_cons_succ, List.getElem_cons_zero, List.setIfInBounds_toArray, List.set_cons_zero, List.set_cons_succ])
  refine wpAnyH_take (i := 10) (v := ?_) rfl (by kernel_rfl) (by kernel_rfl) (by kernel_rfl) (fun _ _ _ h => h) (Or.inl ⟨by kernel_rfl, ?_⟩) (by assumption) ?_
  rotate_left
  · intro w hSw; (try dsimp only at hSw); go_simp; (try with_reducible rfl)
  (try simp only [Act.put, List.getElem_toArray, List.getElem_cons_succ, List.getElem_cons_zero, List.setIfInBounds_toArray, List.set_cons_zero, List.set_cons_succ])
  refine wpAnyH_take (i := 13) (v := ?_) rfl (by kernel_rfl) (by kernel_rfl) (by kernel_rfl) (fun _ _ _ h => h) (Or.inl ⟨by kernel_rfl, ?_⟩) (by assumption) ?_
  rotate_left
  · intro w hSw; (try dsimp only at hSw); go_simp; (try with_reducible rfl)
  (try simp only [Act.put, List.getElem_toArray, List.getElem_cons_succ, List.getElem_cons_zero, List.setIfInBounds_toArray, List.set_cons_zero, List.set_cons_succ])
  refine wpAnyH_take (i := 14) (v := ?_) rfl (by kernel_rfl) (by kernel_rfl) (by kernel_rfl) (fun _ _ _ h => h) (Or.inl ⟨by kernel_rfl, ?_⟩) (by assumption) ?_
  rotate_left
  · intro w hSw; (try dsimp only at hSw); go_simp; (try with_reducible rfl)
  (try simp only [Act.put, List.getElem_toArray, List.getElem_cons_succ, List.getElem_cons_zero, List.setIfInBounds_toArray, List.set_cons_zero, List.set_cons_succ])
  refine wpAnyH_take (i := 15) (v := ?_) rfl (by kernel_rfl) (by kernel_rfl) (by kernel_rfl) (fun _ _ _ h => h) (Or.inl ⟨by kernel_rfl, ?_⟩) (by assumption) ?_
  rotate_left
  · intro w hSw; (try dsimp only at hSw); go_simp; (try with_reducible rfl)
  (try simp only [Act.put, List.getElem_toArray, List.getElem_cons_succ, List.getElem_cons_zero, List.setIfInBounds_toArray, List.set_cons_zero, List.set_cons_succ])
  refine wpAnyH_take (i := 16) (v := ?_) rfl (by kernel_rfl) (by kernel_rfl) (by kernel_rfl) (fun _ _ _ h => h) (Or.inl ⟨by kernel_rfl, ?_⟩) (by assumption) ?_
  rotate_left
  · intro w hSw; (try dsimp only at hSw); go_simp; (try with_reducible rfl)
  (try simp only [Act.put, List.getElem_toArray, List.getElem_cons_succ, List.getElem_cons_zero, List.setIfInBounds_toArray, List.set_cons_zero, List.set_cons_succ])
  refine wpAnyH_take (i := 17) (v := ?_) rfl (by kernel_rfl) (by kernel_rfl) (by kernel_rfl) (fun _ _ _ h => h) (Or.inl ⟨by kernel_rfl, ?_⟩) (by assumption) ?_
  rotate_left
  · intro w hSw; (try dsimp only at hSw); go_simp; (try with_reducible rfl)
  (try simp only [Act.put, List.getElem_toArray, List.getElem_cons_succ, List.getElem_cons_zero, List.setIfInBounds_toArray, List.set_cons_zero, List.set_cons_succ])
  refine wpAnyH_take (i := 18) (v := ?_) rfl (by kernel_rfl) (by kernel_rfl) (by kernel_rfl) (fun _ _ _ h => h) (Or.inl ⟨by kernel_rfl, ?_⟩) (by assumption) ?_
  rotate_left
  · intro w hSw; (try dsimp only at hSw); go_simp; (try with_reducible rfl)
  (try simp only [Act.put, List.getElem_toArray, List.getElem_cons_succ, List.getElem_cons_zero, List.setIfInBounds_toArray, List.set_cons_zero, List.set_cons_succ])
  refine wpAnyH_take (i := 19) (v := ?_) rfl (by kernel_rfl) (by kernel_rfl) (by kernel_rfl) (fun _ _ _ h => h) (Or.inl ⟨by kernel_rfl, ?_⟩) (by assumption) ?_
  rotate_left
  · intro w hSw; (try dsimp only at hSw); go_simp; (try with_reducible rfl)
  (try simp only [Act.put, List.getElem_toArray, List.getElem_cons_succ, List.getElem_cons_zero, List.setIfInBounds_toArray, List.set_cons_zero, List.set_cons_succ])
  refine wpAnyH_take (i := 20) (v := ?_) rfl (by kernel_rfl) (by kernel_rfl) (by kernel_rfl) (fun _ _ _ h => h) (Or.inl ⟨by kernel_rfl, ?_⟩) (by assumption) ?_
  rotate_left
  · intro w hSw; (try dsimp only at hSw); go_simp; (try with_reducible rfl)
  (try simp only [Act.put, List.getElem_toArray, List.getElem_cons_succ, List.getElem_cons_zero, List.setIfInBounds_toArray, List.set_cons_zero, List.set_cons_succ])
  refine wpAnyH_ready (rs := [2]) (by kernel_rfl) (by simp) ?_
  refine AllReadyH.cons rfl (fun K hK => ?_) AllReadyH.nil
  go_simp
  refine (HR.out x v0 hx1 HV.out.1).mono ?_
  rintro e w3 ⟨rfl, rfl⟩
  refine hK.out _ _ ⟨c4, cx⟩ (fun hHeld' => ?_)
  clear hK K hHeld
  have hHeld := hHeld'
  clear hHeld'
  (try simp only [Act.put, List.getElem_toArray, List.getElem_cons_succ, List.getElem_cons_zero, List.setIfInBounds_toArray, List.set_cons_zero, List.set_cons_succ])
  refine wpAnyH_take (i := 3) (v := ?_) rfl (by kernel_rfl) (by kernel_rfl) (by kernel_rfl) (fun _ _ _ h => h) (Or.inl ⟨by kernel_rfl, ?_⟩) (by assumption) ?_
  rotate_left
  · intro w hSw; (try dsimp only at hSw); go_simp; (try with_reducible rfl)
  (try simp only [Act.put, List.getElem_toArray, List.getElem_cons_succ, List.getElem_cons_zero, List.setIfInBounds_toArray, List.set_cons_zero, List.set_cons_succ])
  refine wpAnyH_ready (rs := [11]) (by kernel_rfl) (by simp) ?_
  refine AllReadyH.cons rfl (fun K hK => ?_) AllReadyH.nil
  go_simp
  refine (HR.out i1 v1 hx2 HV.out.2.1).mono ?_
  rintro e w3 ⟨rfl, rfl⟩
  refine hK.out _ _ ⟨c4, cx⟩ (fun hHeld' => ?_)
  clear hK K hHeld
  have hHeld := hHeld'
  clear hHeld'
  (try simp only [Act.put, List.getElem_toArray, List.getElem_cons_succ, List.getElem_cons_zero, List.setIfInBounds_toArray, List.set_cons_zero, List.set_cons_succ])
  refine wpAnyH_take (i := 12) (v := ?_) rfl (by kernel_rfl) (by kernel_rfl) (by kernel_rfl) (fun _ _ _ h => h) (Or.inl ⟨by kernel_rfl, ?_⟩) (by assumption) ?_
  rotate_left
  · intro w hSw; (try dsimp only at hSw); go_simp; (try with_reducible rfl)
  (try simp only [Act.put, List.getElem_toArray, List.getElem_cons_succ, List.getElem_cons_zero, List.setIfInBounds_toArray, List.set_cons_zero, List.set_cons_succ])
  refine wpAnyH_ready (rs := [21]) (by kernel_rfl) (by simp) ?_
  refine AllReadyH.cons rfl (fun K hK => ?_) AllReadyH.nil
  go_simp
  refine (HR.out i2 v2 hx3 HV.out.2.2).mono ?_
  rintro e w3 ⟨rfl, rfl⟩
  refine hK.out _ _ ⟨c4, cx⟩ (fun hHeld' => ?_)
  clear hK K hHeld
  have hHeld := hHeld'
  clear hHeld'
  (try simp only [Act.put, List.getElem_toArray, List.getElem_cons_succ, List.getElem_cons_zero, List.setIfInBounds_toArray, List.set_cons_zero, List.set_cons_succ])
  refine wpAnyH_take (i := 22) (v := ?_) rfl (by kernel_rfl) (by kernel_rfl) (by kernel_rfl) (fun _ _ _ h => h) (Or.inl ⟨by kernel_rfl, ?_⟩) (by assumption) ?_
  rotate_left
  · intro w hSw; (try dsimp only at hSw); go_simp; (try with_reducible rfl)
  (try simp only [Act.put, List.getElem_toArray, List.getElem_cons_succ, List.getElem_cons_zero, List.setIfInBounds_toArray, List.set_cons_zero, List.set_cons_succ])
  refine wpAnyH_take (i := 23) (v := ?_) rfl (by kernel_rfl) (by kernel_rfl) (by kernel_rfl) (fun _ _ _ h => h) (Or.inl ⟨by kernel_rfl, ?_⟩) (by assumption) ?_
  rotate_left
  · intro w hSw; (try dsimp only at hSw); go_simp; (try with_reducible rfl)
  (try simp only [Act.put, List.getElem_toArray, List.getElem_cons_succ, List.getElem_cons_zero, List.setIfInBounds_toArray, List.set_cons_zero, List.set_cons_succ])
  refine wpAnyH_ready (rs := [24]) (by kernel_rfl) (by simp) ?_
  refine AllReadyH.cons rfl (fun K hK => ?_) AllReadyH.nil
  go_simp
  refine hK.out _ _ ⟨cell_drewK (cell_other4 hqc c4), cell_drewK (cell_other4 hbc cx)⟩ (fun hHeld' => ?_)
  clear hK K hHeld
  have hHeld := hHeld'
  clear hHeld'
  (try simp only [Act.put, List.getElem_toArray, List.getElem_cons_succ, List.getElem_cons_zero, List.setIfInBounds_toArray, List.set_cons_zero, List.set_cons_succ])
  refine wpAnyH_take (i := 25) (v := ?_) rfl (by kernel_rfl) (by kernel_rfl) (by kernel_rfl) (fun _ _ _ h => h) (Or.inl ⟨by kernel_rfl, ?_⟩) (by assumption) ?_
  rotate_left
  · intro w hSw; (try dsimp only at hSw); go_simp; (try with_reducible rfl)
  (try simp only [Act.put, List.getElem_toArray, List.getElem_cons_succ, List.getElem_cons_zero, List.setIfInBounds_toArray, List.set_cons_zero, List.set_cons_succ])
  refine wpAnyH_done (by kernel_rfl) ?_ _
  (try simp only [List.getElem_toArray, List.getElem_cons_succ, List.getElem_cons_zero, List.set_cons_zero, List.set_cons_succ])
  go_wp2_with fail
  exact bodyPost_ret (v := .tuple #[.agg #[.int .u8 (v0 : Int), .int .u8 (v1 : Int), .int .u8 (v2 : Int), .int .u8 255], .bool true]) (by simp [results, Tryz.results199, go_sem, d0, d1, d2, d3]) rfl ⟨by rw [hq.out], (below_set (below_set (below_set (below_set HP.out.2.2 (Nat.le_refl _)) (Nat.le_refl _)) (Nat.le_refl _)) (Nat.le_refl _)).drew⟩
end Go.Proofs.YtccldalagbfmhaaGreat
