/- pcx: a pixel of four planes; the choice. -/
import Derived.Test.YtccldalagbfmhaaGreatPcxG
namespace Go.Proofs.YtccldalagbfmhaaGreat
open Go.RowKit
set_option linter.unusedVariables false
set_option linter.unusedSimpArgs false

def pcxPart (R : List Nat) (l x : Nat) : Nat → Nat
  | 0 => 0
  | p + 1 => pcxPart R l x p + 2 ^ p * pcxBit R l p x
theorem pcxBit_le (R : List Nat) (l p x : Nat) : pcxBit R l p x ≤ 1 := Nat.le_of_lt_succ (Nat.mod_lt _ (by decide))
theorem pcxPart_lt (R : List Nat) (l x : Nat) : ∀ p, pcxPart R l x p < 2 ^ p := by
  intro p
  induction p with
  | zero => exact Nat.one_pos
  | succ p ih =>
    have := pcxBit_le R l p x
    unfold pcxPart
    rw [Nat.pow_succ]
    have h2 : 2 ^ p * pcxBit R l p x ≤ 2 ^ p * 1 := Nat.mul_le_mul_left _ this
    omega
theorem pcxPart_num (R : List Nat) (l x : Nat) : pcxPart R l x 4 = pcxNum R l x := by
  simp only [pcxPart, pcxNum]
  omega
theorem pcxPart_or {R : List Nat} {l x p n b : Nat} (hp : p < 4) (hn : pcxPart R l x p = n) (hb : pcxBit R l p x = b) : bits .or .i64 (n : Int) ((b : Int) * 2 ^ p) = ((pcxPart R l x (p + 1) : Nat) : Int) := by
  have h1 := pcxPart_lt R l x p
  have h2 := pcxBit_le R l p x
  have h3 : 2 ^ p ≤ 2 ^ 4 := Nat.pow_le_pow_right (by decide) (by omega)
  rw [hn] at h1
  rw [hb] at h2
  have h4 : 2 ^ p * b ≤ 2 ^ p * 1 := Nat.mul_le_mul_left _ h2
  rw [show (b : Int) * 2 ^ p = ((2 ^ p * b : Nat) : Int) by rw [Int.natCast_mul]; simp [Int.mul_comm], or64 _ _ (by omega) (by omega), Nat.or_comm, ← Nat.two_pow_add_eq_or_of_lt h1]
  show ((2 ^ p * b + n : Nat) : Int) = ((pcxPart R l x p + 2 ^ p * pcxBit R l p x : Nat) : Int)
  rw [hn, hb, Nat.add_comm]
set_option maxRecDepth 100000 in
set_option maxHeartbeats 4000000 in
theorem pcxPix4 {w : World} {rb bx q : Nat} {s : ByteArray} {h : PcxHd} {fv : Value} {b g d : Nat} {R : List Nat} {x : Nat} (ok : h.Ok) (P0 : PxW w rb bx q s h fv b g d R) (hb : h.bits ≠ 8) (hp : h.planes = 4) (hs : 128 ≤ s.size) (hx : x < h.W) :
    Calls Tryz.prog 204 #[.func (.func 156) #[] #[.pointer (some ⟨rb, 0, none⟩)], .int .i64 (x : Int), .pointer (some ⟨bx, 0, none⟩)] w fun e w' => PixPost w w' s h R x e := by
  obtain ⟨hl, hN, _, _, h1⟩ := ok.sizes
  obtain ⟨_, _, hW⟩ := h1 hb
  have hrow : h.row = 4 * h.line := by unfold PcxHd.row; rw [hp]
  have hx2 := ok.w2
  have C0 : Blk (w.alloc (.cells #[.int .u8 0, .int .u8 0, .int .u8 0, .int .u8 0] 131)) w.heap.size 131 #[.int .u8 0, .int .u8 0, .int .u8 0, .int .u8 0] := Blk.new _ _ _
  have B0 : Below w.heap.size w (w.alloc (.cells #[.int .u8 0, .int .u8 0, .int .u8 0, .int .u8 0] 131)) := (Below.refl _ _).alloc (Nat.le_refl _) _
  have P1 := P0.alloc (.cells #[.int .u8 0, .int .u8 0, .int .u8 0, .int .u8 0] 131)
  obtain ⟨n, hn⟩ : ∃ n, pcxNum R h.line x = n := ⟨_, rfl⟩
  have hn16 : n < 16 := by rw [← hn, ← pcxPart_num]; exact pcxPart_lt _ _ _ 4
  obtain ⟨en, hen⟩ : ∃ en, s.extract 16 64 = en := ⟨_, rfl⟩
  have hez : en.size = 48 := by rw [← hen, ByteArray.size_extract]; omega
  have hee : ∀ i (hi : i < 48), ((b8 s (16 + i)).toNat : Int) = ((en[i]'(by omega)).toNat : Int) := fun i hi => by
    rw [b8_int]
    have e1 : bat en i = bat s (16 + i) := by rw [← hen]; exact bat_extract s 16 48 i hi
    rw [← e1, bat_eq (by omega)]
  obtain ⟨m, hm⟩ : ∃ m, 3 * n = m := ⟨_, rfl⟩
  obtain ⟨m1, hm1⟩ : ∃ k, m + 1 = k := ⟨_, rfl⟩
  obtain ⟨m2, hm2⟩ : ∃ k, m + 2 = k := ⟨_, rfl⟩
  have h0 : m < en.size := by omega
  have h1' : m1 < en.size := by omega
  have h2' : m2 < en.size := by omega
  have hq : Hid (Qc.v (pcxQ s h R x) = .agg #[.int .u8 (en[m].toNat : Int), .int .u8 (en[m1].toNat : Int), .int .u8 (en[m2].toNat : Int), .int .u8 255]) := Lib.hid (by
    have q0 := hee m (by omega)
    have q1 := hee m1 (by omega)
    have q2 := hee m2 (by omega)
    unfold pcxQ
    rw [if_neg (by omega), if_neg hb, if_neg (by omega), hn, hm]
    unfold pcxEnt Qc.v
    simp only
    rw [show 16 + m + 1 = 16 + m1 by omega, show 16 + m + 2 = 16 + m2 by omega, q0, q1, q2]
    rfl)
  generalize hw1 : w.alloc (.cells #[.int .u8 0, .int .u8 0, .int .u8 0, .int .u8 0] 131) = w1 at C0 B0 P1
  have HW1 := Lib.hid hw1
  have HP := Lib.hid (And.intro P1 (And.intro C0 B0))
  have HB := Lib.hid (fun p (hp4 : p < 4) => pcxBitC (w := w1) (q := q) (rb := rb) (l := h.line) (pl := p) (x := x) (Blk.cell P1.Q 4) (P1.rowC hN) P1.lt (by
    have h5 : p * h.line ≤ 3 * h.line := Nat.mul_le_mul_right _ (by omega)
    rw [P1.n]; omega) (by rw [P1.n]; exact hN) (by omega) rfl)
  have cx : w1.cell? ⟨bx, 0, none⟩ = some (.pointer (some ⟨q, 0, none⟩)) := Blk.cell P1.x 0
  have c3 : w1.cell? ⟨q, 3, none⟩ = some (.int .i64 4) := by
    have := Blk.cell P1.Q 3
    unfold pcxCsF at this
    rw [hp] at this
    exact this
  have c5 : w1.cell? ⟨q, 5, none⟩ = some (.string en) := by
    have := Blk.cell P1.Q 5
    unfold pcxCsF at this
    rw [hen] at this
    exact this
  obtain ⟨d0, d1, d2, d3, z0, z1, z2, z3, dl⟩ := col4_all' C0
  have hbc : bx ≠ w.heap.size := Blk.ne_ P1.x C0 (by decide)
  have hqc0 : q ≠ w.heap.size := Blk.ne_ P1.Q C0 (by decide)
  have h0I : (m : Int) < (en.size : Int) := by omega
  have h1I : (m1 : Int) < (en.size : Int) := by omega
  have h2I : (m2 : Int) < (en.size : Int) := by omega
  have e0 : 3 * (n : Int) = (m : Int) := by omega
  have e1 : (m : Int) + 1 = (m1 : Int) := by omega
  have e2 : (m : Int) + 2 = (m2 : Int) := by omega
  have k0 : IntKind.i64.wrap (m : Int) = (m : Int) := IntWalk.i64_in _ (by omega)
  have k1 : IntKind.i64.wrap (m1 : Int) = (m1 : Int) := IntWalk.i64_in _ (by omega)
  have k2 : IntKind.i64.wrap (m2 : Int) = (m2 : Int) := IntWalk.i64_in _ (by omega)
  have HNN := Lib.hid (show pcxPart R h.line x 4 = n by rw [pcxPart_num, hn])
  have HBL := fun p => pcxBit_le R h.line p x
  have HOR := Lib.hid (fun p (hp4 : p < 4) => pcxPart_or (R := R) (l := h.line) (x := x) (p := p) hp4 rfl rfl)
  generalize hbt : pcxBit R h.line = bt at HB HBL HOR
  generalize hpt : pcxPart R h.line x = pt at HNN HOR
  have HPT0 : Hid (pt 0 = 0) := Lib.hid (by rw [← hpt]; rfl)
  have HPL : ∀ p, pt p < 2 ^ p := by rw [← hpt]; exact pcxPart_lt R h.line x
  clear hw1 P0 P1 C0 B0 hb hp hs hx ok hl hN h1 hW hrow hx2 hn hen hez hee hm hm1 hm2 hbt hpt
  go_enter Tryz.func204, Tryz.ntmps204
  go_upto_region 1 with fail
  rw [HW1.out]
  go_wp2_with fail
  go_loopg [7, 8, 13] 4 (fun gh v7 v8 v13 wr => ∃ p : Nat, p + gh = 4 ∧ v13 = .int .i64 (p : Int) ∧ v7 = .int .i64 (pt p : Int) ∧ wr = w1)
  case atStart => exact ⟨0, rfl, rfl, by rw [HPT0.out]; rfl, rfl⟩
  case round =>
    obtain ⟨p, hp, rfl, rfl, rfl⟩ := hrel
    by_cases hp4 : p < 4
    · have HB1 := Lib.hid (HB.out p hp4)
      have ho := HOR.out p hp4
      have hbp := HBL p
      obtain ⟨bb, hbb⟩ : ∃ q, bt p x = q := ⟨_, rfl⟩
      obtain ⟨nn, hnn⟩ : ∃ q, pt (p + 1) = q := ⟨_, rfl⟩
      obtain ⟨n0, hn0⟩ : ∃ q, pt p = q := ⟨_, rfl⟩
      rw [hbb] at HB1 ho hbp
      rw [hn0, hnn] at ho
      rw [hn0]
      have hbbI : (bb : Int) ≤ 1 := by omega
      have HNX := Lib.hid hnn
      clear HBL HPL hbp hbb hn0 hnn
      rcases (by omega : p = 0 ∨ p = 1 ∨ p = 2 ∨ p = 3) with rfl | rfl | rfl | rfl
      · have ho' : bits .or .i64 (n0 : Int) (bb : Int) = (nn : Int) := by rw [← ho]; congr 1; omega
        clear ho
        go_wp2_with (go_at_call 203; refine HB1.out.mono ?_; rintro e w' ⟨rfl, rfl⟩)
        go_roundg 3
        case measure => omega
        case rel => exact ⟨1, rfl, rfl, by rw [HNX.out], rfl⟩
      · have ho' : bits .or .i64 (n0 : Int) ((bb : Int) * 2) = (nn : Int) := by rw [← ho]; congr 1
        clear ho
        go_wp2_with (go_at_call 203; refine HB1.out.mono ?_; rintro e w' ⟨rfl, rfl⟩)
        go_roundg 2
        case measure => omega
        case rel => exact ⟨2, rfl, rfl, by rw [HNX.out], rfl⟩
      · have ho' : bits .or .i64 (n0 : Int) ((bb : Int) * 4) = (nn : Int) := by rw [← ho]; congr 1
        clear ho
        go_wp2_with (go_at_call 203; refine HB1.out.mono ?_; rintro e w' ⟨rfl, rfl⟩)
        go_roundg 1
        case measure => omega
        case rel => exact ⟨3, rfl, rfl, by rw [HNX.out], rfl⟩
      · have ho' : bits .or .i64 (n0 : Int) ((bb : Int) * 8) = (nn : Int) := by rw [← ho]; congr 1
        clear ho
        go_wp2_with (go_at_call 203; refine HB1.out.mono ?_; rintro e w' ⟨rfl, rfl⟩)
        go_roundg 0
        case measure => omega
        case rel => exact ⟨4, rfl, rfl, by rw [HNX.out], rfl⟩
    · obtain rfl : p = 4 := by omega
      rw [HNN.out]
      clear HBL HPL
      go_upto_region 7 with fail
      refine wp_region_held_drew (S := (fun w' => w'.cell? ⟨bx, 0, none⟩ = some (.pointer (some ⟨q, 0, none⟩)) ∧ w'.cell? ⟨q, 5, none⟩ = some (.string en))) (by kernel_rfl) ⟨cx, c5⟩ (fun hHeld => ?_)
      refine wpAnyH_take (i := 0) (v := ?_) rfl (by kernel_rfl) (by kernel_rfl) (by kernel_rfl) (fun _ _ _ h => h) (Or.inl ⟨by kernel_rfl, ?_⟩) (by assumption) ?_
      rotate_left
      · intro w hSw; (try dsimp only at hSw); go_simp; (try with_reducible rfl)
      (try simp only [Act.put, List.getElem_toArray, List.getElem_cons_succ, List.getElem_cons_zero, List.setIfInBounds_toArray, List.set_cons_zero, List.set_cons_succ])
      refine wpAnyH_take (i := 1) (v := ?_) rfl (by kernel_rfl) (by kernel_rfl) (by kernel_rfl) (fun _ _ _ h => h) (Or.inl ⟨by kernel_rfl, ?_⟩) (by assumption) ?_
      rotate_left
      · intro w hSw; (try dsimp only at hSw); go_simp; (try with_reducible rfl)
      (try simp only [Act.put, List.getElem_toArray, List.getElem_cons_succ, List.getElem_cons_zero, List.setIfInBounds_toArray, List.set_cons_zero, List.set_cons_succ])
      refine wpAnyH_take (i := 2) (v := ?_) rfl (by kernel_rfl) (by kernel_rfl) (by kernel_rfl) (fun _ _ _ h => h) (Or.inl ⟨by kernel_rfl, ?_⟩) (by assumption) ?_
      rotate_left
      · intro w hSw; (try dsimp only at hSw); go_simp; (try with_reducible rfl)
      (try simp only [Act.put, List.getElem_toArray, List.getElem_cons_succ, List.getElem_cons_zero, List.setIfInBounds_toArray, List.set_cons_zero, List.set_cons_succ])
      refine wpAnyH_take (i := 3) (v := ?_) rfl (by kernel_rfl) (by kernel_rfl) (by kernel_rfl) (fun _ _ _ h => h) (Or.inl ⟨by kernel_rfl, ?_⟩) (by assumption) ?_
      rotate_left
      · intro w hSw; (try dsimp only at hSw); go_simp; (try with_reducible rfl)
      (try simp only [Act.put, List.getElem_toArray, List.getElem_cons_succ, List.getElem_cons_zero, List.setIfInBounds_toArray, List.set_cons_zero, List.set_cons_succ])
      refine wpAnyH_take (i := 4) (v := ?_) rfl (by kernel_rfl) (by kernel_rfl) (by kernel_rfl) (fun _ _ _ h => h) (Or.inl ⟨by kernel_rfl, ?_⟩) (by assumption) ?_
      rotate_left
      · intro w hSw; (try dsimp only at hSw); go_simp; (try with_reducible rfl)
      (try simp only [Act.put, List.getElem_toArray, List.getElem_cons_succ, List.getElem_cons_zero, List.setIfInBounds_toArray, List.set_cons_zero, List.set_cons_succ])
      refine wpAnyH_take (i := 5) (v := ?_) rfl (by kernel_rfl) (by kernel_rfl) (by kernel_rfl) (fun _ _ _ h => h) (Or.inl ⟨by kernel_rfl, ?_⟩) (by assumption) ?_
      rotate_left
      · intro w hSw; (try dsimp only at hSw); go_simp; (try with_reducible rfl)
      (try simp only [Act.put, List.getElem_toArray, List.getElem_cons_succ, List.getElem_cons_zero, List.setIfInBounds_toArray, List.set_cons_zero, List.set_cons_succ])
      refine wpAnyH_take (i := 6) (v := ?_) rfl (by kernel_rfl) (by kernel_rfl) (by kernel_rfl) (fun _ _ _ h => h) (Or.inl ⟨by kernel_rfl, ?_⟩) (by assumption) ?_
      rotate_left
      · intro w hSw; (try dsimp only at hSw); go_simp; (try with_reducible rfl)
      (try simp only [Act.put, List.getElem_toArray, List.getElem_cons_succ, List.getElem_cons_zero, List.setIfInBounds_toArray, List.set_cons_zero, List.set_cons_succ])
      refine wpAnyH_take (i := 7) (v := ?_) rfl (by kernel_rfl) (by kernel_rfl) (by kernel_rfl) (fun _ _ _ h => h) (Or.inl ⟨by kernel_rfl, ?_⟩) (by assumption) ?_
      rotate_left
      · intro w hSw; (try dsimp only at hSw); go_simp; (try with_reducible rfl)
      (try simp only [Act.put, List.getElem_toArray, List.getElem_cons_succ, List.getElem_cons_zero, List.setIfInBounds_toArray, List.set_cons_zero, List.set_cons_succ])
      refine wpAnyH_take (i := 8) (v := ?_) rfl (by kernel_rfl) (by kernel_rfl) (by kernel_rfl) (fun _ _ _ h => h) (Or.inl ⟨by kernel_rfl, ?_⟩) (by assumption) ?_
      rotate_left
      · intro w hSw; (try dsimp only at hSw); go_simp; (try with_reducible rfl)
      (try simp only [Act.put, List.getElem_toArray, List.getElem_cons_succ, List.getElem_cons_zero, List.setIfInBounds_toArray, List.set_cons_zero, List.set_cons_succ])
      refine wpAnyH_take (i := 9) (v := ?_) rfl (by kernel_rfl) (by kernel_rfl) (by kernel_rfl) (fun _ _ _ h => h) (Or.inl ⟨by kernel_rfl, ?_⟩) (by assumption) ?_
      rotate_left
      · intro w hSw; (try dsimp only at hSw); go_simp; (try with_reducible rfl)
      (try simp only [Act.put, List.getElem_toArray, List.getElem_cons_succ, List.getElem_cons_zero, List.setIfInBounds_toArray, List.set_cons_zero, List.set_cons_succ])
      refine wpAnyH_take (i := 10) (v := ?_) rfl (by kernel_rfl) (by kernel_rfl) (by kernel_rfl) (fun _ _ _ h => h) (Or.inl ⟨by kernel_rfl, ?_⟩) (by assumption) ?_
      rotate_left
      · intro w hSw; (try dsimp only at hSw); go_simp; (try with_reducible rfl)
      (try simp only [Act.put, List.getElem_toArray, List.getElem_cons_succ, List.getElem_cons_zero, List.setIfInBounds_toArray, List.set_cons_zero, List.set_cons_succ])
      refine wpAnyH_take (i := 11) (v := ?_) rfl (by kernel_rfl) (by kernel_rfl) (by kernel_rfl) (fun _ _ _ h => h) (Or.inl ⟨by kernel_rfl, ?_⟩) (by assumption) ?_
      rotate_left
      · intro w hSw; (try dsimp only at hSw); go_simp; (try with_reducible rfl)
      (try simp only [Act.put, List.getElem_toArray, List.getElem_cons_succ, List.getElem_cons_zero, List.setIfInBounds_toArray, List.set_cons_zero, List.set_cons_succ])
      refine wpAnyH_take (i := 12) (v := ?_) rfl (by kernel_rfl) (by kernel_rfl) (by kernel_rfl) (fun _ _ _ h => h) (Or.inl ⟨by kernel_rfl, ?_⟩) (by assumption) ?_
      rotate_left
      · intro w hSw; (try dsimp only at hSw); go_simp; (try with_reducible rfl)
      (try simp only [Act.put, List.getElem_toArray, List.getElem_cons_succ, List.getElem_cons_zero, List.setIfInBounds_toArray, List.set_cons_zero, List.set_cons_succ])
      refine wpAnyH_take (i := 13) (v := ?_) rfl (by kernel_rfl) (by kernel_rfl) (by kernel_rfl) (fun _ _ _ h => h) (Or.inl ⟨by kernel_rfl, ?_⟩) (by assumption) ?_
      rotate_left
      · intro w hSw; (try dsimp only at hSw); go_simp; (try with_reducible rfl)
      (try simp only [Act.put, List.getElem_toArray, List.getElem_cons_succ, List.getElem_cons_zero, List.setIfInBounds_toArray, List.set_cons_zero, List.set_cons_succ])
      refine wpAnyH_take (i := 14) (v := ?_) rfl (by kernel_rfl) (by kernel_rfl) (by kernel_rfl) (fun _ _ _ h => h) (Or.inl ⟨by kernel_rfl, ?_⟩) (by assumption) ?_
      rotate_left
      · intro w hSw; (try dsimp only at hSw); go_simp; (try with_reducible rfl)
      (try simp only [Act.put, List.getElem_toArray, List.getElem_cons_succ, List.getElem_cons_zero, List.setIfInBounds_toArray, List.set_cons_zero, List.set_cons_succ])
      refine wpAnyH_take (i := 15) (v := ?_) rfl (by kernel_rfl) (by kernel_rfl) (by kernel_rfl) (fun _ _ _ h => h) (Or.inl ⟨by kernel_rfl, ?_⟩) (by assumption) ?_
      rotate_left
      · intro w hSw; (try dsimp only at hSw); go_simp; (try with_reducible rfl)
      (try simp only [Act.put, List.getElem_toArray, List.getElem_cons_succ, List.getElem_cons_zero, List.setIfInBounds_toArray, List.set_cons_zero, List.set_cons_succ])
      refine wpAnyH_take (i := 16) (v := ?_) rfl (by kernel_rfl) (by kernel_rfl) (by kernel_rfl) (fun _ _ _ h => h) (Or.inl ⟨by kernel_rfl, ?_⟩) (by assumption) ?_
      rotate_left
      · intro w hSw; (try dsimp only at hSw); go_simp; (try with_reducible rfl)
      (try simp only [Act.put, List.getElem_toArray, List.getElem_cons_succ, List.getElem_cons_zero, List.setIfInBounds_toArray, List.set_cons_zero, List.set_cons_succ])
      refine wpAnyH_take (i := 17) (v := ?_) rfl (by kernel_rfl) (by kernel_rfl) (by kernel_rfl) (fun _ _ _ h => h) (Or.inl ⟨by kernel_rfl, ?_⟩) (by assumption) ?_
      rotate_left
      · intro w hSw; (try dsimp only at hSw); go_simp; (try with_reducible rfl)
      (try simp only [Act.put, List.getElem_toArray, List.getElem_cons_succ, List.getElem_cons_zero, List.setIfInBounds_toArray, List.set_cons_zero, List.set_cons_succ])
      refine wpAnyH_take (i := 18) (v := ?_) rfl (by kernel_rfl) (by kernel_rfl) (by kernel_rfl) (fun _ _ _ h => h) (Or.inl ⟨by kernel_rfl, ?_⟩) (by assumption) ?_
      rotate_left
      · intro w hSw; (try dsimp only at hSw); go_simp; (try with_reducible rfl)
      (try simp only [Act.put, List.getElem_toArray, List.getElem_cons_succ, List.getElem_cons_zero, List.setIfInBounds_toArray, List.set_cons_zero, List.set_cons_succ])
      refine wpAnyH_take (i := 19) (v := ?_) rfl (by kernel_rfl) (by kernel_rfl) (by kernel_rfl) (fun _ _ _ h => h) (Or.inl ⟨by kernel_rfl, ?_⟩) (by assumption) ?_
      rotate_left
      · intro w hSw; (try dsimp only at hSw); go_simp; (try with_reducible rfl)
      (try simp only [Act.put, List.getElem_toArray, List.getElem_cons_succ, List.getElem_cons_zero, List.setIfInBounds_toArray, List.set_cons_zero, List.set_cons_succ])
      refine wpAnyH_take (i := 20) (v := ?_) rfl (by kernel_rfl) (by kernel_rfl) (by kernel_rfl) (fun _ _ _ h => h) (Or.inl ⟨by kernel_rfl, ?_⟩) (by assumption) ?_
      rotate_left
      · intro w hSw; (try dsimp only at hSw); go_simp; (try with_reducible rfl)
      (try simp only [Act.put, List.getElem_toArray, List.getElem_cons_succ, List.getElem_cons_zero, List.setIfInBounds_toArray, List.set_cons_zero, List.set_cons_succ])
      refine wpAnyH_take (i := 21) (v := ?_) rfl (by kernel_rfl) (by kernel_rfl) (by kernel_rfl) (fun _ _ _ h => h) (Or.inl ⟨by kernel_rfl, ?_⟩) (by assumption) ?_
      rotate_left
      · intro w hSw; (try dsimp only at hSw); go_simp; (try with_reducible rfl)
      (try simp only [Act.put, List.getElem_toArray, List.getElem_cons_succ, List.getElem_cons_zero, List.setIfInBounds_toArray, List.set_cons_zero, List.set_cons_succ])
      refine wpAnyH_take (i := 22) (v := ?_) rfl (by kernel_rfl) (by kernel_rfl) (by kernel_rfl) (fun _ _ _ h => h) (Or.inl ⟨by kernel_rfl, ?_⟩) (by assumption) ?_
      rotate_left
      · intro w hSw; (try dsimp only at hSw); go_simp; (try with_reducible rfl)
      (try simp only [Act.put, List.getElem_toArray, List.getElem_cons_succ, List.getElem_cons_zero, List.setIfInBounds_toArray, List.set_cons_zero, List.set_cons_succ])
      refine wpAnyH_take (i := 23) (v := ?_) rfl (by kernel_rfl) (by kernel_rfl) (by kernel_rfl) (fun _ _ _ h => h) (Or.inl ⟨by kernel_rfl, ?_⟩) (by assumption) ?_
      rotate_left
      · intro w hSw; (try dsimp only at hSw); go_simp; (try with_reducible rfl)
      (try simp only [Act.put, List.getElem_toArray, List.getElem_cons_succ, List.getElem_cons_zero, List.setIfInBounds_toArray, List.set_cons_zero, List.set_cons_succ])
      refine wpAnyH_ready (rs := [24]) (by kernel_rfl) (by simp) ?_
      refine AllReadyH.cons rfl (fun K hK => ?_) AllReadyH.nil
      go_simp
      refine hK.out _ _ ⟨cell_drewK (cell_other4 hbc cx), cell_drewK (cell_other4 hqc0 c5)⟩ (fun hHeld' => ?_)
      clear hK K hHeld
      have hHeld := hHeld'
      clear hHeld'
      (try simp only [Act.put, List.getElem_toArray, List.getElem_cons_succ, List.getElem_cons_zero, List.setIfInBounds_toArray, List.set_cons_zero, List.set_cons_succ])
      refine wpAnyH_take (i := 25) (v := ?_) rfl (by kernel_rfl) (by kernel_rfl) (by kernel_rfl) (fun _ _ _ h => h) (Or.inl ⟨by kernel_rfl, ?_⟩) (by assumption) ?_
      rotate_left
      · intro w hSw; (try dsimp only at hSw); go_simp; (try with_reducible rfl)
      (try simp only [Act.put, List.getElem_toArray, List.getElem_cons_succ, List.getElem_cons_zero, List.setIfInBounds_toArray, List.set_cons_zero, List.set_cons_succ])
      refine wpAnyH_done (by kernel_rfl) ?_ _
      (try simp only [List.getElem_toArray, List.getElem_cons_succ, List.getElem_cons_zero, List.set_cons_zero, List.set_cons_succ])
      go_wp2_with fail
      exact bodyPost_ret (v := .tuple #[.agg #[.int .u8 (en[m].toNat : Int), .int .u8 (en[m1].toNat : Int), .int .u8 (en[m2].toNat : Int), .int .u8 255], .bool true]) (by simp [results, Tryz.results204, go_sem, d0, d1, d2, d3]) rfl ⟨by rw [hq.out], ((below_set (below_set (below_set (below_set HP.out.2.2 (Nat.le_refl _)) (Nat.le_refl _)) (Nat.le_refl _)) (Nat.le_refl _))).drew⟩
end Go.Proofs.YtccldalagbfmhaaGreat
