/- palette.far, Nearest, the reference's Far, and the walk of PaletteNearest. -/
import Derived.Test.YtahiaamjophneaaPaletteW
import Derived.Test.YtahiaamjophneaaNearLaw
namespace Go.Proofs.Ytahiaamjophneaa
open Go.RowKit
set_option linter.unusedVariables false

def colV (c : Col) : Value := .agg #[.int .u8 c.r, .int .u8 c.g, .int .u8 c.b, .int .u8 c.a]

theorem square_any (x y : Int) (w : World) (hx : 0 ≤ x ∧ x ≤ 255) (hy : 0 ≤ y ∧ y ≤ 255) :
    Calls Try.prog 67 #[.int .u8 x, .int .u8 y] w fun e w' => e = .returned (.int .i64 (sq (x - y))) ∧ w = w' := by
  obtain ⟨h1, h2⟩ := sq_range hx hy
  obtain ⟨x1, x2⟩ := hx
  obtain ⟨y1, y2⟩ := hy
  have h3 : -9223372036854775808 ≤ (x - y) * (x - y) := by unfold sq at h1; omega
  have h4 : (x - y) * (x - y) ≤ 65025 := by unfold sq at h2; omega
  go_enter Try.func67, Try.ntmps67
  go_wp2
  go_ret
  exact ⟨rfl, rfl⟩

set_option maxHeartbeats 2000000 in
theorem refFar10_any (x y : Col) (w : World) (hx : x.ok) (hy : y.ok) :
    Calls Try.prog 36 #[.agg #[.int .u8 x.r, .int .u8 x.g, .int .u8 x.b, .int .u8 x.a], .agg #[.int .u8 y.r, .int .u8 y.g, .int .u8 y.b, .int .u8 y.a]] w fun e w' => e = .returned (.int .i64 (cdist x y)) ∧ Below w.heap.size w w' := by
  obtain ⟨a1, a2, a3, a4⟩ := hx
  obtain ⟨b1, b2, b3, b4⟩ := hy
  have r1 := sq_range a1 b1
  have r2 := sq_range a2 b2
  have r3 := sq_range a3 b3
  have r4 := sq_range a4 b4
  have q1 := Lib.hid (IntWalk.i64_in (sq (x.r - y.r) + sq (x.g - y.g)) (by omega))
  have q2 := Lib.hid (IntWalk.i64_in (sq (x.r - y.r) + sq (x.g - y.g) + sq (x.b - y.b)) (by omega))
  have q3 := Lib.hid (IntWalk.i64_in (sq (x.r - y.r) + sq (x.g - y.g) + sq (x.b - y.b) + sq (x.a - y.a)) (by omega))
  go_enter Try.func36, Try.ntmps36
  go_wp2_with fail
  have q1' := q1.out
  have q2' := q2.out
  have q3' := q3.out
  go_quiet ((go_at_call 67; exact Calls.quiet_of_same ((square_any _ _ _ (by assumption) (by assumption)).mono fun _ _ ⟨h, k⟩ => ⟨h, k.symm⟩)))
  go_wp2_with fail
  go_ret
  exact ⟨ret1 (vint rfl), below_drewN (((Below.refl _ _).alloc (Nat.le_refl _) _).alloc (by simp) _) _⟩

/-- the distance's parts, one behind the other -/
def fsum (x y : Col) : Nat → Int
  | 0 => 0
  | 1 => sq (x.r - y.r)
  | 2 => sq (x.r - y.r) + sq (x.g - y.g)
  | 3 => sq (x.r - y.r) + sq (x.g - y.g) + sq (x.b - y.b)
  | _ => cdist x y
theorem idx4 (p q r s : Value) : (∀ w, (Instr.index 135 (.agg #[p, q, r, s]) (.int .i64 0)).run Try.prog w = .ok p w) ∧ (∀ w, (Instr.index 135 (.agg #[p, q, r, s]) (.int .i64 1)).run Try.prog w = .ok q w) ∧
    (∀ w, (Instr.index 135 (.agg #[p, q, r, s]) (.int .i64 2)).run Try.prog w = .ok r w) ∧ (∀ w, (Instr.index 135 (.agg #[p, q, r, s]) (.int .i64 3)).run Try.prog w = .ok s w) :=
  ⟨fun _ => by kernel_rfl, fun _ => by kernel_rfl, fun _ => by kernel_rfl, fun _ => by kernel_rfl⟩

set_option maxHeartbeats 2000000 in
theorem far10_any (x y : Col) (w : World) (hx : x.ok) (hy : y.ok) :
    Calls Try.prog 66 #[.agg #[.int .u8 x.r, .int .u8 x.g, .int .u8 x.b, .int .u8 x.a], .agg #[.int .u8 y.r, .int .u8 y.g, .int .u8 y.b, .int .u8 y.a]] w fun e w' => e = .returned (.int .i64 (cdist x y)) ∧ Below w.heap.size w w' := by
  obtain ⟨a1, a2, a3, a4⟩ := hx
  obtain ⟨b1, b2, b3, b4⟩ := hy
  have r1 := sq_range a1 b1
  have r2 := sq_range a2 b2
  have r3 := sq_range a3 b3
  have r4 := sq_range a4 b4
  obtain ⟨a1, a1'⟩ := a1
  obtain ⟨a2, a2'⟩ := a2
  obtain ⟨a3, a3'⟩ := a3
  obtain ⟨a4, a4'⟩ := a4
  obtain ⟨b1, b1'⟩ := b1
  obtain ⟨b2, b2'⟩ := b2
  obtain ⟨b3, b3'⟩ := b3
  obtain ⟨b4, b4'⟩ := b4
  obtain ⟨i0, i1, i2, i3⟩ := idx4 (.int .i64 (x.r - y.r)) (.int .i64 (x.g - y.g)) (.int .i64 (x.b - y.b)) (.int .i64 (x.a - y.a))
  go_enter Try.func66, Try.ntmps66
  go_wp2_with fail
  go_loopg [5, 7, 37] 4 (fun g n d i wr => ∃ k : Nat, k + g = 4 ∧ i = .int .i64 k ∧ n = .int .i64 (fsum x y k) ∧ Below w.heap.size w wr)
  case atStart => exact ⟨0, rfl, rfl, rfl, ((Below.refl _ _).alloc (Nat.le_refl _) _).alloc (by simp) _⟩
  case round =>
    obtain ⟨k, hk, rfl, rfl, hb⟩ := hrel
    have hk4 : k = 0 ∨ k = 1 ∨ k = 2 ∨ k = 3 ∨ k = 4 := by omega
    rcases hk4 with rfl | rfl | rfl | rfl | rfl
    · have p1 : (x.r - y.r) * (x.r - y.r) ≤ 65025 := r1.2
      have p2 : 0 ≤ (x.r - y.r) * (x.r - y.r) := r1.1
      simp only [fsum]
      go_wp2_with fail
      go_roundg 3
      case measure => omega
      case rel => exact ⟨1, rfl, rfl, rfl, hb⟩
    · have p1 : (x.g - y.g) * (x.g - y.g) ≤ 65025 := r2.2
      have p2 : 0 ≤ (x.g - y.g) * (x.g - y.g) := r2.1
      simp only [fsum]
      go_wp2_with fail
      go_roundg 2
      case measure => omega
      case rel => exact ⟨2, rfl, rfl, rfl, hb⟩
    · have p1 : (x.b - y.b) * (x.b - y.b) ≤ 65025 := r3.2
      have p2 : 0 ≤ (x.b - y.b) * (x.b - y.b) := r3.1
      simp only [fsum]
      go_wp2_with fail
      go_roundg 1
      case measure => omega
      case rel => exact ⟨3, rfl, rfl, rfl, hb⟩
    · have p1 : (x.a - y.a) * (x.a - y.a) ≤ 65025 := r4.2
      have p2 : 0 ≤ (x.a - y.a) * (x.a - y.a) := r4.1
      simp only [fsum]
      go_wp2_with fail
      go_roundg 0
      case measure => omega
      case rel => exact ⟨4, rfl, rfl, rfl, hb⟩
    · go_wp2_with fail
      go_ret
      exact ⟨ret1 (vint rfl), hb⟩

/-- the slice's elements: n colours at an address, four cells each -/
structure IsCols (w : World) (b off n : Nat) (cl : List Col) : Prop where
  len : cl.length = n
  ok : ∀ i, i < n → (cl.getD i nocol).ok
  cr : ∀ i, i < n → w.cell? ⟨b, off + i * 4, none⟩ = some (.int .u8 (cl.getD i nocol).r)
  cg : ∀ i, i < n → w.cell? ⟨b, off + i * 4 + 1, none⟩ = some (.int .u8 (cl.getD i nocol).g)
  cb : ∀ i, i < n → w.cell? ⟨b, off + i * 4 + 2, none⟩ = some (.int .u8 (cl.getD i nocol).b)
  ca : ∀ i, i < n → w.cell? ⟨b, off + i * 4 + 3, none⟩ = some (.int .u8 (cl.getD i nocol).a)

set_option maxHeartbeats 2000000 in
theorem nearest_any (b off n cap : Nat) (cl : List Col) (c : Col) (w : World) (hl : IsCols w b off n cl) (hc : c.ok) (hn : n ≤ 1000) (hp : 0 < n) :
    Calls Try.prog 35 #[.slice (some ⟨b, off, none⟩) n cap, .agg #[.int .u8 c.r, .int .u8 c.g, .int .u8 c.b, .int .u8 c.a]] w fun e w' => e = .returned (.tuple #[.int .i64 (near cl c n), .bool true]) ∧ Below w.heap.size w w' := by
  have hbB : b < w.heap.size := World.block_lt_of_cell? w _ (hl.cr 0 hp)
  go_enter Try.func35, Try.ntmps35
  go_wp2_with fail
  go_loopg [6, 7, 8, 9, 12] n (fun g best some_ i x k wr => ∃ q : Nat, q + g = n ∧ k = .int .i64 q ∧ best = .int .i64 (near cl c q) ∧ some_ = .bool (decide (0 < q)) ∧ Below (w.heap.size + 1) (w.alloc (.cells #[.int .u8 c.r, .int .u8 c.g, .int .u8 c.b, .int .u8 c.a] 37)) wr)
  case atStart => exact ⟨0, by omega, rfl, rfl, rfl, Below.refl _ _⟩
  case round =>
    obtain ⟨q, hq, rfl, rfl, rfl, hb⟩ := hrel
    by_cases hlt : q < n
    · have cell : ∀ p : Addr, p.block = b → wr.cell? p = w.cell? p := fun p hp => (hb.cell (by rw [hp]; omega)).trans (World.cell?_alloc_lt w _ p (by rw [hp]; exact hbB))
      have x0 := (cell _ rfl).trans (hl.cr q hlt)
      have x1 := (cell _ rfl).trans (hl.cg q hlt)
      have x2 := (cell _ rfl).trans (hl.cb q hlt)
      have x3 := (cell _ rfl).trans (hl.ca q hlt)
      have y : ∀ i, wr.cell? ⟨w.heap.size, i, none⟩ = #[Value.int .u8 c.r, Value.int .u8 c.g, Value.int .u8 c.b, Value.int .u8 c.a][i]? := fun i => (hb.cell (p := ⟨w.heap.size, i, none⟩) (by simp)).trans (cell_new _ _ _ _ _ rfl)
      have y0 : wr.cell? ⟨w.heap.size, 0, none⟩ = some (.int .u8 c.r) := y 0
      have y1 : wr.cell? ⟨w.heap.size, 1, none⟩ = some (.int .u8 c.g) := y 1
      have y2 : wr.cell? ⟨w.heap.size, 2, none⟩ = some (.int .u8 c.b) := y 2
      have y3 : wr.cell? ⟨w.heap.size, 3, none⟩ = some (.int .u8 c.a) := y 3
      have HC := Lib.hid cell
      clear y cell
      have hz := hb.size
      simp at hz
      by_cases h0 : q = 0
      · subst h0
        simp only [Nat.zero_mul, Nat.add_zero] at x0 x1 x2 x3
        have hd : decide (0 < 0) = false := rfl
        have e0 : near cl c 0 = 0 := rfl
        rw [hd, e0]
        clear hd e0
        go_wp2_with fail
        go_quiet (fail)
        go_wp2_with fail
        go_roundg (n - 1)
        case measure => omega
        case rel => exact ⟨1, by omega, rfl, rfl, rfl, below_drewN (hb.alloc (by omega) _) _⟩
      · have hd : decide (0 < q) = true := decide_eq_true (by omega)
        have hlt2 := near_lt cl c (q - 1)
        rw [show q - 1 + 1 = q by omega] at hlt2
        obtain ⟨m, hm⟩ : ∃ m, m = near cl c q := ⟨_, rfl⟩
        have hmn : m < n := by omega
        have hmi : (m : Int) < (n : Int) := by omega
        have z0 := (HC.out _ rfl).trans (hl.cr m hmn)
        have z1 := (HC.out _ rfl).trans (hl.cg m hmn)
        have z2 := (HC.out _ rfl).trans (hl.cb m hmn)
        have z3 := (HC.out _ rfl).trans (hl.ca m hmn)
        have o1 := hl.ok q hlt
        have o2 := hl.ok m hmn
        rw [hd, ← hm]
        have HM := Lib.hid hm
        have st := Lib.hid (show near cl c (q + 1) = if cdist (cl.getD q nocol) c < cdist (cl.getD m nocol) c then q else m by rw [near, if_neg h0, ← hm])
        clear hd hm hlt2
        obtain ⟨C, hC⟩ : ∃ C, C = cl.getD q nocol := ⟨_, rfl⟩
        obtain ⟨D, hD⟩ : ∃ D, D = cl.getD m nocol := ⟨_, rfl⟩
        rw [← hC] at x0 x1 x2 x3 o1
        rw [← hD] at z0 z1 z2 z3 o2
        have HCC := Lib.hid hC
        have HDD := Lib.hid hD
        clear hC hD
        go_wp2_with fail
        go_region_held3 (fun w' => w'.cell? ⟨wr.heap.size, 0, none⟩ = some (.int .u8 C.r) ∧ w'.cell? ⟨wr.heap.size, 1, none⟩ = some (.int .u8 C.g) ∧ w'.cell? ⟨wr.heap.size, 2, none⟩ = some (.int .u8 C.b) ∧ w'.cell? ⟨wr.heap.size, 3, none⟩ = some (.int .u8 C.a) ∧
            w'.cell? ⟨w.heap.size, 0, none⟩ = some (.int .u8 c.r) ∧ w'.cell? ⟨w.heap.size, 1, none⟩ = some (.int .u8 c.g) ∧ w'.cell? ⟨w.heap.size, 2, none⟩ = some (.int .u8 c.b) ∧ w'.cell? ⟨w.heap.size, 3, none⟩ = some (.int .u8 c.a) ∧
            w'.cell? ⟨b, off + m * 4, none⟩ = some (.int .u8 D.r) ∧ w'.cell? ⟨b, off + m * 4 + 1, none⟩ = some (.int .u8 D.g) ∧ w'.cell? ⟨b, off + m * 4 + 2, none⟩ = some (.int .u8 D.b) ∧ w'.cell? ⟨b, off + m * 4 + 3, none⟩ = some (.int .u8 D.a) ∧ Below wr.heap.size wr w' ∧ wr.heap.size < w'.heap.size)
          (first | (refine ⟨?_, ?_, ?_, ?_, ?_, ?_, ?_, ?_, ?_, ?_, ?_, ?_, ?_, ?_⟩ <;> first | go_keep | exact ((Below.refl _ _).alloc (Nat.le_refl _) _).drew | (simp; done)) | (go_split_ands; refine ⟨?_, ?_, ?_, ?_, ?_, ?_, ?_, ?_, ?_, ?_, ?_, ?_, ?_, ?_⟩ <;> first | (rw [hc4 _ _ (by omega)]; assumption) | (exact Below.trans (by assumption) (hb4.mono (by omega))) | omega))
          (first | (go_at_call 66; refine (far10_any _ _ _ (by assumption) (by assumption)).mono ?_; rintro e w4 ⟨rfl, hb4⟩; obtain ⟨hc4, hf4⟩ := bcell hb4; have hz4 := hb4.size))
        go_split_ands
        have hbx : Below wr.heap.size wr w4 := by assumption
        have hbn := hb.trans (hbx.mono (show w.heap.size + 1 ≤ wr.heap.size by omega))
        have st' := st.out
        rw [← HCC.out, ← HDD.out] at st'
        have ST := Lib.hid st'
        clear st' st hc4 hf4
        by_cases hcmp : cdist C c < cdist D c
        · go_wp2_with fail
          go_roundg (n - (q + 1))
          case measure => omega
          case rel => exact ⟨q + 1, by omega, by go_num, by rw [ST.out, if_pos hcmp], by rw [decide_eq_true (by omega)], hbn⟩
        · go_wp2_with fail
          go_roundg (n - (q + 1))
          case measure => omega
          case rel => exact ⟨q + 1, by omega, by go_num, by rw [ST.out, if_neg (by omega)], by rw [decide_eq_true (by omega)], hbn⟩
    · obtain rfl : q = n := by omega
      have hd : decide (0 < q) = true := decide_eq_true (by omega)
      rw [hd]
      go_wp2_with fail
      go_ret2
      exact ⟨rfl, ((Below.refl _ _).alloc (Nat.le_refl _) _).trans (hb.mono (by omega))⟩

theorem nearest_none (A : Option Addr) (cap : Nat) (c : Col) (w : World) :
    Calls Try.prog 35 #[.slice A 0 cap, .agg #[.int .u8 c.r, .int .u8 c.g, .int .u8 c.b, .int .u8 c.a]] w fun e w' => e = .returned (.tuple #[.int .i64 0, .bool false]) ∧ Below w.heap.size w w' := by
  go_enter Try.func35, Try.ntmps35
  go_wp2_with fail
  go_loopg [6, 7, 12] 0 (fun g i s k wr => i = .int .i64 0 ∧ s = .bool false ∧ k = .int .i64 0 ∧ Below w.heap.size w wr)
  case atStart => exact ⟨rfl, rfl, rfl, (Below.refl _ _).alloc (Nat.le_refl _) _⟩
  case round =>
    obtain ⟨rfl, rfl, rfl, hb⟩ := hrel
    go_wp2_with fail
    go_ret2
    exact ⟨rfl, hb⟩

set_option maxHeartbeats 4000000 in
theorem nearest_walk (b off n cap : Nat) (cl : List Col) (c : Col) (w : World) (hl : IsCols w b off n cl) (hc : c.ok) (hn : n ≤ 100) (hp : 0 < n) :
    Calls Try.prog 9 #[.slice (some ⟨b, off, none⟩) n cap, .agg #[.int .u8 c.r, .int .u8 c.g, .int .u8 c.b, .int .u8 c.a]] w fun e w' => e = .returned (.bool true) ∧ Below w.heap.size w w' := by
  have hbB : b < w.heap.size := World.block_lt_of_cell? w _ (hl.cr 0 hp)
  have hz0 : ((n : Int) == 0) = false := by simp; omega
  have hn' : ¬ (100 : Int) < (n : Int) := by omega
  obtain ⟨m, hm⟩ : ∃ m, m = near cl c n := ⟨_, rfl⟩
  have hlt := near_lt cl c (n - 1)
  rw [show n - 1 + 1 = n by omega, ← hm] at hlt
  have hmi : (m : Int) < (n : Int) := by omega
  have hd1 : decide (n ≤ m) = false := decide_eq_false (by omega)
  have hd2 : decide ((m : Int) < 0) = false := decide_eq_false (by omega)
  have HM := Lib.hid hm
  clear hm
  go_enter Try.func9, Try.ntmps9
  go_wp2_with fail
  refine (nearest_any b off n cap cl c _ ⟨hl.len, hl.ok, fun i hi => (World.cell?_alloc_lt w _ _ hbB).trans (hl.cr i hi), fun i hi => (World.cell?_alloc_lt w _ _ hbB).trans (hl.cg i hi), fun i hi => (World.cell?_alloc_lt w _ _ hbB).trans (hl.cb i hi), fun i hi => (World.cell?_alloc_lt w _ _ hbB).trans (hl.ca i hi)⟩ hc (by omega) hp).mono ?_
  rintro e w1 ⟨rfl, hb1⟩
  rw [← HM.out]
  go_wp2_with fail
  go_loopg [7, 8, 9, 10, 47] n (fun g k x d e i wr => ∃ q : Nat, q + g = n ∧ i = .int .i64 q ∧ Below (w.heap.size + 1) (w.alloc (.cells #[.int .u8 c.r, .int .u8 c.g, .int .u8 c.b, .int .u8 c.a] 37)) wr)
  case atStart => exact ⟨0, by omega, rfl, hb1.mono (by simp)⟩
  case round =>
    obtain ⟨q, hq, rfl, hb⟩ := hrel
    have hz := hb.size
    simp at hz
    by_cases hlt2 : q < n
    · have cell : ∀ p : Addr, p.block = b → wr.cell? p = w.cell? p := fun p hp => (hb.cell (by rw [hp]; omega)).trans (World.cell?_alloc_lt w _ p (by rw [hp]; exact hbB))
      have x0 := (cell _ rfl).trans (hl.cr q hlt2)
      have x1 := (cell _ rfl).trans (hl.cg q hlt2)
      have x2 := (cell _ rfl).trans (hl.cb q hlt2)
      have x3 := (cell _ rfl).trans (hl.ca q hlt2)
      have z0 := (cell _ rfl).trans (hl.cr m hlt)
      have z1 := (cell _ rfl).trans (hl.cg m hlt)
      have z2 := (cell _ rfl).trans (hl.cb m hlt)
      have z3 := (cell _ rfl).trans (hl.ca m hlt)
      have y : ∀ i, wr.cell? ⟨w.heap.size, i, none⟩ = #[Value.int .u8 c.r, Value.int .u8 c.g, Value.int .u8 c.b, Value.int .u8 c.a][i]? := fun i => (hb.cell (p := ⟨w.heap.size, i, none⟩) (by simp)).trans (cell_new _ _ _ _ _ rfl)
      have y0 : wr.cell? ⟨w.heap.size, 0, none⟩ = some (.int .u8 c.r) := y 0
      have y1 : wr.cell? ⟨w.heap.size, 1, none⟩ = some (.int .u8 c.g) := y 1
      have y2 : wr.cell? ⟨w.heap.size, 2, none⟩ = some (.int .u8 c.b) := y 2
      have y3 : wr.cell? ⟨w.heap.size, 3, none⟩ = some (.int .u8 c.a) := y 3
      clear y cell
      have o1 := hl.ok q hlt2
      have o2 := hl.ok m hlt
      have best := near_best cl c n q hlt2
      rw [← HM.out] at best
      obtain ⟨C, hC⟩ : ∃ C, C = cl.getD q nocol := ⟨_, rfl⟩
      obtain ⟨D, hD⟩ : ∃ D, D = cl.getD m nocol := ⟨_, rfl⟩
      rw [← hC] at x0 x1 x2 x3 o1 best
      rw [← hD] at z0 z1 z2 z3 o2 best
      have HCC := Lib.hid hC
      have HDD := Lib.hid hD
      obtain ⟨best1, best2⟩ := best
      have B2 := Lib.hid best2
      clear hC hD best2
      go_wp2_with fail
      go_region_held3 (fun w' => w'.cell? ⟨wr.heap.size, 0, none⟩ = some (.int .u8 C.r) ∧ w'.cell? ⟨wr.heap.size, 1, none⟩ = some (.int .u8 C.g) ∧ w'.cell? ⟨wr.heap.size, 2, none⟩ = some (.int .u8 C.b) ∧ w'.cell? ⟨wr.heap.size, 3, none⟩ = some (.int .u8 C.a) ∧
          w'.cell? ⟨w.heap.size, 0, none⟩ = some (.int .u8 c.r) ∧ w'.cell? ⟨w.heap.size, 1, none⟩ = some (.int .u8 c.g) ∧ w'.cell? ⟨w.heap.size, 2, none⟩ = some (.int .u8 c.b) ∧ w'.cell? ⟨w.heap.size, 3, none⟩ = some (.int .u8 c.a) ∧
          w'.cell? ⟨b, off + m * 4, none⟩ = some (.int .u8 D.r) ∧ w'.cell? ⟨b, off + m * 4 + 1, none⟩ = some (.int .u8 D.g) ∧ w'.cell? ⟨b, off + m * 4 + 2, none⟩ = some (.int .u8 D.b) ∧ w'.cell? ⟨b, off + m * 4 + 3, none⟩ = some (.int .u8 D.a) ∧ Below wr.heap.size wr w' ∧ wr.heap.size < w'.heap.size)
        (first | (refine ⟨?_, ?_, ?_, ?_, ?_, ?_, ?_, ?_, ?_, ?_, ?_, ?_, ?_, ?_⟩ <;> first | go_keep | exact ((Below.refl _ _).alloc (Nat.le_refl _) _).drew | (simp; done)) | (go_split_ands; refine ⟨?_, ?_, ?_, ?_, ?_, ?_, ?_, ?_, ?_, ?_, ?_, ?_, ?_, ?_⟩ <;> first | (rw [hc4 _ _ (by omega)]; assumption) | (exact Below.trans (by assumption) (hb4.mono (by omega))) | omega))
        (first | (go_at_call 36; refine (refFar10_any _ _ _ (by assumption) (by assumption)).mono ?_; rintro e w4 ⟨rfl, hb4⟩; obtain ⟨hc4, hf4⟩ := bcell hb4; have hz4 := hb4.size))
      go_split_ands
      have hbx : Below wr.heap.size wr w4 := by assumption
      have hbn := hb.trans (hbx.mono (show w.heap.size + 1 ≤ wr.heap.size by omega))
      clear hc4 hf4
      cases hcmp : (cdist C c == cdist D c)
      · go_wp2_with fail
        go_roundg (n - (q + 1))
        case measure => omega
        case rel => exact ⟨q + 1, by omega, by go_num, hbn⟩
      · have hle : m ≤ q := B2.out (by simpa using hcmp)
        have hle' : decide (q < m) = false := decide_eq_false (by omega)
        go_wp2_with fail
        go_roundg (n - (q + 1))
        case measure => omega
        case rel => exact ⟨q + 1, by omega, by go_num, hbn⟩
    · go_wp2_with (go_at_call 30; refine (paletteAwake _).mono ?_; rintro e w5 ⟨rfl, hb5⟩)
      go_ret
      exact ⟨rfl, (((Below.refl _ _).alloc (Nat.le_refl _) _).trans (hb.mono (by omega))).trans (hb5.mono (by omega))⟩

theorem nearest_walk0 (A : Option Addr) (cap : Nat) (c : Col) (w : World) :
    Calls Try.prog 9 #[.slice A 0 cap, .agg #[.int .u8 c.r, .int .u8 c.g, .int .u8 c.b, .int .u8 c.a]] w fun e w' => e = .returned (.bool true) ∧ Below w.heap.size w w' := by
  go_enter Try.func9, Try.ntmps9
  go_wp2_with fail
  refine (nearest_none A cap c _).mono ?_
  rintro e w1 ⟨rfl, hb1⟩
  go_wp2_with (go_at_call 30; refine (paletteAwake _).mono ?_; rintro e w5 ⟨rfl, hb5⟩)
  go_ret
  have q1 := ((Below.refl w.heap.size w).alloc (Nat.le_refl _) _).trans (hb1.mono (by simp))
  exact ⟨rfl, q1.trans (hb5.mono q1.size)⟩

theorem nearest_walkL (A : Option Addr) (n cap : Nat) (c : Col) (w : World) (h : (100 : Int) < (n : Int)) :
    Calls Try.prog 9 #[.slice A n cap, .agg #[.int .u8 c.r, .int .u8 c.g, .int .u8 c.b, .int .u8 c.a]] w fun e w' => e = .returned (.bool true) ∧ Below w.heap.size w w' := by
  go_enter Try.func9, Try.ntmps9
  go_wp2_with (go_at_call 30; refine (paletteAwake _).mono ?_; rintro e w5 ⟨rfl, hb5⟩)
  go_ret
  have q1 := ((Below.refl w.heap.size w).alloc (Nat.le_refl _) (.cells #[.int .u8 c.r, .int .u8 c.g, .int .u8 c.b, .int .u8 c.a] 37))
  exact ⟨rfl, q1.trans (hb5.mono q1.size)⟩

/-- what is known of an argument that is a slice of colours -/
def SliceCols (w : World) (A : Option Addr) (n : Nat) (cl : List Col) : Prop := n = 0 ∨ ∃ b off, A = some ⟨b, off, none⟩ ∧ IsCols w b off n cl

theorem paletteNearest_said (w : World) (A : Option Addr) (n cap : Nat) (cl : List Col) (hl : SliceCols w A n cl) (c : Col) (hc : c.ok) :
    Calls Try.prog 9 #[.slice A n cap, .agg #[.int .u8 c.r, .int .u8 c.g, .int .u8 c.b, .int .u8 c.a]] w fun e w' => e = .returned (.bool true) ∧ Below w.heap.size w w' := by
  rcases hl with rfl | ⟨b, off, rfl, hl⟩
  · exact nearest_walk0 A cap c w
  · by_cases h : 100 < n
    · exact nearest_walkL _ n cap c w (by omega)
    · rcases Nat.eq_zero_or_pos n with rfl | hp
      · exact nearest_walk0 _ cap c w
      · exact nearest_walk b off n cap cl c w hl hc (by omega) hp
end Go.Proofs.Ytahiaamjophneaa
