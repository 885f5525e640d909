/- farbfeld: Write. -/
import Derived.Test.YtfgcbhcfekonnaaFfR
namespace Go.Proofs.Ytfgcbhcfekonnaa
open Go.RowKit
set_option linter.unusedVariables false
set_option linter.unusedSimpArgs false

theorem small_div {W : Nat} (h : W ≤ 60) : (W : Int) / 16777216 = 0 ∧ (W : Int) / 65536 = 0 ∧ (W : Int) / 256 = 0 := by omega
theorem cells_hd (w : World) (W : Nat) (h : W ≤ 60) (j : Nat) (b : UInt8) (hj : ([0, 0, 0, UInt8.ofNat W] : List UInt8)[j]? = some b) : (w.alloc (.cells #[.int .u8 0, .int .u8 0, .int .u8 0, .int .u8 (W : Int)] 5)).cell? ⟨w.heap.size, j, none⟩ = some (.int .u8 (b.toNat : Int)) :=
  cells_new w [0, 0, 0, UInt8.ofNat W] _ (by simp only [C8, List.map]; rw [ofNat8 (show W < 256 by omega)]; rfl) j b hj
theorem cells_two (w : World) (u : UInt8) (j : Nat) (b : UInt8) (hj : ([u, u] : List UInt8)[j]? = some b) : (w.alloc (.cells #[.int .u8 (u.toNat : Int), .int .u8 (u.toNat : Int)] 5)).cell? ⟨w.heap.size, j, none⟩ = some (.int .u8 (b.toNat : Int)) :=
  cells_new w [u, u] _ rfl j b hj
/-- what holds in Write's loops -/
structure WrI (w0 w : World) (W H n c b off : Nat) (l : List UInt8) : Prop where
  I : IB w w0.heap.size (W : Int) (H : Int) (some ⟨b, off, none⟩) n c
  C : ∀ j (hj : j < l.length), w.cell? ⟨b, off + j, none⟩ = some (.int .u8 (l[j].toNat : Int))
  B : Below w0.heap.size w0 w
theorem WrI.next {w0 w w' : World} {W H n c b off : Nat} {l : List UInt8} (h : WrI w0 w W H n c b off l) (hb : Below w.heap.size w w') : WrI w0 w' W H n c b off l :=
  ⟨Blk.below h.I hb (Blk.lt h.I), fun j hj => (hb.cell (p := ⟨b, off + j, none⟩) (World.block_lt_of_cell? w _ (h.C j hj))).trans (h.C j hj), below_next h.B hb⟩
theorem WrI.grow {w0 w w' : World} {W H n c b off : Nat} {l : List UInt8} {base : Nat} {v : Value} {m : List UInt8} (h : WrI w0 w W H n c b off l) (o : Owns8 w base v m) (hg : w.grownBy w' v.ownBlock) (hb : Below w0.heap.size w0 w') (hbw : b < w0.heap.size) (hbb : w0.heap.size ≤ base) : WrI w0 w' W H n c b off l :=
  ⟨h.I.grown hg (fun e => by
    rcases o.2 with ⟨rfl, _⟩ | ⟨r, cap, cur, rfl, _, hr, _⟩
    · cases e
    · have hk : w0.heap.size = r := by simpa [Value.ownBlock] using e
      subst hk
      exact Blk.ne_ h.I hr (by decide) rfl), fun j hj => by
    have h1 := h.C j hj
    refine (World.cell?_of_block (hg.block b (World.block_lt_of_cell? w _ h1) (fun e => ?_))).trans h1
    rcases o.2 with ⟨rfl, _⟩ | ⟨r, cap, cur, rfl, hr0, hr, _⟩
    · cases e
    · have hk : b = r := by simpa [Value.ownBlock] using e
      omega, hb⟩
set_option maxRecDepth 100000 in
set_option maxHeartbeats 4000000 in
theorem ffWrite_yes {w : World} {W H n c b off : Nat} {l : List UInt8} (hW : W ≤ 60) (hH : H ≤ 60) (hR : RightP W H n) (hl : n = l.length) (hn : n ≤ 100000) (hcell : ∀ j (hj : j < l.length), w.cell? ⟨b, off + j, none⟩ = some (.int .u8 (l[j].toNat : Int))) (hbw : b < w.heap.size) :
    Calls Try.prog 34 #[.agg #[.int .i64 (W : Int), .int .i64 (H : Int), .slice (some ⟨b, off, none⟩) n c]] w fun e w' => e = .returned (.tuple #[.string (strOf (ffFile W H l)), .int .i64 0]) ∧ Below w.heap.size w w' := by
  have HR := Lib.hid (fun w => right_bool (a := some ⟨b, off, none⟩) (c := c) (decide_eq_true hR) w)
  have HL := Lib.hid hl
  obtain ⟨hi0, hi1⟩ := idx2 (.int .i64 (W : Int)) (.int .i64 (H : Int))
  have hWI : (W : Int) ≤ 60 := by omega
  have hHI : (H : Int) ≤ 60 := by omega
  obtain ⟨hw1, hw2, hw3⟩ := small_div hW
  obtain ⟨hh1, hh2, hh3⟩ := small_div hH
  have P0 : WrI w (w.alloc (.cells #[.int .i64 (W : Int), .int .i64 (H : Int), .slice (some ⟨b, off, none⟩) n c] 46)) W H n c b off l :=
    ⟨IB.new w (W : Int) (H : Int) (some ⟨b, off, none⟩) n c, fun j hj => (World.cell?_alloc_lt _ _ _ hbw).trans (hcell j hj), (Below.refl _ _).alloc (Nat.le_refl _) _⟩
  clear hl hcell hR
  go_enter Try.func34, Try.ntmps34
  go_wp2_with (go_at_call 54; refine (HR.out _).mono ?_; rintro e w1 ⟨rfl, b1⟩; have P1 := P0.next b1; obtain ⟨e0, e1, e2, v0, v1, v2, il⟩ := IB.all P1.I; have hcv := convLit w1)
  have P2 : WrI w (w1.alloc (.cells #[.int .u8 102, .int .u8 97, .int .u8 114, .int .u8 98, .int .u8 102, .int .u8 101, .int .u8 108, .int .u8 100] 5 (8, 9))) W H n c b off l := P1.next ((Below.refl _ _).alloc (Nat.le_refl _) _)
  have G2 := lit8_new w1
  generalize w1.alloc (.cells #[.int .u8 102, .int .u8 97, .int .u8 114, .int .u8 98, .int .u8 102, .int .u8 101, .int .u8 108, .int .u8 100] 5 (8, 9)) = w2 at P2 G2 ⊢
  clear hcv b1 e0 e1 e2 v0 v1 v2 il P1
  generalize w1.heap.size = g1 at G2 ⊢
  have HP2 := Lib.hid P2
  have HG2 := Lib.hid G2
  clear P0 P2 G2
  go_loopg [4, 19] 2 (fun gh v4 v19 wr => Hid (WrI w wr W H n c b off l) ∧ ((gh = 2 ∧ v19 = .int .i64 0 ∧ v4 = .slice (some ⟨g1, 0, none⟩) 8 8 ∧ Hid (Lit8 wr g1)) ∨ (gh = 1 ∧ v19 = .int .i64 1 ∧ Hid (Owns8 wr w.heap.size v4 (ffW8 ++ [0, 0, 0, UInt8.ofNat W]))) ∨ (gh = 0 ∧ v19 = .int .i64 2 ∧ Hid (Owns8 wr w.heap.size v4 (ffHd W H)))))
  case atStart => exact ⟨HP2, .inl ⟨rfl, rfl, rfl, HG2⟩⟩
  case round =>
    obtain ⟨hX, hor⟩ := hrel
    clear HP2 HG2
    rcases hor with ⟨rfl, rfl, rfl, hG⟩ | ⟨rfl, rfl, hO⟩ | ⟨rfl, rfl, hO⟩
    · clear hh1 hh2 hh3
      go_wp2_with (at_builtin; refine wpList_append_full rfl (.tmp 22) (.tmp 34) rfl w.heap.size g1 8 8 ffW8 [0, 0, 0, UInt8.ofNat W] rfl rfl (hG.out.below ((Below.refl _ _).alloc (Nat.le_refl _) _)) wr.heap.size 4 4 rfl rfl (cells_hd wr W hW) (by simp [ffW8]) (by simp [ffW8]) (by have := hX.out.B.size; simp; omega) ?_; intro v3 w3 own3 b3)
      go_roundg 1
      case measure => decide
      case rel => exact ⟨Lib.hid ((hX.out.next ((Below.refl _ _).alloc (Nat.le_refl _) _)).next b3), .inr (.inl ⟨rfl, rfl, Lib.hid own3⟩)⟩
    · clear hw1 hw2 hw3
      have own := hO.out
      go_wp2_with (at_builtin; refine wpList_append_row rfl (.tmp 22) (.tmp 34) rfl w.heap.size _ _ [0, 0, 0, UInt8.ofNat H] rfl (own.alloc _) wr.heap.size 4 4 rfl rfl (cells_hd wr H hH) (by simp [ffW8]) (by have := hX.out.B.size; simp; omega) ?_; intro v3 w3 own3 b3 hg3)
      go_roundg 0
      case measure => decide
      case rel =>
        have P3 := hX.out.next ((Below.refl _ _).alloc (Nat.le_refl _) (.cells #[.int .u8 0, .int .u8 0, .int .u8 0, .int .u8 (H : Int)] 5))
        exact ⟨Lib.hid (P3.grow (own.alloc _) hg3 (P3.B.trans b3) hbw (Nat.le_refl _)), .inr (.inr ⟨rfl, rfl, Lib.hid own3⟩)⟩
    · obtain ⟨e0, e1, e2, v0, v1, v2, il⟩ := IB.all hX.out.I
      have HX := Lib.hid (And.intro hX.out hO.out)
      clear hX hO
      go_wp2_with fail
      clear e0 e1 e2 v0 v1 v2 il
      go_loopg [4, 40] n (fun gh v4 v40 wr => ∃ j, v40 = .int .i64 ((j : Nat) : Int) ∧ j + gh = n ∧ Hid (WrI w wr W H n c b off l ∧ Owns8 wr w.heap.size v4 (ffHd W H ++ dbl (l.take j))))
      case atStart => exact ⟨0, rfl, by omega, Lib.hid ⟨HX.out.1, by simpa [dbl] using HX.out.2⟩⟩
      case round =>
        obtain ⟨j, rfl, hj, hY⟩ := hrel
        clear HX
        by_cases hlt : j < n
        · have hltI : (j : Int) < (n : Int) := by omega
          have hjl : j < l.length := by rw [← HL.out]; exact hlt
          have cj := hY.out.1.C j hjl
          have HT := Lib.hid (dbl_take hjl)
          have own := hY.out.2
          have hll : (ffHd W H ++ dbl (l.take j)).length + [l[j], l[j]].length < 1099511627776 := by rw [List.length_append, dbl_len, List.length_take]; simp [ffHd]; have := HL.out; omega
          generalize l[j] = u at cj HT hll
          go_wp2_with (at_builtin; refine wpList_append_row rfl (.tmp 44) (.tmp 47) rfl w.heap.size _ _ [u, u] rfl (own.alloc _) wr.heap.size 2 2 rfl rfl (cells_two wr u) hll (by have := hY.out.1.B.size; simp; omega) ?_; intro v3 w3 own3 b3 hg3)
          go_roundg (n - (j + 1))
          case measure => omega
          case rel =>
            have P3 := hY.out.1.next ((Below.refl _ _).alloc (Nat.le_refl _) (.cells #[.int .u8 (u.toNat : Int), .int .u8 (u.toNat : Int)] 5))
            exact ⟨j + 1, by go_num, by omega, Lib.hid ⟨P3.grow (own.alloc _) hg3 (P3.B.trans b3) hbw (Nat.le_refl _), by rw [HT.out, ← List.append_assoc]; exact own3⟩⟩
        · obtain rfl : j = n := by omega
          have hltI : ¬ (j : Int) < (j : Int) := by omega
          have own := hY.out.2
          have HT : Hid (l.take j = l) := Lib.hid (List.take_of_length_le (by rw [← HL.out]; exact Nat.le_refl _))
          go_wp2_with (refine wpList_convert_owned rfl (.tmp 50) 9 Try.underlying9 rfl _ _ _ rfl own ?_)
          go_ret2
          exact ⟨ret2 (vstr (by rw [HT.out]; rfl)) rfl, hY.out.1.B⟩
end Go.Proofs.Ytfgcbhcfekonnaa
