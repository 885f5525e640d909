/- The law QoiShort. -/
import Derived.Test.YtojobfnbakiicaaQoiH
import Derived.Test.YtojobfnbakiicaaColOpen
import Derived.Deep.RegionHeld3
namespace Go.Proofs.Ytojobfnbakiicaa
open Go.RowKit
set_option linter.unusedVariables false
set_option linter.unusedSimpArgs false

theorem refPlace26 {c : Qc} {p : Nat} (hp : qplace c = p) (w : World) : Calls Try.prog 6 #[.agg #[.int .u8 (c.r.toNat : Int), .int .u8 (c.g.toNat : Int), .int .u8 (c.b.toNat : Int), .int .u8 (c.a.toNat : Int)]] w fun e w' => e = .returned (.int .i64 (p : Int)) ∧ Below w.heap.size w w' := by
  have h1 : (c.r.toNat : Int) < 256 := by have := UInt8.toNat_lt c.r; omega
  have h2 : (c.g.toNat : Int) < 256 := by have := UInt8.toNat_lt c.g; omega
  have h3 : (c.b.toNat : Int) < 256 := by have := UInt8.toNat_lt c.b; omega
  have h4 : (c.a.toNat : Int) < 256 := by have := UInt8.toNat_lt c.a; omega
  have e1 : (3 * (c.r.toNat : Int) + 5 * (c.g.toNat : Int) + 7 * (c.b.toNat : Int) + 11 * (c.a.toNat : Int)) % 64 = (p : Int) := by rw [← hp]; unfold qplace; omega
  have e2 : Int.tmod (3 * (c.r.toNat : Int) + 5 * (c.g.toNat : Int) + 7 * (c.b.toNat : Int) + 11 * (c.a.toNat : Int)) 64 = (p : Int) := by rw [Int.tmod_eq_emod_of_nonneg (by omega)]; exact e1
  clear hp
  go_enter Try.func6, Try.ntmps6
  go_wp2_with fail
  go_ret
  exact ⟨rfl, (Below.refl _ _).alloc (Nat.le_refl _) _⟩
/-- what holds while the pixels are laid -/
structure QsI (w0 w : World) (cb ib : Nat) (c : Qc) (W H : Nat) (v : Value) (k : Nat) : Prop where
  Q : QB w cb c
  I : Blk w ib 26 #[.int .i64 (W : Int), .int .i64 (H : Int), v]
  own : Owns8 w w0.heap.size v (flat (List.replicate k c))
  B : Below w0.heap.size w0 w
  nc : w0.heap.size ≤ cb
  ni : w0.heap.size ≤ ib
theorem flat_rep (k : Nat) (c : Qc) : flat (List.replicate (k + 1) c) = flat (List.replicate k c) ++ [c.r, c.g, c.b, c.a] := by
  rw [List.replicate_succ', flat_append]
  simp [flat, Qc.list]
theorem QsI.put {w0 w w3 : World} {cb ib : Nat} {c : Qc} {W H : Nat} {v v3 : Value} {k : Nat} (h : QsI w0 w cb ib c W H v k) (hg : w.grownBy w3 v.ownBlock) (own3 : Owns8 w3 w0.heap.size v3 (flat (List.replicate (k + 1) c))) (hb : Below w0.heap.size w0 w3) : QsI w0 (w3.setCell ⟨ib, 2, none⟩ v3) cb ib c W H v3 (k + 1) := by
  have Q3 : QB w3 cb c := (hg.block cb (Blk.lt h.Q) (fun e => h.own.ne h.Q (by decide) cb e.symm rfl)).trans h.Q
  have I3 : Blk w3 ib 26 #[.int .i64 (W : Int), .int .i64 (H : Int), v] := (hg.block ib (Blk.lt h.I) (fun e => h.own.ne h.I (by decide) ib e.symm rfl)).trans h.I
  have T4 : Turn [ib] w3 (w3.setCell ⟨ib, 2, none⟩ v3) := (Turn.refl _ _).set_ 2 _ (by simp)
  exact ⟨Blk.far Q3 (p := ⟨ib, 2, none⟩) (Blk.ne_ Q3 I3 (by decide)) _, (Blk.set_ I3 2 _).eq_ rfl, own3.turn T4 (fun k hk => by simpa using own3.ne I3 (by decide) k hk), below_set hb h.ni, h.nc, h.ni⟩
theorem QsI.alloc {w0 w : World} {cb ib : Nat} {c : Qc} {W H : Nat} {v : Value} {k : Nat} (h : QsI w0 w cb ib c W H v k) (o : Obj) : QsI w0 (w.alloc o) cb ib c W H v k := ⟨Blk.alloc h.Q _, Blk.alloc h.I _, h.own.alloc _, h.B.alloc h.B.size _, h.nc, h.ni⟩
theorem Owns8.open_ {w : World} {base : Nat} {v : Value} {l : List UInt8} (h : Owns8 w base v l) (hl : 0 < l.length) : ∃ g cap, v = .slice (some ⟨g, 0, none⟩) l.length cap ∧ l.length ≤ cap ∧ base ≤ g ∧ g < w.heap.size ∧ ∀ j (hj : j < l.length), w.cell? ⟨g, 0 + j, none⟩ = some (.int .u8 (l[j].toNat : Int)) := by
  rcases h.2 with ⟨rfl, hn⟩ | ⟨g, cap, cur, rfl, hg, hh, hnc, _, _, ht⟩
  · omega
  · refine ⟨g, cap, rfl, hnc, hg, (Array.getElem?_eq_some_iff.1 hh).1, fun j hj => ?_⟩
    have := World.ownsRow.cells h (g := g) rfl j (.int .u8 (l[j].toNat : Int)) (by simp [C8, List.getElem?_eq_getElem hj])
    rwa [addrAdd] at this
set_option maxRecDepth 100000 in
set_option maxHeartbeats 8000000 in
theorem qoiShort_walk (w : World) (a0 a1 : Int) (c : Qc) (h0 : 0 ≤ a0 ∧ a0 ≤ 255) (h1 : 0 ≤ a1 ∧ a1 ≤ 255) {W H N : Nat} (hW : (W : Int) = 1 + a0 % 40) (hH : (H : Int) = 1 + a1 % 40) (hN : W * H = N) :
    Calls Try.prog 3 #[.int .u8 a0, .int .u8 a1, .agg #[.int .u8 (c.r.toNat : Int), .int .u8 (c.g.toNat : Int), .int .u8 (c.b.toNat : Int), .int .u8 (c.a.toNat : Int)]] w fun e w' => e = .returned (.bool true) ∧ Below w.heap.size w w' := by
  have hW1 : 1 ≤ W ∧ W ≤ 40 := by omega
  have hH1 : 1 ≤ H ∧ H ≤ 40 := by omega
  have hN1 : 1 ≤ N ∧ N ≤ 1600 := by rw [← hN]; exact ⟨Nat.mul_le_mul hW1.1 hH1.1, Nat.mul_le_mul hW1.2 hH1.2⟩
  obtain ⟨u0, hu0⟩ : ∃ u : Nat, a0 % 40 = (u : Int) := ⟨(a0 % 40).toNat, by omega⟩
  obtain ⟨u1, hu1⟩ : ∃ u : Nat, a1 % 40 = (u : Int) := ⟨(a1 % 40).toNat, by omega⟩
  have t0 : a0.tmod 40 = (u0 : Int) := by rw [Int.tmod_eq_emod_of_nonneg h0.1]; exact hu0
  have t1 : a1.tmod 40 = (u1 : Int) := by rw [Int.tmod_eq_emod_of_nonneg h1.1]; exact hu1
  have ub0 : (u0 : Int) < 40 := by omega
  have ub1 : (u1 : Int) < 40 := by omega
  have sW : 1 + (u0 : Int) = (W : Int) := by omega
  have sH : 1 + (u1 : Int) = (H : Int) := by omega
  have hNI := prod_wrap' hN (by omega)
  have HS := Lib.hid (And.intro hW1 (And.intro hH1 (And.intro hN1 hN)))
  have ha0 : a0 ≤ 255 := h0.2
  have ha1 : a1 ≤ 255 := h1.2
  have hb0 : 0 ≤ a0 := h0.1
  have hb1 : 0 ≤ a1 := h1.1
  have I0 : QsI w ((w.alloc (.cells #[.int .u8 (c.r.toNat : Int), .int .u8 (c.g.toNat : Int), .int .u8 (c.b.toNat : Int), .int .u8 (c.a.toNat : Int)] 23)).alloc (.cells #[.int .i64 (W : Int), .int .i64 (H : Int), .slice none 0 0] 26)) w.heap.size (w.heap.size + 1) c W H (.slice none 0 0) 0 :=
    ⟨Blk.alloc (Blk.new _ _ _) _, Blk.new_at _ _ _ (by simp), Owns8.nil _ _, ((Below.refl _ _).alloc (Nat.le_refl _) _).alloc (by simp) _, Nat.le_refl _, by omega⟩
  clear hW hH hN hW1 hH1 hN1 h0 h1 hu0 hu1
  go_enter Try.func3, Try.ntmps3
  go_wp2_with fail
  rw [hNI]
  (try rw [sW, sH])
  generalize (w.alloc (.cells #[.int .u8 (c.r.toNat : Int), .int .u8 (c.g.toNat : Int), .int .u8 (c.b.toNat : Int), .int .u8 (c.a.toNat : Int)] 23)).alloc (.cells #[.int .i64 (W : Int), .int .i64 (H : Int), .slice none 0 0] 26) = w1 at I0 ⊢
  generalize w.heap.size + 1 = ib at I0 ⊢
  generalize w.heap.size = cb at I0 ⊢
  have HI0 := Lib.hid I0
  clear I0
  go_loopg [26] N (fun gh v26 wr => ∃ k, k + gh = N ∧ v26 = .int .i64 (k : Int) ∧ Hid (∃ v, QsI w wr cb ib c W H v k))
  case atStart => exact ⟨0, by omega, rfl, Lib.hid ⟨_, HI0.out⟩⟩
  case round =>
    obtain ⟨k, hk, rfl, hI⟩ := hrel
    clear HI0
    obtain ⟨v, I⟩ := hI.out
    clear hI
    have HK := Lib.hid hk
    obtain ⟨q0, q1, q2, q3, ql⟩ := QB.all I.Q
    have i0 : wr.cell? ⟨ib, 0, none⟩ = some (.int .i64 (W : Int)) := Blk.cell I.I 0
    have i1 : wr.cell? ⟨ib, 1, none⟩ = some (.int .i64 (H : Int)) := Blk.cell I.I 1
    have HI := Lib.hid I
    have own := I.own
    by_cases hlt : k < N
    · have hltI : (k : Int) < (N : Int) := by omega
      have hkb : (k : Int) ≤ 1600 := by have := HS.out.2.2.1.2; omega
      have i2 : wr.cell? ⟨ib, 2, none⟩ = some v := Blk.cell I.I 2
      have HLN : Hid ((flat (List.replicate k c)).length + [c.r, c.g, c.b, c.a].length < 1099511627776) := Lib.hid (by rw [flat_len, List.length_replicate]; have := HS.out.2.2.1.2; simp; omega)
      clear I hk
      go_wp2_with (at_builtin; refine wpList_append_row rfl (.tmp 29) (.tmp 38) rfl w.heap.size _ _ [c.r, c.g, c.b, c.a] rfl (own.alloc _) wr.heap.size 4 4 rfl rfl (cells_new wr [c.r, c.g, c.b, c.a] _ (by simp [C8])) HLN.out (by have := HI.out.B.size; simp; omega) ?_; intro v3 w3 own3 b3 hg3; rw [← flat_rep] at own3; obtain ⟨p3, n3, k3, rfl⟩ : ∃ p n k, v3 = Value.slice p n k := (by rcases own3.2 with h | ⟨g, cap, cur, hv, _⟩; (exact ⟨_, _, _, h.1⟩); exact ⟨_, _, _, hv⟩); have I3 := (HI.out.alloc (.cells #[.int .u8 (c.r.toNat : Int), .int .u8 (c.g.toNat : Int), .int .u8 (c.b.toNat : Int), .int .u8 (c.a.toNat : Int)] 5)).put hg3 own3 ((HI.out.alloc _).B.trans b3); clear q0 q1 q2 q3 ql i0 i1 i2; have I4 : Blk w3 ib 26 #[.int .i64 (W : Int), .int .i64 (H : Int), v] := (hg3.block ib (Blk.lt (Blk.alloc HI.out.I _)) (fun e => HI.out.own.ne HI.out.I (by decide) ib e.symm rfl)).trans (Blk.alloc HI.out.I _); have i2 := Blk.cell I4 2; have iz := Blk.frozen I4 2; have il := Blk.lt I4)
      go_roundg (N - (k + 1))
      case measure => have := HK.out; omega
      case rel => exact ⟨k + 1, by have := HK.out; omega, by go_num, Lib.hid ⟨_, I3⟩⟩
    · obtain rfl : k = N := by omega
      have hltI : ¬ (k : Int) < (k : Int) := by omega
      have hfl : (flat (List.replicate k c)).length = 4 * k := by rw [flat_len, List.length_replicate]
      obtain ⟨g, cap, rfl, hcap, hg, hgl, hcell⟩ := own.open_ (by rw [hfl]; have := HS.out.2.2.1.1; omega)
      have i2 : wr.cell? ⟨ib, 2, none⟩ = some (.slice (some ⟨g, 0, none⟩) (flat (List.replicate k c)).length cap) := Blk.cell I.I 2
      have HWR := Lib.hid (qoiWrite_yes (w := wr) (W := W) (H := H) (N := k) (n := (flat (List.replicate k c)).length) (c := cap) (b := g) (off := 0) (l := flat (List.replicate k c)) (L := List.replicate k c) ⟨HS.out.1.1, by have := HS.out.1.2; omega⟩ ⟨HS.out.2.1.1, by have := HS.out.2.1.2; omega⟩ HS.out.2.2.2 ⟨⟨by have := HS.out.1; omega, by have := HS.out.1; omega⟩, ⟨by have := HS.out.2.1; omega, by have := HS.out.2.1; omega⟩, by rw [hfl, ← HS.out.2.2.2, Int.natCast_mul, Int.natCast_mul, Int.mul_assoc]; rfl⟩ rfl rfl (List.length_replicate) hcap hcell hgl)
      have hlen := qoiShort_len (W := W) (H := H) (n := k) c
      have hsz : (strOf (qoiFile W H (List.replicate k c))).size ≤ 22 + 5 + (k + 61) / 62 := by rw [strOf_size]; exact hlen
      have hk1 : k ≤ 1600 := HS.out.2.2.1.2
      have hni : ib < wr.heap.size := Blk.lt I.I
      generalize (flat (List.replicate k c)).length = n at i2 HWR ⊢
      generalize strOf (qoiFile W H (List.replicate k c)) = F at HWR hsz
      clear own hfl hcell hlen hcap hg hgl I hk
      have hNW : IntKind.i64.wrap ((W : Int) * (H : Int)) = (k : Int) := by
        have e : (W : Int) * (H : Int) = (k : Int) := by rw [← HS.out.2.2.2, Int.natCast_mul]
        rw [e]
        exact IntWalk.i64_in _ (by omega)
      have hw61 := IntWalk.i64_in ((k : Int) + 61) (by omega)
      obtain ⟨z, hz⟩ : ∃ z : Nat, (k + 61) / 62 = z := ⟨_, rfl⟩
      have d1 : ((k : Int) + 61).tdiv 62 = (z : Int) := by rw [Int.tdiv_eq_ediv_of_nonneg (by omega)]; omega
      have d2 : ((k : Int) + 61) / 62 = (z : Int) := by omega
      have hwz := IntWalk.i64_in (z : Int) (by omega)
      have hwz2 := IntWalk.i64_in (27 + (z : Int)) (by omega)
      have hszI : (F.size : Int) ≤ 27 + (z : Int) := by omega
      have hPL := Lib.hid (fun w => qoiPlace (c := c) rfl w)
      have hPR := Lib.hid (fun w => refPlace26 (c := c) rfl w)
      generalize qplace c = pp at hPL hPR
      go_wp2_with (go_at_call 4; refine HWR.out.mono ?_; rintro e w2 ⟨rfl, b2⟩; have Q2 : QB w2 cb c := Blk.below HI.out.Q b2 (Blk.lt HI.out.Q); have B2 := below_next HI.out.B b2)
      clear q0 q1 q2 q3 ql i0 i1 i2
      obtain ⟨q0, q1, q2, q3, ql⟩ := QB.all Q2
      refine wp_region_held_drew (S := (fun w' => w'.cell? ⟨cb, 0, none⟩ = some (.int .u8 (c.r.toNat : Int)) ∧ w'.cell? ⟨cb, 1, none⟩ = some (.int .u8 (c.g.toNat : Int)) ∧ w'.cell? ⟨cb, 2, none⟩ = some (.int .u8 (c.b.toNat : Int)) ∧ w'.cell? ⟨cb, 3, none⟩ = some (.int .u8 (c.a.toNat : Int)))) (by kernel_rfl) ⟨q0, q1, q2, q3⟩ (fun hHeld => ?_)
      refine wpAnyH_take (i := 0) (v := ?_) rfl (by kernel_rfl) (by kernel_rfl) (by kernel_rfl) (fun _ _ _ h => h) (Or.inl ⟨by kernel_rfl, ?_⟩) (by assumption) ?_
      rotate_left
      · intro w hSw; (try dsimp only at hSw); go_simp; (try with_reducible rfl)
      (try simp only [Act.put, List.setIfInBounds_toArray, List.set_cons_zero, List.set_cons_succ])
      refine wpAnyH_take (i := 1) (v := ?_) rfl (by kernel_rfl) (by kernel_rfl) (by kernel_rfl) (fun _ _ _ h => h) (Or.inl ⟨by kernel_rfl, ?_⟩) (by assumption) ?_
      rotate_left
      · intro w hSw; (try dsimp only at hSw); go_simp; (try with_reducible rfl)
      (try simp only [Act.put, List.setIfInBounds_toArray, List.set_cons_zero, List.set_cons_succ])
      refine wpAnyH_take (i := 2) (v := ?_) rfl (by kernel_rfl) (by kernel_rfl) (by kernel_rfl) (fun _ _ _ h => h) (Or.inl ⟨by kernel_rfl, ?_⟩) (by assumption) ?_
      rotate_left
      · intro w hSw; (try dsimp only at hSw); go_simp; (try with_reducible rfl)
      (try simp only [Act.put, List.setIfInBounds_toArray, List.set_cons_zero, List.set_cons_succ])
      refine wpAnyH_take (i := 3) (v := ?_) rfl (by kernel_rfl) (by kernel_rfl) (by kernel_rfl) (fun _ _ _ h => h) (Or.inl ⟨by kernel_rfl, ?_⟩) (by assumption) ?_
      rotate_left
      · intro w hSw; (try dsimp only at hSw); go_simp; (try with_reducible rfl)
      (try simp only [Act.put, List.setIfInBounds_toArray, List.set_cons_zero, List.set_cons_succ])
      refine wpAnyH_take (i := 4) (v := ?_) rfl (by kernel_rfl) (by kernel_rfl) (by kernel_rfl) (fun _ _ _ h => h) (Or.inl ⟨by kernel_rfl, ?_⟩) (by assumption) ?_
      rotate_left
      · intro w hSw; (try dsimp only at hSw); go_simp; (try with_reducible rfl)
      (try simp only [Act.put, List.setIfInBounds_toArray, List.set_cons_zero, List.set_cons_succ])
      refine wpAnyH_take (i := 5) (v := ?_) rfl (by kernel_rfl) (by kernel_rfl) (by kernel_rfl) (fun _ _ _ h => h) (Or.inl ⟨by kernel_rfl, ?_⟩) (by assumption) ?_
      rotate_left
      · intro w hSw; (try dsimp only at hSw); go_simp; (try with_reducible rfl)
      (try simp only [Act.put, List.setIfInBounds_toArray, List.set_cons_zero, List.set_cons_succ])
      refine wpAnyH_take (i := 6) (v := ?_) rfl (by kernel_rfl) (by kernel_rfl) (by kernel_rfl) (fun _ _ _ h => h) (Or.inl ⟨by kernel_rfl, ?_⟩) (by assumption) ?_
      rotate_left
      · intro w hSw; (try dsimp only at hSw); go_simp; (try with_reducible rfl)
      (try simp only [Act.put, List.setIfInBounds_toArray, List.set_cons_zero, List.set_cons_succ])
      refine wpAnyH_take (i := 7) (v := ?_) rfl (by kernel_rfl) (by kernel_rfl) (by kernel_rfl) (fun _ _ _ h => h) (Or.inl ⟨by kernel_rfl, ?_⟩) (by assumption) ?_
      rotate_left
      · intro w hSw; (try dsimp only at hSw); go_simp; (try with_reducible rfl)
      (try simp only [Act.put, List.setIfInBounds_toArray, List.set_cons_zero, List.set_cons_succ])
      refine wpAnyH_take (i := 8) (v := ?_) rfl (by kernel_rfl) (by kernel_rfl) (by kernel_rfl) (fun _ _ _ h => h) (Or.inl ⟨by kernel_rfl, ?_⟩) (by assumption) ?_
      rotate_left
      · intro w hSw; (try dsimp only at hSw); go_simp; (try with_reducible rfl)
      (try simp only [Act.put, List.setIfInBounds_toArray, List.set_cons_zero, List.set_cons_succ])
      refine wpAnyH_take (i := 9) (v := ?_) rfl (by kernel_rfl) (by kernel_rfl) (by kernel_rfl) (fun _ _ _ h => h) (Or.inl ⟨by kernel_rfl, ?_⟩) (by assumption) ?_
      rotate_left
      · intro w hSw; (try dsimp only at hSw); go_simp; (try with_reducible rfl)
      (try simp only [Act.put, List.setIfInBounds_toArray, List.set_cons_zero, List.set_cons_succ])
      refine wpAnyH_take (i := 10) (v := ?_) rfl (by kernel_rfl) (by kernel_rfl) (by kernel_rfl) (fun _ _ _ h => h) (Or.inl ⟨by kernel_rfl, ?_⟩) (by assumption) ?_
      rotate_left
      · intro w hSw; (try dsimp only at hSw); go_simp; (try with_reducible rfl)
      (try simp only [Act.put, List.setIfInBounds_toArray, List.set_cons_zero, List.set_cons_succ])
      refine wpAnyH_take (i := 11) (v := ?_) rfl (by kernel_rfl) (by kernel_rfl) (by kernel_rfl) (fun _ _ _ h => h) (Or.inl ⟨by kernel_rfl, ?_⟩) (by assumption) ?_
      rotate_left
      · intro w hSw; (try dsimp only at hSw); go_simp; (try with_reducible rfl)
      (try simp only [Act.put, List.setIfInBounds_toArray, List.set_cons_zero, List.set_cons_succ])
      refine wpAnyH_take (i := 12) (v := ?_) rfl (by kernel_rfl) (by kernel_rfl) (by kernel_rfl) (fun _ _ _ h => h) (Or.inl ⟨by kernel_rfl, ?_⟩) (by assumption) ?_
      rotate_left
      · intro w hSw; (try dsimp only at hSw); go_simp; (try with_reducible rfl)
      (try simp only [Act.put, List.setIfInBounds_toArray, List.set_cons_zero, List.set_cons_succ])
      refine wpAnyH_take (i := 13) (v := ?_) rfl (by kernel_rfl) (by kernel_rfl) (by kernel_rfl) (fun _ _ _ h => h) (Or.inl ⟨by kernel_rfl, ?_⟩) (by assumption) ?_
      rotate_left
      · intro w hSw; (try dsimp only at hSw); go_simp; (try with_reducible rfl)
      (try simp only [Act.put, List.setIfInBounds_toArray, List.set_cons_zero, List.set_cons_succ])
      refine wpAnyH_take (i := 14) (v := ?_) rfl (by kernel_rfl) (by kernel_rfl) (by kernel_rfl) (fun _ _ _ h => h) (Or.inl ⟨by kernel_rfl, ?_⟩) (by assumption) ?_
      rotate_left
      · intro w hSw; (try dsimp only at hSw); go_simp; (try with_reducible rfl)
      (try simp only [Act.put, List.setIfInBounds_toArray, List.set_cons_zero, List.set_cons_succ])
      refine wpAnyH_take (i := 16) (v := ?_) rfl (by kernel_rfl) (by kernel_rfl) (by kernel_rfl) (fun _ _ _ h => h) (Or.inl ⟨by kernel_rfl, ?_⟩) (by assumption) ?_
      rotate_left
      · intro w hSw; (try dsimp only at hSw); go_simp; (try with_reducible rfl)
      (try simp only [Act.put, List.setIfInBounds_toArray, List.set_cons_zero, List.set_cons_succ])
      refine wpAnyH_ready (rs := [15]) (by kernel_rfl) (by simp) ?_
      refine AllReadyH.cons rfl (fun K hK => ?_) AllReadyH.nil
      go_simp
      refine (hPL.out _).mono ?_
      rintro e w4 ⟨rfl, b4⟩
      have Q4 : QB w4 cb c := Blk.below (Blk.drew Q2) b4 (Blk.lt Q2)
      have B4 := below_next B2.drew b4
      obtain ⟨r0, r1, r2, r3, rl⟩ := QB.all Q4
      refine hK.out _ _ ⟨r0, r1, r2, r3⟩ (fun hHeld' => ?_)
      clear hK K hHeld
      have hHeld := hHeld'
      clear hHeld'
      (try simp only [Act.put, List.setIfInBounds_toArray, List.set_cons_zero, List.set_cons_succ])
      clear r0 r1 r2 r3 rl
      refine wpAnyH_ready (rs := [17]) (by kernel_rfl) (by simp) ?_
      refine AllReadyH.cons rfl (fun K hK => ?_) AllReadyH.nil
      go_simp
      refine (hPR.out _).mono ?_
      rintro e w5 ⟨rfl, b5⟩
      have Q5 : QB w5 cb c := Blk.below Q4 b5 (Blk.lt Q4)
      have B5 := below_next B4 b5
      obtain ⟨r0, r1, r2, r3, rl⟩ := QB.all Q5
      refine hK.out _ _ ⟨r0, r1, r2, r3⟩ (fun hHeld' => ?_)
      clear hK K hHeld
      have hHeld := hHeld'
      clear hHeld'
      (try simp only [Act.put, List.setIfInBounds_toArray, List.set_cons_zero, List.set_cons_succ])
      clear r0 r1 r2 r3 rl
      refine wpAnyH_take (i := 18) (v := ?_) rfl (by kernel_rfl) (by kernel_rfl) (by kernel_rfl) (fun _ _ _ h => h) (Or.inl ⟨by kernel_rfl, ?_⟩) (by assumption) ?_
      rotate_left
      · intro w hSw; (try dsimp only at hSw); go_simp; (try with_reducible rfl)
      (try simp only [Act.put, List.setIfInBounds_toArray, List.set_cons_zero, List.set_cons_succ])
      refine wpAnyH_take (i := 19) (v := ?_) rfl (by kernel_rfl) (by kernel_rfl) (by kernel_rfl) (fun _ _ _ h => h) (Or.inl ⟨by kernel_rfl, ?_⟩) (by assumption) ?_
      rotate_left
      · intro w hSw; (try dsimp only at hSw); go_simp; (try with_reducible rfl)
      (try simp only [Act.put, List.setIfInBounds_toArray, List.set_cons_zero, List.set_cons_succ])
      refine wpAnyH_take (i := 20) (v := ?_) rfl (by kernel_rfl) (by kernel_rfl) (by kernel_rfl) (fun _ _ _ h => h) (Or.inl ⟨by kernel_rfl, ?_⟩) (by assumption) ?_
      rotate_left
      · intro w hSw; (try dsimp only at hSw); go_simp; (try with_reducible rfl)
      (try simp only [Act.put, List.setIfInBounds_toArray, List.set_cons_zero, List.set_cons_succ])
      refine wpAnyH_ready (rs := [21]) (by kernel_rfl) (by simp) ?_
      refine AllReadyH.cons rfl (fun K hK => ?_) AllReadyH.nil
      go_simp
      refine (awake26_any _).mono ?_
      rintro e w6 ⟨rfl, b6⟩
      have Q6 : QB w6 cb c := Blk.below Q5 b6 (Blk.lt Q5)
      have B6 := below_next B5 b6
      obtain ⟨r0, r1, r2, r3, rl⟩ := QB.all Q6
      refine hK.out _ _ ⟨r0, r1, r2, r3⟩ (fun hHeld' => ?_)
      clear hK K hHeld
      have hHeld := hHeld'
      clear hHeld'
      (try simp only [Act.put, List.setIfInBounds_toArray, List.set_cons_zero, List.set_cons_succ])
      clear r0 r1 r2 r3 rl
      refine wpAnyH_takeD (i := 22) (v := ?_) 69 rfl (by kernel_rfl) (by kernel_rfl) (by kernel_rfl) (by kernel_rfl) (fun _ _ _ h => h) (Or.inl ⟨by kernel_rfl, ?_⟩) (by assumption) ?_
      rotate_left
      · intro w hSw; (try dsimp only at hSw); go_simp; (try with_reducible rfl)
      (try simp only [Act.put, List.setIfInBounds_toArray, List.set_cons_zero, List.set_cons_succ])
      refine wpAnyH_takeD (i := 23) (v := ?_) 6 rfl (by kernel_rfl) (by kernel_rfl) (by kernel_rfl) (by kernel_rfl) (fun _ _ _ h => h) (Or.inl ⟨by kernel_rfl, ?_⟩) (by assumption) ?_
      rotate_left
      · intro w hSw; (try dsimp only at hSw); go_simp; (try with_reducible rfl)
      (try simp only [Act.put, List.setIfInBounds_toArray, List.set_cons_zero, List.set_cons_succ])
      refine wpAnyH_done (by kernel_rfl) ?_ _
      go_wp2_with fail
      go_ret
      exact ⟨rfl, B6⟩
theorem u8_of {n : Int} (h : 0 ≤ n ∧ n ≤ 255) : (((UInt8.ofNat n.toNat).toNat : Nat) : Int) = n := by
  rw [ofNat8 (by omega)]
  omega
theorem qoiShort_said (w : World) (a0 : Int) (h0 : (Lit.int .u8 a0).wf = true) (a1 : Int) (h1 : (Lit.int .u8 a1).wf = true) (c : Col) (hc : c.ok) : Calls Try.prog 3 #[.int .u8 a0, .int .u8 a1, .agg #[.int .u8 c.r, .int .u8 c.g, .int .u8 c.b, .int .u8 c.a]] w fun e w' => e = .returned (.bool true) ∧ Below w.heap.size w w' := by
  have b0 := bounds_u8 h0
  have b1 := bounds_u8 h1
  have k := qoiShort_walk w a0 a1 ⟨UInt8.ofNat c.r.toNat, UInt8.ofNat c.g.toNat, UInt8.ofNat c.b.toNat, UInt8.ofNat c.a.toNat⟩ b0 b1 (W := (1 + a0 % 40).toNat) (H := (1 + a1 % 40).toNat) (by omega) (by omega) rfl
  simp only [u8_of hc.1, u8_of hc.2.1, u8_of hc.2.2.1, u8_of hc.2.2.2] at k
  exact k
end Go.Proofs.Ytojobfnbakiicaa
