/- The document's raw reading of bits. -/
import Derived.Test.YtgmgcfjllijhgaaGreatSq
import Derived.Test.YtgmgcfjllijhgaaGreatVPnmDa
namespace Go.Proofs.YtgmgcfjllijhgaaGreat
open Go.RowKit
set_option linter.unusedVariables false
set_option linter.unusedSimpArgs false

/-- where a row of bits stands: column, the next place, the byte that was read last -/
def BSt (s : ByteArray) (fr x : Nat) (t : Nat × Nat × Nat) : Prop := t.1 = x ∧ t.2.1 = fr + (x + 7) / 8 ∧ (x % 8 ≠ 0 → fr + x / 8 < s.size ∧ t.2.2 = bat s (fr + x / 8))
def BIn (s : ByteArray) (W fr r x : Nat) (t : Nat × Nat × Nat) : Prop := (x < W → BSt s fr x t) ∧ (x = W → BSt s (fr + r) 0 t)
theorem bst_step {s : ByteArray} {W fr r x : Nat} {t : Nat × Nat × Nat} (hr : r = (W + 7) / 8) (hx : x < W) (h : BIn s W fr r x t) :
  (fr + x / 8 < s.size ∧ ∃ t', bpixR s W t = .inr (bitQ (bat s (fr + x / 8)) (x % 8), t') ∧ BIn s W fr r (x + 1) t') ∨ (s.size ≤ fr + x / 8 ∧ bpixR s W t = .inl (1, s.size)) := by
 obtain ⟨h1, h2, h3⟩ := h.1 hx
 obtain ⟨c, p, b⟩ := t
 simp only at h1 h2 h3
 subst h1 h2
 unfold bpixR
 simp only
 by_cases h8 : c % 8 = 0
 ·rw [if_pos h8]
  have e1 : (c + 7) / 8 = c / 8 := by omega
  rw [e1]
  by_cases hs : fr + c / 8 < s.size
  ·rw [if_pos hs, h8]
   refine .inl ⟨hs, _, rfl, fun hw => ?_, fun hw => ?_⟩
   ·rw [if_neg (by omega)]
    exact ⟨rfl, by show fr + c / 8 + 1 = fr + (c + 1 + 7) / 8; omega, fun _ => ⟨by omega, by show bat s (fr + c / 8) = _; rw [show (c + 1) / 8 = c / 8 by omega]⟩⟩
   ·rw [if_pos hw]
    exact ⟨rfl, by show fr + c / 8 + 1 = fr + r + (0 + 7) / 8; omega, fun h => absurd rfl h⟩
  ·rw [if_neg hs]
   exact .inr ⟨by omega, rfl⟩
 ·rw [if_neg h8]
  obtain ⟨hs, hb⟩ := h3 h8
  subst hb
  refine .inl ⟨hs, _, rfl, fun hw => ?_, fun hw => ?_⟩
  ·rw [if_neg (by omega)]
   refine ⟨rfl, by show fr + (c + 7) / 8 = fr + (c + 1 + 7) / 8; omega, fun h => ⟨by omega, by show bat s (fr + c / 8) = _; rw [show (c + 1) / 8 = c / 8 by omega]⟩⟩
  ·rw [if_pos hw]
   exact ⟨rfl, by show fr + (c + 7) / 8 = fr + r + (0 + 7) / 8; omega, fun h => absurd rfl h⟩
theorem BIn.row {s : ByteArray} {W fr r : Nat} {t : Nat × Nat × Nat} (hW : 1 ≤ W) (h : BSt s fr 0 t) : BIn s W fr r 0 t := ⟨fun _ => h, fun e => by omega⟩
/-- what holds, in a box of its own -/
structure DcK (w0 w : World) (po K W H M n : Nat) (v : Value) (L : List Qc) : Prop where
 I : DcI w0 w po K W H M n v L
def DcKS (w : World) : Prop := True
section
variable {w0 w w' : World} {po K W H M n : Nat} {v : Value} {L : List Qc}
theorem DcK.below (h : DcK w0 w po K W H M n v L) (b : Below w.heap.size w w') : DcK w0 w' po K W H M n v L := ⟨h.I.below b⟩
theorem DcK.alloc (h : DcK w0 w po K W H M n v L) (x : Obj) : DcK w0 (w.alloc x) po K W H M n v L := ⟨h.I.alloc x⟩
theorem DcK.drew (h : DcK w0 w po K W H M n v L) : DcK w0 w.drew po K W H M n v L := ⟨h.I.drew⟩
theorem DcI.drewN (h : DcI w0 w po K W H M n v L) (k : Nat) : DcI w0 (w.drewN k) po K W H M n v L := ⟨Blk.drewN h.Hd k, Blk.drewN h.A k, Blk.drewN h.X k, h.O, below_drewN h.B k, h.np⟩
theorem DcK.drewN (h : DcK w0 w po K W H M n v L) (k : Nat) : DcK w0 (w.drewN k) po K W H M n v L := ⟨h.I.drewN k⟩
theorem DcK.grow {u : Value} {c : Qc} (h : DcK w0 w po K W H M n v L) (o : OwnsQ w' w0.heap.size u (L ++ [c])) (b : Below w0.heap.size w w') (g : w.grownBy w' v.ownBlock) : DcK w0 (w'.setCell ⟨po, 2, none⟩ u) po K W H M n u (L ++ [c]) := ⟨h.I.grow o b g⟩
theorem DcI.h56 (h : DcI w0 w po K W H M n v L) : w.cell? ⟨w0.heap.size, 5, none⟩ = some (.int .i64 0) ∧ w.cell? ⟨w0.heap.size, 6, none⟩ = some (.int .i64 0) := ⟨Blk.cell h.Hd 5, Blk.cell h.Hd 6⟩
theorem DcK.sds (h : DcK w0 w po K W H M n v L) : DcKS w := trivial
end
set_option maxRecDepth 100000 in
set_option maxHeartbeats 16000000 in
theorem docRaw_four {s : ByteArray} {W H M n : Nat} {D : DRes} (hsm : s.size ≤ 1099511627776) (hh : HeadOk s ⟨4, W, H, M, n, 0, 0⟩) (hD : pixsR W H (bpixR s W) (W * H) (0, n, 0) [] = D) (w : World) : Calls Tryz.prog 15 #[.string s, .agg #[.int .i64 4, .int .i64 (W : Int), .int .i64 (H : Int), .int .i64 (M : Int), .int .i64 (n : Int), .int .i64 0, .int .i64 0]] w fun e w' => RefPost D w w' e := by
 have hW1 : 1 ≤ W := hh.W.1
 have hW2 : W ≤ 16384 := hh.W.2
 have hH2 : H ≤ 16384 := hh.H.2
 have hPB : W * H ≤ 16384 * 16384 := Nat.mul_le_mul hW2 hH2
 have hM := hh.M
 have hn : n ≤ s.size := hh.At
 obtain ⟨P, hP⟩ : ∃ P, W * H = P := ⟨_, rfl⟩
 rw [hP] at hPB
 rw [Nat.mul_comm] at hD
 obtain ⟨r, hr⟩ : ∃ r, drowN 4 W M = r := ⟨_, rfl⟩
 have hr2 : r = (W + 7) / 8 := by rw [← hr]; rfl
 have hrb : r ≤ 98304 := by omega
 have HRR := Lib.hid hr2
 clear hr2
 have HRW := Lib.hid (show ∀ w : World, Calls Tryz.prog 43 #[.agg #[.int .i64 4, .int .i64 (W : Int), .int .i64 (H : Int), .int .i64 (M : Int), .int .i64 (n : Int), .int .i64 0, .int .i64 0]] w fun e w' => e = .returned (.int .i64 (r : Int)) ∧ Below w.heap.size w w' from fun w => drowC (K := 4) (H := H) (n := n) (w := w) (by decide) ⟨hW1, hW2⟩ hM hr.symm)
 have HP := Lib.hid hP
 have HD := Lib.hid hD
 have HO := Lib.hid hh
 have hsB : (s.size : Int) ≤ 1099511627776 := by omega
 have I0' : DcI w (((w.alloc (.cells #[.int .i64 4, .int .i64 (W : Int), .int .i64 (H : Int), .int .i64 (M : Int), .int .i64 (n : Int), .int .i64 0, .int .i64 0] 24)).alloc (.cells #[.int .i64 0, .int .i64 0, .slice none 0 0, .int .i64 0, .int .i64 0] 28)).alloc (.cells #[.int .i64 (W : Int), .int .i64 (H : Int), .slice none 0 0, .int .i64 0, .int .i64 0] 28)) (w.heap.size + 2) 4 W H M n (.slice none 0 0) [] :=
  ⟨Blk.alloc (Blk.alloc (Blk.new _ _ _) _) _, Blk.alloc (Blk.new_at _ _ _ (by simp)) _, Blk.new_at _ _ _ (by simp), World.ownsRow_nil _ _ _ _, (((Below.refl _ _).alloc (Nat.le_refl _) _).alloc (by simp) _).alloc (by simp; omega) _, by omega⟩
 clear hP hD hh hr hM
 go_enter Tryz.func15, Tryz.ntmps15
 go_upto_region 2 with fail
 generalize ((w.alloc (.cells #[.int .i64 4, .int .i64 (W : Int), .int .i64 (H : Int), .int .i64 (M : Int), .int .i64 (n : Int), .int .i64 0, .int .i64 0] 24)).alloc (.cells #[.int .i64 0, .int .i64 0, .slice none 0 0, .int .i64 0, .int .i64 0] 28)).alloc (.cells #[.int .i64 (W : Int), .int .i64 (H : Int), .slice none 0 0, .int .i64 0, .int .i64 0] 28) = w5 at I0' ⊢
 generalize hpo : w.heap.size + 2 = po at I0' ⊢
 have HI0 := Lib.hid I0'
 obtain ⟨h0, h1, h2, h3, h4⟩ := I0'.head
 obtain ⟨h5, h6⟩ := I0'.h56
 clear I0' hpo
 go_upto_region 3 with (go_at_call 43; refine (HRW.out _).mono ?_; rintro e w6 ⟨rfl, b6⟩)
 have HI6 := Lib.hid (HI0.out.below b6)
 clear h0 h1 h2 h3 h4 h5 h6 b6 HI0
 go_upto_region 4 with fail
 go_loopg [7, 8, 9, 10, 11, 12, 13] H (fun gh v7 v8 v9 v10 v11 v12 v13 wr => ∃ (y : Nat) (v : Value) (L : List Qc) (t : Nat × Nat × Nat), y + gh = H ∧ v7 = .int .i64 (y : Int) ∧ L.length = y * W ∧ BSt s (n + y * r) 0 t ∧ Hid (pixsR W H (bpixR s W) (gh * W) t L = D) ∧ Hid (DcI w wr po 4 W H M n v L))
 case atStart => exact ⟨0, _, [], (0, n, 0), by omega, rfl, by simp, ⟨rfl, by simp, fun h => absurd rfl h⟩, HD, HI6⟩
 case round =>
  obtain ⟨y, v, L, t, hy, rfl, hL, hB, HRUN, HI⟩ := hrel
  clear HI6 HD
  obtain ⟨h0, h1, h2, h3, h4⟩ := HI.out.head
  by_cases hyH : y < H
  ·have hyI : (y : Int) < (H : Int) := by omega
   obtain ⟨m, rfl⟩ : ∃ m, gk = m + 1 := ⟨gk - 1, by omega⟩
   obtain ⟨z, hz⟩ : ∃ z, y * r = z := ⟨_, rfl⟩
   obtain ⟨mW, hmW⟩ : ∃ mW, m * W = mW := ⟨_, rfl⟩
   obtain ⟨yW, hyW⟩ : ∃ yW, y * W = yW := ⟨_, rfl⟩
   have hzb : z ≤ 16384 * 98304 := by rw [← hz]; exact Nat.mul_le_mul (by omega) hrb
   have hzw : IntKind.i64.wrap ((y : Int) * (r : Int)) = (z : Int) := by rw [show (y : Int) * (r : Int) = (z : Int) by rw [← hz]; push_cast; rfl]; exact IntWalk.i64_in _ (by omega)
   have hyb : yW + W ≤ P := by
    rw [← HP.out, ← hyW, show y * W + W = (y + 1) * W by rw [Nat.add_mul, Nat.one_mul], Nat.mul_comm W H]
    exact Nat.mul_le_mul (by omega) (Nat.le_refl _)
   have hrun := HRUN.out
   rw [show (m + 1) * W = W + mW by rw [Nat.add_mul, Nat.one_mul, hmW, Nat.add_comm]] at hrun
   rw [hz] at hB
   rw [hyW] at hL
   have HRU := Lib.hid hrun
   have HLL := Lib.hid hL
   have HZ0 := Lib.hid (And.intro hz (And.intro hmW hyW))
   have HBB := Lib.hid hB
   clear hz hmW hyW hrun HRUN hL hB
   go_upto_region 8 with fail
   clear h0 h1 h2 h3 h4
   go_loopg [9, 10, 11, 12, 13] W (fun gx v9 v10 v11 v12 v13 wx => ∃ (x : Nat) (v : Value) (L : List Qc) (t : Nat × Nat × Nat), x + gx = W ∧ v9 = .int .i64 (x : Int) ∧ L.length = yW + x ∧ BIn s W (n + z) r x t ∧ Hid (pixsR W H (bpixR s W) (gx + mW) t L = D) ∧ Hid (DcI w wx po 4 W H M n v L))
   case atStart => exact ⟨0, v, L, t, by omega, rfl, HLL.out, BIn.row hW1 HBB.out, HRU, HI⟩
   case round =>
    clear HI HRU HLL HBB
    clear t L v
    obtain ⟨x, v, L, t, hx, rfl, hL, hB, HRUN, HI⟩ := hrel
    obtain ⟨h0, h1, h2, h3, h4⟩ := HI.out.head
    by_cases hxW : x < W
    ·have hxI : (x : Int) < (W : Int) := by omega
     obtain ⟨g', rfl⟩ : ∃ g', gk = g' + 1 := ⟨gk - 1, by omega⟩
     have hrun := HRUN.out
     rw [show g' + 1 + mW = (g' + mW) + 1 by omega] at hrun
     unfold pixsR at hrun
     have HL := Lib.hid hL
     have hlb : yW + x ≤ P := by omega
     clear HRUN
     rcases bst_step HRR.out hxW hB with ⟨hin, t', hp, hB'⟩ | ⟨hout, hp⟩
     ·rw [hp] at hrun
      have hrx : pixsR W H (bpixR s W) (g' + mW) t' (L ++ [bitQ (bat s (n + z + x / 8)) (x % 8)]) = D := hrun
      have HB2 := Lib.hid hB'
      have hb0 := bat_eq hin
      obtain ⟨i, hi⟩ : ∃ i, x / 8 = i := ⟨_, rfl⟩
      rw [hi] at hin hrx
      obtain ⟨A, hA⟩ : ∃ A, n + z + i = A := ⟨_, rfl⟩
      rw [hA] at hin hrx
      have hAI : (n : Int) + (z : Int) + (i : Int) = (A : Int) := by omega
      obtain ⟨X, hX⟩ : ∃ X, bat s A = X := ⟨_, rfl⟩
      have hXl : X < 256 := by rw [← hX]; exact bat_lt _ _
      have hXs : s[A].toNat = X := by rw [← hX, bat_eq hin]
      have hiI : (x : Int) / 8 = (i : Int) := by omega
      have hiJ : ¬ (s.size : Int) ≤ (A : Int) := by omega
      have hiK : (A : Int) < (s.size : Int) := by omega
      obtain ⟨j, hj⟩ : ∃ j, 7 - x % 8 = j := ⟨_, rfl⟩
      have hjI : 7 - (x : Int) % 8 = (j : Int) := by omega
      obtain ⟨pw, hpw⟩ : ∃ pw, 2 ^ j = pw := ⟨_, rfl⟩
      have HPW := Lib.hid (fun w => refPower_any j w (by omega))
      rw [hpw] at HPW
      have hq1 : 1 ≤ pw := by rw [← hpw]; exact Nat.one_le_two_pow
      have hqI : ¬ (pw : Int) = 0 := by omega
      have hqB : ((pw : Int) == 0) = false := by rw [beq_eq_false_iff_ne]; omega
      unfold bitQ at hrx
      rw [hX, hj, hpw] at hrx
      obtain ⟨u, hu⟩ : ∃ u, X / pw = u := ⟨_, rfl⟩
      have hyI2 : (X : Int) / (pw : Int) = (u : Int) := by rw [← Int.natCast_ediv, hu]
      have hul : u ≤ X := by rw [← hu]; exact Nat.div_le_self _ _
      rw [hu] at hrx
      obtain ⟨V, hV⟩ : ∃ V, u % 2 = V := ⟨_, rfl⟩
      rw [hV] at hrx
      have hvI : (u : Int) % 2 = (V : Int) := by omega
      have hvl : V ≤ 1 := by omega
      have w1 : IntKind.i64.wrap (i : Int) = (i : Int) := IntWalk.i64_in _ (by omega)
      have w2 : IntKind.i64.wrap (j : Int) = (j : Int) := IntWalk.i64_in _ (by omega)
      have w3 : IntKind.i64.wrap (X : Int) = (X : Int) := IntWalk.i64_in _ (by omega)
      have w4 : IntKind.i64.wrap (u : Int) = (u : Int) := IntWalk.i64_in _ (by omega)
      have w5' : IntKind.i64.wrap (V : Int) = (V : Int) := IntWalk.i64_in _ (by omega)
      have w6' : IntKind.i64.wrap ((x : Int) % 8) = (x : Int) % 8 := IntWalk.i64_in _ (by omega)
      have HRX0 := Lib.hid hrx
      clear hb0 hX hj hpw hu hV hA hrx hrun hp hB hB' hL hzw
      go_upto_region 14 with fail
      clear h0 h1 h2 h3 h4
      go_quiet ((first | (go_at_call 44; exact Calls.quiet_of_same ((HPW.out _).mono fun _ _ ⟨h, k⟩ => ⟨h, k.symm⟩)) | fail))
      have hb1 : IntKind.i64.wrap (1 - (u : Int) % 2) = ((1 - V : Nat) : Int) := by rw [hvI, Int.ofNat_sub hvl]; exact IntWalk.i64_in _ (by omega)
      clear w1 w2 w3 w4 w5' w6' hvI hyI2 hqB hqI hjI hiI hiJ hiK hAI hXs HPW
      have hb2 : IntKind.i64.wrap (255 * ((1 - V : Nat) : Int)) = ((255 * (1 - V) : Nat) : Int) := by rw [Int.natCast_mul]; exact IntWalk.i64_in _ (by omega)
      have HG0 := fun w => refGrayQ (v := 255 * (1 - V)) (by omega) w
      have hrx := HRX0.out
      generalize 1 - V = u1 at hb1 hb2 HG0 hrx
      generalize 255 * u1 = u2 at hb2 HG0 hrx
      generalize grayQ (UInt8.ofNat u2) = q at HG0 hrx
      unfold Qc.v at HG0
      have HG := Lib.hid HG0
      have HRX := Lib.hid hrx
      clear hrx HG0 HRX0
      go_upto_region 15 with fail
      have HJ : Hid (DcK w wr po 4 W H M n v L) := Lib.hid ⟨HI.out⟩
      clear HI
      refine dwp_gen (S := fun wx => DcK w wx po 4 W H M n v L) (by first | exact HJ.out.drewN _ | exact HJ.out) (fun wx hX => ?_)
      have HX := Lib.hid hX.drew
      refine wp_region_held_drew (S := DcKS) (by kernel_rfl) HX.out.sds (fun hHeld => ?_)
      clear hX HJ
      generalize wx.drew = wd at HX hHeld ⊢
      refine wpAnyH_take (i := 0) (v := ?_) rfl (by kernel_rfl) (by kernel_rfl) (by kernel_rfl) (fun _ _ _ h => h) (Or.inl ⟨by kernel_rfl, ?_⟩) (by assumption) ?_
      rotate_left
      ·intro w hSw; obtain hS0 := hSw; go_simp; (try with_reducible rfl)
      (try simp only [sps])
      refine wpAnyH_take (i := 2) (v := ?_) rfl (by kernel_rfl) (by kernel_rfl) (by kernel_rfl) (fun _ _ _ h => h) (Or.inl ⟨by kernel_rfl, ?_⟩) (by assumption) ?_
      rotate_left
      ·intro w hSw; obtain hS0 := hSw; go_simp; (try with_reducible rfl)
      (try simp only [sps])
      refine wpAnyH_take (i := 3) (v := ?_) rfl (by kernel_rfl) (by kernel_rfl) (by kernel_rfl) (fun _ _ _ h => h) (Or.inl ⟨by kernel_rfl, ?_⟩) (by assumption) ?_
      rotate_left
      ·intro w hSw; obtain hS0 := hSw; go_simp; (try with_reducible rfl)
      (try simp only [sps])
      refine wpAnyH_take (i := 4) (v := ?_) rfl (by kernel_rfl) (by kernel_rfl) (by kernel_rfl) (fun _ _ _ h => h) (Or.inl ⟨by kernel_rfl, ?_⟩) (by assumption) ?_
      rotate_left
      ·intro w hSw; obtain hS0 := hSw; go_simp; (try with_reducible rfl)
      (try simp only [sps])
      refine wpAnyH_ready (rs := [1, 5]) (by kernel_rfl) (by simp) ?_
      refine AllReadyH.cons rfl (fun K hK => ?_) (AllReadyH.cons rfl (fun K hK => ?_) AllReadyH.nil)
      ·obtain ⟨X0, X1, X2, X3, X4, zX0, zX1, zX2, zX3, zX4, Xl⟩ := RI.all HX.out.I.X
       go_simp
       refine hK.out _ _ HX.out.sds ?_
       clear hK K hHeld
       intro hHeld
       (try simp only [sps])
       clear X0 X1 X2 X3 X4 zX0 zX1 zX2 zX3 zX4 Xl
       refine rdy 5 (fun K hK => ?_)
       go_simp
       refine (HG.out _).mono ?_
       rintro e w8 ⟨rfl, b8⟩
       have I8 := HX.out.below b8
       refine hK.out _ _ I8.sds ?_
       clear hK K hHeld
       intro hHeld
       (try simp only [sps])
       refine rdy 6 (fun K hK => ?_)
       go_simp
       have I9 := I8.alloc (.cells #[.int .u8 (q.r.toNat : Int), .int .u8 (q.g.toNat : Int), .int .u8 (q.b.toNat : Int), .int .u8 (q.a.toNat : Int)] 59)
       refine hK.out _ _ I9.sds ?_
       clear hK K hHeld
       intro hHeld
       (try simp only [sps])
       refine rdy 7 (fun K hK => ?_)
       refine oper_append_cols (.tmp 64) (.tmp 69) rfl w.heap.size v L rfl I9.I.O w8.heap.size 1 1 [q] rfl rfl (q_new w8 q) ?_ ?_ ?_
       ·rw [HL.out]; simp; omega
       ·have := I9.I.B.size; exact this
       intro v10 w10 o10 b10 g10
       have X10 : RI w10 po (W : Int) (H : Int) v 0 0 := Blk.grownQ I9.I.X I9.I.O (by decide) g10
       have S10 := (show DcKS w10 from trivial)
       have IG := I9.grow o10 b10 g10
       obtain ⟨a10, c10, hv10⟩ := o10.slice
       generalize hn10 : (L ++ [q]).length = n10 at hv10
       subst hv10
       refine hK.out _ _ S10 ?_
       clear hK K hHeld
       intro hHeld
       (try simp only [sps])
       refine wpAnyH_take (i := 8) (v := ?_) rfl (by kernel_rfl) (by kernel_rfl) (by kernel_rfl) (fun _ _ _ h => h) (Or.inl ⟨by kernel_rfl, ?_⟩) (by assumption) ?_
       rotate_left
       ·intro w hSw; obtain hS0 := hSw; go_simp; (try with_reducible rfl)
       (try simp only [sps])
       (try clear X0 X1 X2 X3 X4 zX0 zX1 zX2 zX3 zX4 Xl)
       obtain ⟨X0, X1, X2, X3, X4, zX0, zX1, zX2, zX3, zX4, Xl⟩ := RI.all X10
       refine rdy 9 (fun K hK => ?_)
       go_simp
       refine hK.out _ _ IG.sds ?_
       clear hK K hHeld
       intro hHeld
       (try simp only [sps])
       refine wpAnyH_done (by kernel_rfl) ?_ _
       (try simp only [sps])
       clear hHeld I9 X10 S10 o10 b10 g10 X0 X1 X2 X3 X4 zX0 zX1 zX2 zX3 zX4 Xl
       try clear I8 b8
       first | change Exit.inBlock _ _ _ _ (w10.setCell ⟨po, 2, none⟩ (.slice a10 n10 c10)) | change Exit.then _ _ _ _ (w10.setCell ⟨po, 2, none⟩ (.slice a10 n10 c10))
       generalize w10.setCell ⟨po, 2, none⟩ (.slice a10 n10 c10) = wz at IG ⊢
       have HZ := Lib.hid IG.I
       clear IG hn10
       go_wp2_with fail
       go_roundg g'
       case measure => omega
       case rel => exact ⟨x + 1, _, L ++ [q], t', by omega, by go_num, by rw [List.length_append, HL.out]; show yW + x + 1 = yW + (x + 1); omega, HB2.out, HRX, HZ⟩
      ·go_simp
       refine (HG.out _).mono ?_
       rintro e w8 ⟨rfl, b8⟩
       have I8 := HX.out.below b8
       refine hK.out _ _ I8.sds ?_
       clear hK K hHeld
       intro hHeld
       (try simp only [sps])
       refine wpAnyH_ready (rs := [1, 6]) (by kernel_rfl) (by simp) ?_
       refine AllReadyH.cons rfl (fun K hK => ?_) (AllReadyH.cons rfl (fun K hK => ?_) AllReadyH.nil)
       ·obtain ⟨X0, X1, X2, X3, X4, zX0, zX1, zX2, zX3, zX4, Xl⟩ := RI.all I8.I.X
        go_simp
        refine hK.out _ _ I8.sds ?_
        clear hK K hHeld
        intro hHeld
        (try simp only [sps])
        clear X0 X1 X2 X3 X4 zX0 zX1 zX2 zX3 zX4 Xl
        refine rdy 6 (fun K hK => ?_)
        go_simp
        have I9 := I8.alloc (.cells #[.int .u8 (q.r.toNat : Int), .int .u8 (q.g.toNat : Int), .int .u8 (q.b.toNat : Int), .int .u8 (q.a.toNat : Int)] 59)
        refine hK.out _ _ I9.sds ?_
        clear hK K hHeld
        intro hHeld
        (try simp only [sps])
        refine rdy 7 (fun K hK => ?_)
        refine oper_append_cols (.tmp 64) (.tmp 69) rfl w.heap.size v L rfl I9.I.O w8.heap.size 1 1 [q] rfl rfl (q_new w8 q) ?_ ?_ ?_
        ·rw [HL.out]; simp; omega
        ·have := I9.I.B.size; exact this
        intro v10 w10 o10 b10 g10
        have X10 : RI w10 po (W : Int) (H : Int) v 0 0 := Blk.grownQ I9.I.X I9.I.O (by decide) g10
        have S10 := (show DcKS w10 from trivial)
        have IG := I9.grow o10 b10 g10
        obtain ⟨a10, c10, hv10⟩ := o10.slice
        generalize hn10 : (L ++ [q]).length = n10 at hv10
        subst hv10
        refine hK.out _ _ S10 ?_
        clear hK K hHeld
        intro hHeld
        (try simp only [sps])
        refine wpAnyH_take (i := 8) (v := ?_) rfl (by kernel_rfl) (by kernel_rfl) (by kernel_rfl) (fun _ _ _ h => h) (Or.inl ⟨by kernel_rfl, ?_⟩) (by assumption) ?_
        rotate_left
        ·intro w hSw; obtain hS0 := hSw; go_simp; (try with_reducible rfl)
        (try simp only [sps])
        (try clear X0 X1 X2 X3 X4 zX0 zX1 zX2 zX3 zX4 Xl)
        obtain ⟨X0, X1, X2, X3, X4, zX0, zX1, zX2, zX3, zX4, Xl⟩ := RI.all X10
        refine rdy 9 (fun K hK => ?_)
        go_simp
        refine hK.out _ _ IG.sds ?_
        clear hK K hHeld
        intro hHeld
        (try simp only [sps])
        refine wpAnyH_done (by kernel_rfl) ?_ _
        (try simp only [sps])
        clear hHeld I9 X10 S10 o10 b10 g10 X0 X1 X2 X3 X4 zX0 zX1 zX2 zX3 zX4 Xl
        try clear I8 b8
        first | change Exit.inBlock _ _ _ _ (w10.setCell ⟨po, 2, none⟩ (.slice a10 n10 c10)) | change Exit.then _ _ _ _ (w10.setCell ⟨po, 2, none⟩ (.slice a10 n10 c10))
        generalize w10.setCell ⟨po, 2, none⟩ (.slice a10 n10 c10) = wz at IG ⊢
        have HZ := Lib.hid IG.I
        clear IG hn10
        go_wp2_with fail
        go_roundg g'
        case measure => omega
        case rel => exact ⟨x + 1, _, L ++ [q], t', by omega, by go_num, by rw [List.length_append, HL.out]; show yW + x + 1 = yW + (x + 1); omega, HB2.out, HRX, HZ⟩
       ·go_simp
        have I9 := I8.alloc (.cells #[.int .u8 (q.r.toNat : Int), .int .u8 (q.g.toNat : Int), .int .u8 (q.b.toNat : Int), .int .u8 (q.a.toNat : Int)] 59)
        refine hK.out _ _ I9.sds ?_
        clear hK K hHeld
        intro hHeld
        (try simp only [sps])
        refine rdy 1 (fun K hK => ?_)
        obtain ⟨X0, X1, X2, X3, X4, zX0, zX1, zX2, zX3, zX4, Xl⟩ := RI.all I9.I.X
        go_simp
        refine hK.out _ _ I9.sds ?_
        clear hK K hHeld
        intro hHeld
        (try simp only [sps])
        clear X0 X1 X2 X3 X4 zX0 zX1 zX2 zX3 zX4 Xl
        refine rdy 7 (fun K hK => ?_)
        refine oper_append_cols (.tmp 64) (.tmp 69) rfl w.heap.size v L rfl I9.I.O w8.heap.size 1 1 [q] rfl rfl (q_new w8 q) ?_ ?_ ?_
        ·rw [HL.out]; simp; omega
        ·have := I9.I.B.size; exact this
        intro v10 w10 o10 b10 g10
        have X10 : RI w10 po (W : Int) (H : Int) v 0 0 := Blk.grownQ I9.I.X I9.I.O (by decide) g10
        have S10 := (show DcKS w10 from trivial)
        have IG := I9.grow o10 b10 g10
        obtain ⟨a10, c10, hv10⟩ := o10.slice
        generalize hn10 : (L ++ [q]).length = n10 at hv10
        subst hv10
        refine hK.out _ _ S10 ?_
        clear hK K hHeld
        intro hHeld
        (try simp only [sps])
        refine wpAnyH_take (i := 8) (v := ?_) rfl (by kernel_rfl) (by kernel_rfl) (by kernel_rfl) (fun _ _ _ h => h) (Or.inl ⟨by kernel_rfl, ?_⟩) (by assumption) ?_
        rotate_left
        ·intro w hSw; obtain hS0 := hSw; go_simp; (try with_reducible rfl)
        (try simp only [sps])
        (try clear X0 X1 X2 X3 X4 zX0 zX1 zX2 zX3 zX4 Xl)
        obtain ⟨X0, X1, X2, X3, X4, zX0, zX1, zX2, zX3, zX4, Xl⟩ := RI.all X10
        refine rdy 9 (fun K hK => ?_)
        go_simp
        refine hK.out _ _ IG.sds ?_
        clear hK K hHeld
        intro hHeld
        (try simp only [sps])
        refine wpAnyH_done (by kernel_rfl) ?_ _
        (try simp only [sps])
        clear hHeld I9 X10 S10 o10 b10 g10 X0 X1 X2 X3 X4 zX0 zX1 zX2 zX3 zX4 Xl
        try clear I8 b8
        first | change Exit.inBlock _ _ _ _ (w10.setCell ⟨po, 2, none⟩ (.slice a10 n10 c10)) | change Exit.then _ _ _ _ (w10.setCell ⟨po, 2, none⟩ (.slice a10 n10 c10))
        generalize w10.setCell ⟨po, 2, none⟩ (.slice a10 n10 c10) = wz at IG ⊢
        have HZ := Lib.hid IG.I
        clear IG hn10
        go_wp2_with fail
        go_roundg g'
        case measure => omega
        case rel => exact ⟨x + 1, _, L ++ [q], t', by omega, by go_num, by rw [List.length_append, HL.out]; show yW + x + 1 = yW + (x + 1); omega, HB2.out, HRX, HZ⟩
     ·rw [hp] at hrun
      have HR2 : Hid (DRes.bad 1 s.size = D) := Lib.hid hrun
      obtain ⟨i, hi⟩ : ∃ i, x / 8 = i := ⟨_, rfl⟩
      rw [hi] at hout
      obtain ⟨A, hA⟩ : ∃ A, n + z + i = A := ⟨_, rfl⟩
      have hAI : (n : Int) + (z : Int) + (i : Int) = (A : Int) := by omega
      have hiI : (x : Int) / 8 = (i : Int) := by omega
      have hiJ : (s.size : Int) ≤ (A : Int) := by omega
      have w1 : IntKind.i64.wrap (i : Int) = (i : Int) := IntWalk.i64_in _ (by omega)
      clear hA hrun hp hB hL hzw
      go_wp2_with (go_at_call 32; refine (refBadC _ _ _).mono ?_; rintro e wb ⟨rfl, bb⟩; have IB := HI.out.below bb; obtain ⟨x0, x1, x2, x3, x4, zx0, zx1, zx2, zx3, zx4, xl⟩ := RI.all IB.A)
      exact bodyPost_ret (v := .agg #[.int .i64 0, .int .i64 0, .slice none 0 0, .int .i64 1, .int .i64 (s.size : Int)]) (by simp [results, Tryz.results15, go_sem, x0, x1, x2, x3, x4]) rfl (by rw [show D = DRes.bad 1 s.size from HR2.out.symm]; exact ⟨Below.st5 IB.B (Nat.le_succ _), rfl⟩)
    ·obtain rfl : x = W := by omega
     obtain rfl : gk = 0 := by omega
     have hxI : ¬ (x : Int) < (x : Int) := by omega
     have hrun := HRUN.out
     rw [Nat.zero_add] at hrun
     obtain ⟨hz, hmW, hyW⟩ := HZ0.out
     have HR3 := Lib.hid (show pixsR x H (bpixR s x) (m * x) t L = D by rw [hmW]; exact hrun)
     have hL3 : L.length = (y + 1) * x := by rw [hL, ← hyW, Nat.add_mul, Nat.one_mul]
     have hB3 : BSt s (n + (y + 1) * r) 0 t := by have h := hB.2 rfl; rw [← hz] at h; rw [Nat.add_mul, Nat.one_mul, ← Nat.add_assoc]; exact h
     have HLB := Lib.hid (And.intro hL3 hB3)
     clear hrun HRUN hz hmW hyW hL hB hL3 hB3 HZ0
     go_wp2_with fail
     go_roundg m
     case measure => omega
     case rel => exact ⟨y + 1, v, L, t, by omega, by go_num, HLB.out.1, HLB.out.2, HR3, HI⟩
  ·obtain rfl : y = H := by omega
   obtain rfl : gk = 0 := by omega
   have hyI : ¬ (y : Int) < (y : Int) := by omega
   have hrun := HRUN.out
   rw [Nat.zero_mul] at hrun
   unfold pixsR at hrun
   have HR2 := Lib.hid hrun
   have HL := Lib.hid (show L.length = P by rw [hL, Nat.mul_comm]; exact HP.out)
   obtain ⟨va, vc, hv⟩ := HI.out.O.slice
   generalize L.length = ll at hv
   subst hv
   obtain ⟨x0, x1, x2, x3, x4, zx0, zx1, zx2, zx3, zx4, xl⟩ := RI.all HI.out.A
   obtain ⟨X0, X1, X2, X3, X4, zX0, zX1, zX2, zX3, zX4, Xl⟩ := RI.all HI.out.X
   have hpn : w.heap.size + 1 ≠ po := by have := HI.out.np; omega
   clear hrun HRUN hL hB
   go_wp2_with fail
   exact bodyPost_ret (v := .agg #[.int .i64 (W : Int), .int .i64 (y : Int), .slice va ll vc, .int .i64 0, .int .i64 0]) (by simp [results, Tryz.results15, go_sem, x0, x1, x2, x3, x4]) rfl (by rw [show D = DRes.img W y (flat L) from HR2.out.symm]; exact ⟨HI.out.outs.1, _, L, rfl, HI.out.outs.2, rfl, by rw [HL.out, HP.out]⟩)
end Go.Proofs.YtgmgcfjllijhgaaGreat
