/- The document's Read of pixels as text. The document's Read of samples as text. The document's Read of samples as text. -/
import Derived.Test.YtgmgcfjllijhgaaGreatSq
import Derived.Test.YtgmgcfjllijhgaaGreatVRasRef
import Derived.Test.YtgmgcfjllijhgaaGreatVPnmHd
import Derived.Test.YtgmgcfjllijhgaaGreatVTokRef2
import Derived.Test.YtgmgcfjllijhgaaGreatVTokNum
import Derived.Test.YtgmgcfjllijhgaaGreatVFfRef3
import Derived.Test.YtgmgcfjllijhgaaGreatVFfM
import Derived.Test.YtgmgcfjllijhgaaGreatVPnmT
namespace Go.Proofs.YtgmgcfjllijhgaaGreat
open Go.RowKit
set_option linter.unusedVariables false
set_option linter.unusedSimpArgs false

theorem refGrayQ {v : Nat} (hv : v ≤ 255) (w : World) : Calls Tryz.prog 33 #[.int .i64 (v : Int)] w fun e w' => e = .returned (grayQ (UInt8.ofNat v)).v ∧ Below w.heap.size w w' := by
 have hvI : (v : Int) ≤ 255 := by omega
 have hu : ((UInt8.ofNat v).toNat : Int) = (v : Int) := by rw [UInt8.toNat_ofNat', Nat.mod_eq_of_lt (by omega)]
 have hw : (v : Int) % 256 = (v : Int) := by omega
 go_enter Tryz.func33, Tryz.ntmps33
 go_wp2_with fail
 exact bodyPost_ret (v := (grayQ (UInt8.ofNat v)).v) (by simp [results, Tryz.results33, go_sem, grayQ, Qc.v, hu, hw]) rfl ⟨rfl, (Below.refl _ _).alloc (Nat.le_refl _) _⟩
/-- what holds at each pixel -/
structure DcI (w0 w : World) (po K W H M n : Nat) (v : Value) (L : List Qc) : Prop where
 Hd : Blk w w0.heap.size 24 #[.int .i64 (K : Int), .int .i64 (W : Int), .int .i64 (H : Int), .int .i64 (M : Int), .int .i64 (n : Int), .int .i64 0, .int .i64 0]
 A : RI w (w0.heap.size + 1) 0 0 (.slice none 0 0) 0 0
 X : RI w po (W : Int) (H : Int) v 0 0
 O : OwnsQ w w0.heap.size v L
 B : Below w0.heap.size w0 w
 np : w0.heap.size + 1 < po
/-- and what was read -/
structure DcJ (w0 w : World) (po K W H M n : Nat) (v : Value) (L : List Qc) (pd : Nat) (G : Array Value) : Prop where
 I : DcI w0 w po K W H M n v L
 D : Blk w pd 54 G
section
variable {w0 w w' : World} {po K W H M n : Nat} {v : Value} {L : List Qc} {pd : Nat} {G : Array Value}
theorem DcI.below (h : DcI w0 w po K W H M n v L) (b : Below w.heap.size w w') : DcI w0 w' po K W H M n v L :=
 ⟨Blk.below h.Hd b (Blk.lt h.Hd), Blk.below h.A b (Blk.lt h.A), Blk.below h.X b (Blk.lt h.X), h.O.below b, below_next h.B b, h.np⟩
theorem DcI.alloc (h : DcI w0 w po K W H M n v L) (x : Obj) : DcI w0 (w.alloc x) po K W H M n v L := h.below ((Below.refl _ _).alloc (Nat.le_refl _) _)
theorem DcI.drew (h : DcI w0 w po K W H M n v L) : DcI w0 w.drew po K W H M n v L :=
 ⟨Blk.drew h.Hd, Blk.drew h.A, Blk.drew h.X, h.O, h.B.drew, h.np⟩
theorem DcJ.below (h : DcJ w0 w po K W H M n v L pd G) (b : Below w.heap.size w w') : DcJ w0 w' po K W H M n v L pd G := ⟨h.I.below b, Blk.below h.D b (Blk.lt h.D)⟩
theorem DcJ.alloc (h : DcJ w0 w po K W H M n v L pd G) (x : Obj) : DcJ w0 (w.alloc x) po K W H M n v L pd G := h.below ((Below.refl _ _).alloc (Nat.le_refl _) _)
theorem DcJ.drew (h : DcJ w0 w po K W H M n v L pd G) : DcJ w0 w.drew po K W H M n v L pd G := ⟨h.I.drew, Blk.drew h.D⟩
theorem dwp_gen {c : Code} {Q : Exit → Act → World → Prop} {a : Act} {w : World} {S : World → Prop} (hS : S w) (h : ∀ wx, S wx → c.wp Tryz.prog Q a wx) : c.wp Tryz.prog Q a w := h w hS
theorem DcI.grow {u : Value} {c : Qc} (h : DcI w0 w po K W H M n v L) (o : OwnsQ w' w0.heap.size u (L ++ [c])) (b : Below w0.heap.size w w') (g : w.grownBy w' v.ownBlock) : DcI w0 (w'.setCell ⟨po, 2, none⟩ u) po K W H M n u (L ++ [c]) := by
 have X1 : RI w' po (W : Int) (H : Int) v 0 0 := Blk.grownQ h.X h.O (by decide) g
 have A1 : RI w' (w0.heap.size + 1) 0 0 (.slice none 0 0) 0 0 := Blk.grownQ h.A h.O (by decide) g
 have H1 := Blk.grownQ h.Hd h.O (by decide) g
 have hp := h.np
 exact ⟨Blk.far H1 (p := ⟨po, 2, none⟩) (by show w0.heap.size ≠ po; omega) u, Blk.far A1 (p := ⟨po, 2, none⟩) (Nat.ne_of_lt h.np) u, (Blk.set_ X1 2 u).eq_ (by simp [ri5]), OwnsQ.farRI o X1, below_set (h.B.trans b) (by show w0.heap.size ≤ po; omega), h.np⟩
theorem DcJ.grow {u : Value} {c : Qc} (h : DcJ w0 w po K W H M n v L pd G) (o : OwnsQ w' w0.heap.size u (L ++ [c])) (b : Below w0.heap.size w w') (g : w.grownBy w' v.ownBlock) : DcJ w0 (w'.setCell ⟨po, 2, none⟩ u) po K W H M n u (L ++ [c]) pd G := by
 have X1 : RI w' po (W : Int) (H : Int) v 0 0 := Blk.grownQ h.I.X h.I.O (by decide) g
 have D1 := Blk.grownQ h.D h.I.O (by decide) g
 exact ⟨h.I.grow o b g, Blk.far D1 (p := ⟨po, 2, none⟩) (Blk.ne_ D1 X1 (by decide)) u⟩
theorem DcI.outs (h : DcI w0 w po K W H M n v L) {W' H' k i : Int} : Below w0.heap.size w0 (st5 w (w0.heap.size + 1) (.int .i64 W') (.int .i64 H') v (.int .i64 k) (.int .i64 i)) ∧ OwnsQ (st5 w (w0.heap.size + 1) (.int .i64 W') (.int .i64 H') v (.int .i64 k) (.int .i64 i)) w0.heap.size v L :=
 ⟨Below.st5 h.B (Nat.le_succ _), OwnsQ.st5RI h.O h.A⟩
theorem DcI.head (h : DcI w0 w po K W H M n v L) : w.cell? ⟨w0.heap.size, 0, none⟩ = some (.int .i64 (K : Int)) ∧ w.cell? ⟨w0.heap.size, 1, none⟩ = some (.int .i64 (W : Int)) ∧ w.cell? ⟨w0.heap.size, 2, none⟩ = some (.int .i64 (H : Int)) ∧ w.cell? ⟨w0.heap.size, 3, none⟩ = some (.int .i64 (M : Int)) ∧ w.cell? ⟨w0.heap.size, 4, none⟩ = some (.int .i64 (n : Int)) :=
 ⟨Blk.cell h.Hd 0, Blk.cell h.Hd 1, Blk.cell h.Hd 2, Blk.cell h.Hd 3, Blk.cell h.Hd 4⟩
/-- what was read stays -/
def DcS (pd : Nat) (V : Nat) (w : World) : Prop := w.cell? ⟨pd, 0, none⟩ = some (.int .i64 (V : Int)) ∧ True
theorem DcJ.sds {V : Nat} {c1 c2 c3 c4 : Value} (h : DcJ w0 w po K W H M n v L pd #[.int .i64 (V : Int), c1, c2, c3, c4]) : DcS pd V w := ⟨Blk.cell h.D 0, trivial⟩
end
set_option maxRecDepth 100000 in
set_option maxHeartbeats 8000000 in
theorem docRead_one {s : ByteArray} {W H M n : Nat} {D : DRes} (hsm : s.size ≤ 1099511627776) (hh : HeadOk s ⟨1, W, H, M, n, 0, 0⟩) (hD : pixsR W H (tpixR s 1 M) (W * H) n [] = D) (w : World) : Calls Tryz.prog 10 #[.string s, .agg #[.int .i64 1, .int .i64 (W : Int), .int .i64 (H : Int), .int .i64 (M : Int), .int .i64 (n : Int), .int .i64 0, .int .i64 0]] w fun e w' => RefPost D w w' e := by
 have hW2 : W ≤ 16384 := hh.W.2
 have hH2 : H ≤ 16384 := hh.H.2
 have hPB : W * H ≤ 16384 * 16384 := Nat.mul_le_mul hW2 hH2
 have hn : n ≤ s.size := hh.At
 obtain ⟨P, hP⟩ : ∃ P, W * H = P := ⟨_, rfl⟩
 rw [hP] at hPB hD
 have hPI : IntKind.i64.wrap ((W : Int) * (H : Int)) = (P : Int) := by rw [← Int.natCast_mul, hP]; exact IntWalk.i64_in _ (by omega)
 have HP := Lib.hid hP
 have HD := Lib.hid hD
 have HO := Lib.hid hh
 have hsB : (s.size : Int) ≤ 1099511627776 := by omega
 have I0 : DcI w (((w.alloc (.cells #[.int .i64 1, .int .i64 (W : Int), .int .i64 (H : Int), .int .i64 (M : Int), .int .i64 (n : Int), .int .i64 0, .int .i64 0] 24)).alloc (.cells #[.int .i64 0, .int .i64 0, .slice none 0 0, .int .i64 0, .int .i64 0] 28)).alloc (.cells #[.int .i64 (W : Int), .int .i64 (H : Int), .slice none 0 0, .int .i64 0, .int .i64 0] 28)) (w.heap.size + 2) 1 W H M n (.slice none 0 0) [] :=
  ⟨Blk.alloc (Blk.alloc (Blk.new _ _ _) _) _, Blk.alloc (Blk.new_at _ _ _ (by simp)) _, Blk.new_at _ _ _ (by simp), World.ownsRow_nil _ _ _ _, (((Below.refl _ _).alloc (Nat.le_refl _) _).alloc (by simp) _).alloc (by simp; omega) _, by omega⟩
 clear hP hD hh hW2 hH2
 go_enter Tryz.func10, Tryz.ntmps10
 go_upto_region 2 with fail
 generalize ((w.alloc (.cells #[.int .i64 1, .int .i64 (W : Int), .int .i64 (H : Int), .int .i64 (M : Int), .int .i64 (n : Int), .int .i64 0, .int .i64 0] 24)).alloc (.cells #[.int .i64 0, .int .i64 0, .slice none 0 0, .int .i64 0, .int .i64 0] 28)).alloc (.cells #[.int .i64 (W : Int), .int .i64 (H : Int), .slice none 0 0, .int .i64 0, .int .i64 0] 28) = w5 at I0 ⊢
 generalize hpo : w.heap.size + 2 = po at I0 ⊢
 have HI0 := Lib.hid I0
 obtain ⟨h0, h1, h2, h3, h4⟩ := I0.head
 clear I0 hpo
 go_upto_region 4 with fail
 clear h0 h1 h2 h3 h4
 go_loopg [6, 7, 8, 9, 10, 11, 12] P (fun gh v6 v7 v8 v9 v10 v11 v12 wr => ∃ (i a : Nat) (v : Value) (L : List Qc), i + gh = P ∧ v6 = .int .i64 (a : Int) ∧ v7 = .int .i64 (i : Int) ∧ a ≤ s.size ∧ L.length = i ∧ Hid (pixsR W H (tpixR s 1 M) gh a L = D) ∧ Hid (DcI w wr po 1 W H M n v L))
 case atStart => exact ⟨0, n, _, [], by omega, rfl, rfl, hn, rfl, HD, HI0⟩
 case round =>
  obtain ⟨i, a, v, L, hi, rfl, rfl, ha, hL, HRUN, HI⟩ := hrel
  clear HI0 HD hn
  obtain ⟨h0, h1, h2, h3, h4⟩ := HI.out.head
  have HL := Lib.hid hL
  clear hL
  by_cases hiP : i < P
  ·have hiI : (i : Int) < (P : Int) := by omega
   obtain ⟨m, rfl⟩ : ∃ m, gk = m + 1 := ⟨gk - 1, by omega⟩
   have hrun := HRUN.out
   unfold pixsR at hrun
   rw [show tpixR s 1 M a = bitR s a from rfl] at hrun
   unfold bitR at hrun
   have HC0 := fun w => refDigit_any s a w ha hsm
   rcases digitAt_or (nats s) a (by rw [nats_len]; exact ha) with ⟨kd, pl, hg, hk0, hk2, hpl⟩ | ⟨V, f, hg, hf, hV, haf⟩
   ·rw [hg] at hrun HC0
    rw [if_pos hk0] at hrun
    have HC := Lib.hid HC0
    unfold gotV at HC
    have hkI : ¬ (kd : Int) = 0 := by omega
    have HR2 := Lib.hid hrun
    clear hrun HRUN HC0 hg hk0 hk2 hpl
    go_wp2_with (first
     | (go_at_call 31; refine (HC.out _).mono ?_; rintro e w7 ⟨rfl, b7⟩; have I7 := (HI.out.below b7).alloc (.cells #[.int .i64 0, .int .i64 0, .int .i64 0, .int .i64 (kd : Int), .int .i64 (pl : Int)] 54))
     | (go_at_call 32; refine (refBadC _ _ _).mono ?_; rintro e wb ⟨rfl, bb⟩; have IB := I7.below bb; obtain ⟨x0, x1, x2, x3, x4, zx0, zx1, zx2, zx3, zx4, xl⟩ := RI.all IB.A))
    exact bodyPost_ret (v := .agg #[.int .i64 0, .int .i64 0, .slice none 0 0, .int .i64 (kd : Int), .int .i64 (pl : Int)]) (by simp [results, Tryz.results10, go_sem, x0, x1, x2, x3, x4]) rfl (by rw [show D = DRes.bad kd pl from HR2.out.symm]; exact ⟨Below.st5 IB.B (Nat.le_succ _), rfl⟩)
   ·rw [hg] at hrun HC0
    rw [if_neg (by simp)] at hrun
    have hrx : pixsR W H (tpixR s 1 M) m (f + 1) (L ++ [grayQ (UInt8.ofNat (255 * (1 - V)))]) = D := hrun
    have HC := Lib.hid HC0
    unfold gotV at HC
    rw [nats_len] at hf
    have hb1 : IntKind.i64.wrap (1 - (V : Int)) = ((1 - V : Nat) : Int) := by rw [Int.ofNat_sub hV]; exact IntWalk.i64_in _ (by omega)
    have hb2 : IntKind.i64.wrap (255 * ((1 - V : Nat) : Int)) = ((255 * (1 - V) : Nat) : Int) := by rw [Int.natCast_mul]; exact IntWalk.i64_in _ (by omega)
    have HG0 := fun w => refGrayQ (v := 255 * (1 - V)) (by omega) w
    generalize 1 - V = u1 at hb1 hb2 HG0 hrx
    generalize 255 * u1 = u2 at hb2 HG0 hrx
    generalize grayQ (UInt8.ofNat u2) = q at HG0 hrx
    unfold Qc.v at HG0
    have HG := Lib.hid HG0
    have HRX := Lib.hid hrx
    clear hrun hrx HRUN HC0 HG0 hg hV haf
    go_upto_region 11 with (go_at_call 31; refine (HC.out _).mono ?_; rintro e w7 ⟨rfl, b7⟩; have J7 : DcJ w (w7.alloc (.cells #[.int .i64 (V : Int), .int .i64 (f : Int), .int .i64 ((f + 1 : Nat) : Int), .int .i64 0, .int .i64 0] 54)) po 1 W H M n v L w7.heap.size #[.int .i64 (V : Int), .int .i64 (f : Int), .int .i64 ((f + 1 : Nat) : Int), .int .i64 0, .int .i64 0] := ⟨(HI.out.below b7).alloc _, Blk.new _ _ _⟩)
    have HJ := Lib.hid J7
    clear J7 b7 HI h0 h1 h2 h3 h4
    change Code.wp _ _ _ _ (w7.alloc (.cells #[.int .i64 (V : Int), .int .i64 (f : Int), .int .i64 ((f + 1 : Nat) : Int), .int .i64 0, .int .i64 0] 54))
    generalize w7.alloc (.cells #[.int .i64 (V : Int), .int .i64 (f : Int), .int .i64 ((f + 1 : Nat) : Int), .int .i64 0, .int .i64 0] 54) = w8 at HJ ⊢
    generalize w7.heap.size = pd at HJ ⊢
    refine dwp_gen (S := fun wx => DcJ w wx po 1 W H M n v L pd #[.int .i64 (V : Int), .int .i64 (f : Int), .int .i64 ((f + 1 : Nat) : Int), .int .i64 0, .int .i64 0]) (by exact HJ.out) (fun wx hX => ?_)
    have HX := Lib.hid hX.drew
    refine wp_region_held_drew (S := (DcS pd V)) (by kernel_rfl) HX.out.sds (fun hHeld => ?_)
    clear hX HJ
    generalize wx.drew = wd at HX hHeld ⊢
    refine wpAnyH_take (i := 0) (v := ?_) rfl (by kernel_rfl) (by kernel_rfl) (by kernel_rfl) (fun _ _ _ h => h) (Or.inl ⟨by kernel_rfl, ?_⟩) (by assumption) ?_
    rotate_left
    ·intro w hSw; obtain ⟨s0, _⟩ := hSw; go_simp; (try with_reducible rfl)
    (try simp only [sps])
    refine wpAnyH_take (i := 2) (v := ?_) rfl (by kernel_rfl) (by kernel_rfl) (by kernel_rfl) (fun _ _ _ h => h) (Or.inl ⟨by kernel_rfl, ?_⟩) (by assumption) ?_
    rotate_left
    ·intro w hSw; obtain ⟨s0, _⟩ := hSw; go_simp; (try with_reducible rfl)
    (try simp only [sps])
    refine wpAnyH_take (i := 3) (v := ?_) rfl (by kernel_rfl) (by kernel_rfl) (by kernel_rfl) (fun _ _ _ h => h) (Or.inl ⟨by kernel_rfl, ?_⟩) (by assumption) ?_
    rotate_left
    ·intro w hSw; obtain ⟨s0, _⟩ := hSw; go_simp; (try with_reducible rfl)
    (try simp only [sps])
    refine wpAnyH_take (i := 4) (v := ?_) rfl (by kernel_rfl) (by kernel_rfl) (by kernel_rfl) (fun _ _ _ h => h) (Or.inl ⟨by kernel_rfl, ?_⟩) (by assumption) ?_
    rotate_left
    ·intro w hSw; obtain ⟨s0, _⟩ := hSw; go_simp; (try with_reducible rfl)
    (try simp only [sps])
    refine wpAnyH_take (i := 5) (v := ?_) rfl (by kernel_rfl) (by kernel_rfl) (by kernel_rfl) (fun _ _ _ h => h) (Or.inl ⟨by kernel_rfl, ?_⟩) (by assumption) ?_
    rotate_left
    ·intro w hSw; obtain ⟨s0, _⟩ := hSw; go_simp; (try with_reducible rfl)
    (try simp only [sps])
    refine wpAnyH_ready (rs := [1, 6]) (by kernel_rfl) (by simp) ?_
    refine AllReadyH.cons rfl (fun K hK => ?_) (AllReadyH.cons rfl (fun K hK => ?_) AllReadyH.nil)
    ·obtain ⟨X0, X1, X2, X3, X4, zX0, zX1, zX2, zX3, zX4, Xl⟩ := RI.all HX.out.I.X
     go_simp
     refine hK.out _ _ HX.out.sds ?_
     clear hK K hHeld
     intro hHeld
     (try simp only [sps])
     clear X0 X1 X2 X3 X4 zX0 zX1 zX2 zX3 zX4 Xl
     refine rdy 6 (fun K hK => ?_)
     go_simp
     refine (HG.out _).mono ?_
     rintro e w8 ⟨rfl, b8⟩
     have I8 := HX.out.below b8
     refine hK.out _ _ I8.sds ?_
     clear hK K hHeld
     intro hHeld
     (try simp only [sps])
     refine rdy 7 (fun K hK => ?_)
     go_simp
     have I9 := I8.alloc (.cells #[.int .u8 (q.r.toNat : Int), .int .u8 (q.g.toNat : Int), .int .u8 (q.b.toNat : Int), .int .u8 (q.a.toNat : Int)] 59)
     refine hK.out _ _ I9.sds ?_
     clear hK K hHeld
     intro hHeld
     (try simp only [sps])
     refine rdy 8 (fun K hK => ?_)
     refine oper_append_cols (.tmp 46) (.tmp 52) rfl w.heap.size v L rfl I9.I.O w8.heap.size 1 1 [q] rfl rfl (q_new w8 q) ?_ ?_ ?_
     ·rw [HL.out]; simp; omega
     ·have := I9.I.B.size; exact this
     intro v10 w10 o10 b10 g10
     have X10 : RI w10 po (W : Int) (H : Int) v 0 0 := Blk.grownQ I9.I.X I9.I.O (by decide) g10
     have S10 := (show DcS pd V w10 from ⟨Blk.cell (Blk.grownQ I9.D I9.I.O (by decide) g10) 0, trivial⟩)
     have IG := I9.grow o10 b10 g10
     obtain ⟨a10, c10, hv10⟩ := o10.slice
     generalize hn10 : (L ++ [q]).length = n10 at hv10
     subst hv10
     refine hK.out _ _ S10 ?_
     clear hK K hHeld
     intro hHeld
     (try simp only [sps])
     refine wpAnyH_take (i := 9) (v := ?_) rfl (by kernel_rfl) (by kernel_rfl) (by kernel_rfl) (fun _ _ _ h => h) (Or.inl ⟨by kernel_rfl, ?_⟩) (by assumption) ?_
     rotate_left
     ·intro w hSw; obtain ⟨s0, _⟩ := hSw; go_simp; (try with_reducible rfl)
     (try simp only [sps])
     (try clear X0 X1 X2 X3 X4 zX0 zX1 zX2 zX3 zX4 Xl)
     obtain ⟨X0, X1, X2, X3, X4, zX0, zX1, zX2, zX3, zX4, Xl⟩ := RI.all X10
     refine rdy 10 (fun K hK => ?_)
     go_simp
     refine hK.out _ _ IG.sds ?_
     clear hK K hHeld
     intro hHeld
     (try simp only [sps])
     refine wpAnyH_done (by kernel_rfl) ?_ _
     (try simp only [sps])
     clear hHeld I9 X10 S10 o10 b10 g10 X0 X1 X2 X3 X4 zX0 zX1 zX2 zX3 zX4 Xl
     try clear I8 b8
     first | change Exit.inBlock _ _ _ _ (w10.setCell ⟨po, 2, none⟩ (.slice a10 n10 c10)) | change Exit.then _ _ _ _ (w10.setCell ⟨po, 2, none⟩ (.slice a10 n10 c10))
     generalize w10.setCell ⟨po, 2, none⟩ (.slice a10 n10 c10) = wz at IG ⊢
     have HZ := Lib.hid IG.I
     clear IG hn10
     go_wp2_with fail
     go_roundg m
     case measure => omega
     case rel => exact ⟨i + 1, f + 1, _, L ++ [q], by omega, by go_num, by go_num, by omega, by rw [List.length_append, HL.out]; rfl, HRX, HZ⟩
    ·go_simp
     refine (HG.out _).mono ?_
     rintro e w8 ⟨rfl, b8⟩
     have I8 := HX.out.below b8
     refine hK.out _ _ I8.sds ?_
     clear hK K hHeld
     intro hHeld
     (try simp only [sps])
     refine wpAnyH_ready (rs := [1, 7]) (by kernel_rfl) (by simp) ?_
     refine AllReadyH.cons rfl (fun K hK => ?_) (AllReadyH.cons rfl (fun K hK => ?_) AllReadyH.nil)
     ·obtain ⟨X0, X1, X2, X3, X4, zX0, zX1, zX2, zX3, zX4, Xl⟩ := RI.all I8.I.X
      go_simp
      refine hK.out _ _ I8.sds ?_
      clear hK K hHeld
      intro hHeld
      (try simp only [sps])
      clear X0 X1 X2 X3 X4 zX0 zX1 zX2 zX3 zX4 Xl
      refine rdy 7 (fun K hK => ?_)
      go_simp
      have I9 := I8.alloc (.cells #[.int .u8 (q.r.toNat : Int), .int .u8 (q.g.toNat : Int), .int .u8 (q.b.toNat : Int), .int .u8 (q.a.toNat : Int)] 59)
      refine hK.out _ _ I9.sds ?_
      clear hK K hHeld
      intro hHeld
      (try simp only [sps])
      refine rdy 8 (fun K hK => ?_)
      refine oper_append_cols (.tmp 46) (.tmp 52) rfl w.heap.size v L rfl I9.I.O w8.heap.size 1 1 [q] rfl rfl (q_new w8 q) ?_ ?_ ?_
      ·rw [HL.out]; simp; omega
      ·have := I9.I.B.size; exact this
      intro v10 w10 o10 b10 g10
      have X10 : RI w10 po (W : Int) (H : Int) v 0 0 := Blk.grownQ I9.I.X I9.I.O (by decide) g10
      have S10 := (show DcS pd V w10 from ⟨Blk.cell (Blk.grownQ I9.D I9.I.O (by decide) g10) 0, trivial⟩)
      have IG := I9.grow o10 b10 g10
      obtain ⟨a10, c10, hv10⟩ := o10.slice
      generalize hn10 : (L ++ [q]).length = n10 at hv10
      subst hv10
      refine hK.out _ _ S10 ?_
      clear hK K hHeld
      intro hHeld
      (try simp only [sps])
      refine wpAnyH_take (i := 9) (v := ?_) rfl (by kernel_rfl) (by kernel_rfl) (by kernel_rfl) (fun _ _ _ h => h) (Or.inl ⟨by kernel_rfl, ?_⟩) (by assumption) ?_
      rotate_left
      ·intro w hSw; obtain ⟨s0, _⟩ := hSw; go_simp; (try with_reducible rfl)
      (try simp only [sps])
      (try clear X0 X1 X2 X3 X4 zX0 zX1 zX2 zX3 zX4 Xl)
      obtain ⟨X0, X1, X2, X3, X4, zX0, zX1, zX2, zX3, zX4, Xl⟩ := RI.all X10
      refine rdy 10 (fun K hK => ?_)
      go_simp
      refine hK.out _ _ IG.sds ?_
      clear hK K hHeld
      intro hHeld
      (try simp only [sps])
      refine wpAnyH_done (by kernel_rfl) ?_ _
      (try simp only [sps])
      clear hHeld I9 X10 S10 o10 b10 g10 X0 X1 X2 X3 X4 zX0 zX1 zX2 zX3 zX4 Xl
      try clear I8 b8
      first | change Exit.inBlock _ _ _ _ (w10.setCell ⟨po, 2, none⟩ (.slice a10 n10 c10)) | change Exit.then _ _ _ _ (w10.setCell ⟨po, 2, none⟩ (.slice a10 n10 c10))
      generalize w10.setCell ⟨po, 2, none⟩ (.slice a10 n10 c10) = wz at IG ⊢
      have HZ := Lib.hid IG.I
      clear IG hn10
      go_wp2_with fail
      go_roundg m
      case measure => omega
      case rel => exact ⟨i + 1, f + 1, _, L ++ [q], by omega, by go_num, by go_num, by omega, by rw [List.length_append, HL.out]; rfl, HRX, HZ⟩
     ·go_simp
      have I9 := I8.alloc (.cells #[.int .u8 (q.r.toNat : Int), .int .u8 (q.g.toNat : Int), .int .u8 (q.b.toNat : Int), .int .u8 (q.a.toNat : Int)] 59)
      refine hK.out _ _ I9.sds ?_
      clear hK K hHeld
      intro hHeld
      (try simp only [sps])
      refine rdy 1 (fun K hK => ?_)
      obtain ⟨X0, X1, X2, X3, X4, zX0, zX1, zX2, zX3, zX4, Xl⟩ := RI.all I9.I.X
      go_simp
      refine hK.out _ _ I9.sds ?_
      clear hK K hHeld
      intro hHeld
      (try simp only [sps])
      clear X0 X1 X2 X3 X4 zX0 zX1 zX2 zX3 zX4 Xl
      refine rdy 8 (fun K hK => ?_)
      refine oper_append_cols (.tmp 46) (.tmp 52) rfl w.heap.size v L rfl I9.I.O w8.heap.size 1 1 [q] rfl rfl (q_new w8 q) ?_ ?_ ?_
      ·rw [HL.out]; simp; omega
      ·have := I9.I.B.size; exact this
      intro v10 w10 o10 b10 g10
      have X10 : RI w10 po (W : Int) (H : Int) v 0 0 := Blk.grownQ I9.I.X I9.I.O (by decide) g10
      have S10 := (show DcS pd V w10 from ⟨Blk.cell (Blk.grownQ I9.D I9.I.O (by decide) g10) 0, trivial⟩)
      have IG := I9.grow o10 b10 g10
      obtain ⟨a10, c10, hv10⟩ := o10.slice
      generalize hn10 : (L ++ [q]).length = n10 at hv10
      subst hv10
      refine hK.out _ _ S10 ?_
      clear hK K hHeld
      intro hHeld
      (try simp only [sps])
      refine wpAnyH_take (i := 9) (v := ?_) rfl (by kernel_rfl) (by kernel_rfl) (by kernel_rfl) (fun _ _ _ h => h) (Or.inl ⟨by kernel_rfl, ?_⟩) (by assumption) ?_
      rotate_left
      ·intro w hSw; obtain ⟨s0, _⟩ := hSw; go_simp; (try with_reducible rfl)
      (try simp only [sps])
      (try clear X0 X1 X2 X3 X4 zX0 zX1 zX2 zX3 zX4 Xl)
      obtain ⟨X0, X1, X2, X3, X4, zX0, zX1, zX2, zX3, zX4, Xl⟩ := RI.all X10
      refine rdy 10 (fun K hK => ?_)
      go_simp
      refine hK.out _ _ IG.sds ?_
      clear hK K hHeld
      intro hHeld
      (try simp only [sps])
      refine wpAnyH_done (by kernel_rfl) ?_ _
      (try simp only [sps])
      clear hHeld I9 X10 S10 o10 b10 g10 X0 X1 X2 X3 X4 zX0 zX1 zX2 zX3 zX4 Xl
      try clear I8 b8
      first | change Exit.inBlock _ _ _ _ (w10.setCell ⟨po, 2, none⟩ (.slice a10 n10 c10)) | change Exit.then _ _ _ _ (w10.setCell ⟨po, 2, none⟩ (.slice a10 n10 c10))
      generalize w10.setCell ⟨po, 2, none⟩ (.slice a10 n10 c10) = wz at IG ⊢
      have HZ := Lib.hid IG.I
      clear IG hn10
      go_wp2_with fail
      go_roundg m
      case measure => omega
      case rel => exact ⟨i + 1, f + 1, _, L ++ [q], by omega, by go_num, by go_num, by omega, by rw [List.length_append, HL.out]; rfl, HRX, HZ⟩
  ·obtain rfl : i = P := by omega
   obtain rfl : gk = 0 := by omega
   have hiI : ¬ (i : Int) < (i : Int) := by omega
   have hrun := HRUN.out
   unfold pixsR at hrun
   have HR2 := Lib.hid hrun
   obtain ⟨va, vc, hv⟩ := HI.out.O.slice
   generalize L.length = ll at hv
   subst hv
   obtain ⟨x0, x1, x2, x3, x4, zx0, zx1, zx2, zx3, zx4, xl⟩ := RI.all HI.out.A
   obtain ⟨X0, X1, X2, X3, X4, zX0, zX1, zX2, zX3, zX4, Xl⟩ := RI.all HI.out.X
   have hpn : w.heap.size + 1 ≠ po := by have := HI.out.np; omega
   clear hrun HRUN
   go_wp2_with fail
   exact bodyPost_ret (v := .agg #[.int .i64 (W : Int), .int .i64 (H : Int), .slice va ll vc, .int .i64 0, .int .i64 0]) (by simp [results, Tryz.results10, go_sem, x0, x1, x2, x3, x4]) rfl (by rw [show D = DRes.img W H (flat L) from HR2.out.symm]; exact ⟨HI.out.outs.1, _, L, rfl, HI.out.outs.2, rfl, by rw [HL.out, HP.out]⟩)
end Go.Proofs.YtgmgcfjllijhgaaGreat
namespace Go.Proofs.YtgmgcfjllijhgaaGreat
open Go.RowKit
set_option linter.unusedVariables false
set_option linter.unusedSimpArgs false

/-- so many samples -/
def smpsR (s : ByteArray) (M : Nat) : Nat → Nat → List UInt8 → Out (List UInt8 × Nat)
 | 0, a, l => .inr (l, a)
 | m + 1, a, l => (smpR s M a).bind fun r => smpsR s M m r.2 (l ++ [r.1])
theorem tpixR_two (s : ByteArray) (M a : Nat) : tpixR s 2 M a = (smpsR s M 1 a []).bind fun r => .inr (grayQ (r.1.getD 0 0), r.2) := by
 unfold tpixR
 rw [if_neg (by decide), if_neg (by decide)]
 unfold smpsR
 cases smpR s M a with
 | inl b => rfl
 | inr r => rfl
theorem tpixR_three (s : ByteArray) (M a : Nat) : tpixR s 3 M a = (smpsR s M 3 a []).bind fun r => .inr (⟨r.1.getD 0 0, r.1.getD 1 0, r.1.getD 2 0, 255⟩, r.2) := by
 unfold tpixR
 rw [if_neg (by decide), if_pos rfl]
 unfold smpsR
 cases smpR s M a with
 | inl b => rfl
 | inr r =>
  simp only [Out.bind]
  unfold smpsR
  cases smpR s M r.2 with
  | inl b => rfl
  | inr g =>
   simp only [Out.bind]
   unfold smpsR
   cases smpR s M g.2 with
   | inl b => rfl
   | inr b => rfl
theorem infoInt3 : (Tryz.prog.info? 3).map (fun i => (i.zero, i.size, i.bytes)) = some (some (.int .i64 0), 1, 8) := by kernel_rfl
theorem Owns1.empty3 {w : World} {base : Nat} {e : TypeId} (h : base ≤ w.heap.size) : Owns1 (w.alloc (.cells #[] e)) base e (.slice (some ⟨w.heap.size, 0, none⟩) 0 0) [] :=
 World.ownsRow_lit w #[] 0 h (by unfold maxLen; omega) (by simp)
theorem Blk.grownO3 {w w' : World} {g base : Nat} {t e : TypeId} {cs : Array Value} {v : Value} {l : List Value} (h : Blk w g t cs) (o : Owns1 w base e v l) (hne : t ≠ e) (hg : w.grownBy w' v.ownBlock) : Blk w' g t cs := by
 refine h.grown hg fun he => ?_
 rcases o.2 with ⟨rfl, _⟩ | ⟨r, cap, cur, rfl, _, hr, _⟩
 ·cases he
 ·simp only [Value.ownBlock, Option.some.injEq] at he
  subst he
  exact Blk.ne_ h hr hne rfl
theorem own_apart {w : World} {base base' q q' n n' : Nat} {e e' : TypeId} {u u' : Value} {l l' : List Value} (h : w.ownsRow base e q u n l) (k : w.ownsRow base' e' q' u' n' l') (he : e ≠ e') : u.ownBlock = none ∨ u.ownBlock ≠ u'.ownBlock := by
 rcases h.2 with ⟨rfl, _⟩ | ⟨g, cap, cur, rfl, _, hg, _⟩
 ·exact .inl rfl
 ·refine .inr fun hb => ?_
  rcases k.2 with ⟨rfl, _⟩ | ⟨g', cap', cur', rfl, _, hg', _⟩
  ·cases hb
  ·simp only [Value.ownBlock, Option.some.injEq] at hb
   subst hb
   rw [hg] at hg'
   injection hg' with h1
   injection h1 with _ h2 _
   exact he h2
theorem Owns1.turnD {S : List Nat} {w w' : World} {base : Nat} {e : TypeId} {v : Value} {l : List Value} (o : Owns1 w base e v l) (k : Turn S w w') (hS : ∀ i ∈ S, ∃ t cs, Blk w i t cs ∧ t ≠ e) : Owns1 w' base e v l := by
 refine ⟨o.1, ?_⟩
 rcases o.2 with h | ⟨r, cap, cur, hv, hb, hr, h4, h5, h6, h7⟩
 ·exact .inl h
 ·refine .inr ⟨r, cap, cur, hv, hb, ?_, h4, h5, h6, h7⟩
  exact Blk.turn hr k (fun hm => by obtain ⟨t, cs, hbk, hn⟩ := hS r hm; exact Blk.ne_ hbk hr hn rfl)
theorem Owns1.farB {w : World} {base b i : Nat} {t T : TypeId} {cs : Array Value} {v u : Value} {l : List Value} (o : Owns1 w base T v l) (h : Blk w b t cs) (ht : t ≠ T) : Owns1 (w.setCell ⟨b, i, none⟩ u) base T v l :=
 o.turnD (S := [b]) ((Turn.refl _ _).set_ i u (by simp)) (fun j hj => by rw [List.mem_singleton] at hj; subst hj; exact ⟨_, _, h, ht⟩)
def dV (l : List UInt8) : List Value := l.map fun b => .int .i64 (b.toNat : Int)
theorem dV_len (l : List UInt8) : (dV l).length = l.length := by simp [dV]
theorem dV_snoc (l : List UInt8) (b : UInt8) : dV (l ++ [b]) = dV l ++ [.int .i64 (b.toNat : Int)] := by simp [dV]
/-- what holds at each sample -/
structure DcL (w0 w : World) (po K W H M n : Nat) (v : Value) (L : List Qc) (u : Value) (l : List UInt8) : Prop where
 I : DcI w0 w po K W H M n v L
 P : Owns1 w w0.heap.size 3 u (dV l)
section
variable {w0 w w' : World} {po K W H M n : Nat} {v u : Value} {L : List Qc} {l : List UInt8}
theorem DcL.below (h : DcL w0 w po K W H M n v L u l) (b : Below w.heap.size w w') : DcL w0 w' po K W H M n v L u l := ⟨h.I.below b, h.P.stays b (Nat.le_refl _)⟩
theorem DcL.alloc (h : DcL w0 w po K W H M n v L u l) (x : Obj) : DcL w0 (w.alloc x) po K W H M n v L u l := ⟨h.I.alloc x, h.P.alloc x⟩
theorem DcL.drew (h : DcL w0 w po K W H M n v L u l) : DcL w0 w.drew po K W H M n v L u l := ⟨h.I.drew, h.P.drew⟩
theorem DcL.row (h : DcL w0 w po K W H M n v L u l) (g : w.grownBy w' v.ownBlock) : Owns1 w' w0.heap.size 3 u (dV l) := h.P.kept g (own_apart h.P h.I.O (by decide))
theorem DcL.grow {u' : Value} {c : Qc} (h : DcL w0 w po K W H M n v L u l) (o : OwnsQ w' w0.heap.size u' (L ++ [c])) (b : Below w0.heap.size w w') (g : w.grownBy w' v.ownBlock) : DcL w0 (w'.setCell ⟨po, 2, none⟩ u') po K W H M n u' (L ++ [c]) u l := by
 have X1 : RI w' po (W : Int) (H : Int) v 0 0 := Blk.grownQ h.I.X h.I.O (by decide) g
 exact ⟨h.I.grow o b g, (h.row g).farB X1 (by decide)⟩
theorem DcL.take {u' : Value} {x : UInt8} (h : DcL w0 w po K W H M n v L u l) (o : Owns1 w' w0.heap.size 3 u' (dV l ++ [.int .i64 (x.toNat : Int)])) (b : Below w0.heap.size w w') (g : w.grownBy w' u.ownBlock) : DcL w0 w' po K W H M n v L u' (l ++ [x]) := by
 refine ⟨⟨Blk.grownO3 h.I.Hd h.P (by decide) g, Blk.grownO3 h.I.A h.P (by decide) g, Blk.grownO3 h.I.X h.P (by decide) g, h.I.O.kept g (own_apart h.I.O h.P (by decide)), h.I.B.trans b, h.I.np⟩, ?_⟩
 rw [dV_snoc]
 exact o
theorem row_cell {w : World} {base lb n c j : Nat} {e : TypeId} {l : List Value} {x : Value} (h : Owns1 w base e (.slice (some ⟨lb, 0, none⟩) n c) l) (hx : l[j]? = some x) : w.cell? ⟨lb, j, none⟩ = some x := by
 rcases h.form with ⟨h0, _⟩ | ⟨g, cap, hv, _, _, _, _, hc⟩
 ·cases h0
 ·injection hv with h1 h2 h3
  injection h1 with h4
  injection h4 with h5
  subst h5
  have hj : j < l.length := by
   rcases Nat.lt_or_ge j l.length with h | h
   ·exact h
   ·rw [List.getElem?_eq_none h] at hx; cases hx
  rw [hc j hj, hx]
theorem row_s {w : World} {base lb n c : Nat} {l : List UInt8} (h : Owns1 w base 3 (.slice (some ⟨lb, 0, none⟩) n c) (dV l)) (j : Nat) (x : UInt8) (hx : l[j]? = some x) : w.cell? ⟨lb, j, none⟩ = some (.int .i64 (x.toNat : Int)) :=
 row_cell h (by rw [dV, List.getElem?_map, hx]; rfl)
def DcS1 (lb : Nat) (x : UInt8) (w : World) : Prop := w.cell? ⟨lb, 0, none⟩ = some (.int .i64 (x.toNat : Int)) ∧ True
def DcS3 (lb : Nat) (x y z : UInt8) (w : World) : Prop := w.cell? ⟨lb, 0, none⟩ = some (.int .i64 (x.toNat : Int)) ∧ w.cell? ⟨lb, 1, none⟩ = some (.int .i64 (y.toNat : Int)) ∧ w.cell? ⟨lb, 2, none⟩ = some (.int .i64 (z.toNat : Int))
theorem s1_of {w : World} {base lb n c : Nat} {x : UInt8} (h : Owns1 w base 3 (.slice (some ⟨lb, 0, none⟩) n c) (dV [x])) : DcS1 lb x w := ⟨row_s h 0 x rfl, trivial⟩
theorem s3_of {w : World} {base lb n c : Nat} {x y z : UInt8} (h : Owns1 w base 3 (.slice (some ⟨lb, 0, none⟩) n c) (dV [x, y, z])) : DcS3 lb x y z w := ⟨row_s h 0 x rfl, row_s h 1 y rfl, row_s h 2 z rfl⟩
end
set_option maxRecDepth 100000 in
set_option maxHeartbeats 16000000 in
theorem docRead_two {s : ByteArray} {W H M n : Nat} {D : DRes} (hsm : s.size ≤ 1099511627776) (hh : HeadOk s ⟨2, W, H, M, n, 0, 0⟩) (hD : pixsR W H (tpixR s 2 M) (W * H) n [] = D) (w : World) : Calls Tryz.prog 10 #[.string s, .agg #[.int .i64 2, .int .i64 (W : Int), .int .i64 (H : Int), .int .i64 (M : Int), .int .i64 (n : Int), .int .i64 0, .int .i64 0]] w fun e w' => RefPost D w w' e := by
 have hM1 : 1 ≤ M := hh.M.1
 have hM2 : M ≤ 65535 := hh.M.2
 have hW2 : W ≤ 16384 := hh.W.2
 have hH2 : H ≤ 16384 := hh.H.2
 have hPB : W * H ≤ 16384 * 16384 := Nat.mul_le_mul hW2 hH2
 have hn : n ≤ s.size := hh.At
 obtain ⟨P, hP⟩ : ∃ P, W * H = P := ⟨_, rfl⟩
 rw [hP] at hPB hD
 have hPI : IntKind.i64.wrap ((W : Int) * (H : Int)) = (P : Int) := by rw [← Int.natCast_mul, hP]; exact IntWalk.i64_in _ (by omega)
 have HP := Lib.hid hP
 have HD := Lib.hid hD
 have HO := Lib.hid hh
 have hsB : (s.size : Int) ≤ 1099511627776 := by omega
 have I0 : DcI w (((w.alloc (.cells #[.int .i64 2, .int .i64 (W : Int), .int .i64 (H : Int), .int .i64 (M : Int), .int .i64 (n : Int), .int .i64 0, .int .i64 0] 24)).alloc (.cells #[.int .i64 0, .int .i64 0, .slice none 0 0, .int .i64 0, .int .i64 0] 28)).alloc (.cells #[.int .i64 (W : Int), .int .i64 (H : Int), .slice none 0 0, .int .i64 0, .int .i64 0] 28)) (w.heap.size + 2) 2 W H M n (.slice none 0 0) [] :=
  ⟨Blk.alloc (Blk.alloc (Blk.new _ _ _) _) _, Blk.alloc (Blk.new_at _ _ _ (by simp)) _, Blk.new_at _ _ _ (by simp), World.ownsRow_nil _ _ _ _, (((Below.refl _ _).alloc (Nat.le_refl _) _).alloc (by simp) _).alloc (by simp; omega) _, by omega⟩
 clear hP hD hh hW2 hH2
 go_enter Tryz.func10, Tryz.ntmps10
 go_upto_region 2 with fail
 generalize ((w.alloc (.cells #[.int .i64 2, .int .i64 (W : Int), .int .i64 (H : Int), .int .i64 (M : Int), .int .i64 (n : Int), .int .i64 0, .int .i64 0] 24)).alloc (.cells #[.int .i64 0, .int .i64 0, .slice none 0 0, .int .i64 0, .int .i64 0] 28)).alloc (.cells #[.int .i64 (W : Int), .int .i64 (H : Int), .slice none 0 0, .int .i64 0, .int .i64 0] 28) = w5 at I0 ⊢
 generalize hpo : w.heap.size + 2 = po at I0 ⊢
 have HI0 := Lib.hid I0
 obtain ⟨h0, h1, h2, h3, h4⟩ := I0.head
 clear I0 hpo
 go_upto_region 4 with fail
 clear h0 h1 h2 h3 h4
 go_loopg [6, 7, 8, 9, 10, 11, 12] P (fun gh v6 v7 v8 v9 v10 v11 v12 wr => ∃ (i a : Nat) (v : Value) (L : List Qc), i + gh = P ∧ v6 = .int .i64 (a : Int) ∧ v7 = .int .i64 (i : Int) ∧ a ≤ s.size ∧ L.length = i ∧ Hid (pixsR W H (tpixR s 2 M) gh a L = D) ∧ Hid (DcI w wr po 2 W H M n v L))
 case atStart => exact ⟨0, n, _, [], by omega, rfl, rfl, hn, rfl, HD, HI0⟩
 case round =>
  obtain ⟨i, a, v, L, hi, rfl, rfl, ha, hL, HRUN, HI⟩ := hrel
  clear HI0 HD hn
  obtain ⟨h0, h1, h2, h3, h4⟩ := HI.out.head
  have HL := Lib.hid hL
  clear hL
  by_cases hiP : i < P
  ·have hiI : (i : Int) < (P : Int) := by omega
   obtain ⟨m, rfl⟩ : ∃ m, gk = m + 1 := ⟨gk - 1, by omega⟩
   have hrun := HRUN.out
   unfold pixsR at hrun
   rw [tpixR_two] at hrun
   obtain ⟨Q, hQ⟩ : ∃ Q, smpsR s M 1 a [] = Q := ⟨_, rfl⟩
   rw [hQ] at hrun
   have hrq : (Q.bind fun r => (.inr (grayQ (r.1.getD 0 0), r.2) : Out (Qc × Nat))).told (fun r => pixsR W H (tpixR s 2 M) m r.2 (L ++ [r.1])) = D := hrun
   have HRQ := Lib.hid hrq
   have HQ := Lib.hid hQ
   have hbw : w.heap.size ≤ wr.heap.size := HI.out.B.size
   clear hrun hrq hQ HRUN
   go_upto_region 13 with fail
   have J0 : DcL w (wr.alloc (.cells #[] 3)) po 2 W H M n v L (.slice (some ⟨wr.heap.size, 0, none⟩) 0 0) [] := ⟨HI.out.alloc _, Owns1.empty3 hbw⟩
   generalize wr.alloc (.cells #[] 3) = w6 at J0 ⊢
   generalize wr.heap.size = l0 at J0 ⊢
   clear HI h0 h1 h2 h3 h4 hbw
   obtain ⟨h0, h1, h2, h3, h4⟩ := J0.I.head
   have HJ0 := Lib.hid J0
   clear J0
   go_upto_region 17 with fail
   clear h0 h1 h2 h3 h4
   go_loopg [6, 9, 11, 12] 1 (fun gx v6 v9 v11 v12 wx => ∃ (k a : Nat) (l : List UInt8), k + gx = 1 ∧ v6 = .int .i64 (a : Int) ∧ v11 = .int .i64 (k : Int) ∧ a ≤ s.size ∧ l.length = k ∧ Hid (smpsR s M gx a l = Q) ∧ Hid (DcL w wx po 2 W H M n v L v9 l))
   case atStart => exact ⟨0, a, [], by omega, rfl, rfl, ha, rfl, HQ, HJ0⟩
   case round =>
    obtain ⟨k, a', l, hk, rfl, rfl, ha', hl, HRS, HJ⟩ := hrel
    clear HJ0 HQ ha
    obtain ⟨h0, h1, h2, h3, h4⟩ := HJ.out.I.head
    have HLL := Lib.hid hl
    clear hl
    by_cases hkN : k < 1
    ·have hkI0 : (k : Int) < 1 := by omega
     obtain ⟨g', rfl⟩ : ∃ g', gk = g' + 1 := ⟨gk - 1, by omega⟩
     have hrs := HRS.out
     unfold smpsR smpR at hrs
     have HC0 := fun w => refNumber_any s a' w ha' hsm
     rcases numberAt_or (nats s) a' (by rw [nats_len]; exact ha') with ⟨kd, pl, hg, hk0, hk2, hpl⟩ | ⟨V, f, nn, hg, hnn, hV, han, hfn⟩
     ·rw [hg] at hrs HC0
      rw [if_pos hk0] at hrs
      have HC := Lib.hid HC0
      unfold gotV at HC
      have hkI : ¬ (kd : Int) = 0 := by omega
      have HR2 : Hid (DRes.bad kd pl = D) := Lib.hid (by rw [← HRQ.out, ← hrs]; rfl)
      clear hrs HRS HRQ HC0 hg hk0 hk2 hpl
      go_wp2_with (first
       | (go_at_call 29; refine (HC.out _).mono ?_; rintro e w7 ⟨rfl, b7⟩; have I7 := (HJ.out.below b7).alloc (.cells #[.int .i64 0, .int .i64 0, .int .i64 0, .int .i64 (kd : Int), .int .i64 (pl : Int)] 54); obtain ⟨h0, h1, h2, h3, h4⟩ := I7.I.head)
       | (go_at_call 32; refine (refBadC _ _ _).mono ?_; rintro e wb ⟨rfl, bb⟩; have IB := I7.below bb; obtain ⟨x0, x1, x2, x3, x4, zx0, zx1, zx2, zx3, zx4, xl⟩ := RI.all IB.I.A))
      exact bodyPost_ret (v := .agg #[.int .i64 0, .int .i64 0, .slice none 0 0, .int .i64 (kd : Int), .int .i64 (pl : Int)]) (by simp [results, Tryz.results10, go_sem, x0, x1, x2, x3, x4]) rfl (by rw [show D = DRes.bad kd pl from HR2.out.symm]; exact ⟨Below.st5 IB.I.B (Nat.le_succ _), rfl⟩)
     ·rw [hg] at hrs HC0
      rw [if_neg (by simp)] at hrs
      have HC := Lib.hid HC0
      unfold gotV at HC
      rw [nats_len] at hnn
      by_cases hVM : M < V
      ·rw [if_pos hVM] at hrs
       have hVI : (M : Int) < (V : Int) := by omega
       have HR2 : Hid (DRes.bad 2 f = D) := Lib.hid (by rw [← HRQ.out, ← hrs]; rfl)
       clear hrs HRS HRQ HC0 hg han hfn
       go_wp2_with (first
        | (go_at_call 29; refine (HC.out _).mono ?_; rintro e w7 ⟨rfl, b7⟩; have I7 := (HJ.out.below b7).alloc (.cells #[.int .i64 (V : Int), .int .i64 (f : Int), .int .i64 (nn : Int), .int .i64 0, .int .i64 0] 54); obtain ⟨h0, h1, h2, h3, h4⟩ := I7.I.head)
        | (go_at_call 32; refine (refBadC _ _ _).mono ?_; rintro e wb ⟨rfl, bb⟩; have IB := I7.below bb; obtain ⟨x0, x1, x2, x3, x4, zx0, zx1, zx2, zx3, zx4, xl⟩ := RI.all IB.I.A))
       exact bodyPost_ret (v := .agg #[.int .i64 0, .int .i64 0, .slice none 0 0, .int .i64 2, .int .i64 (f : Int)]) (by simp [results, Tryz.results10, go_sem, x0, x1, x2, x3, x4]) rfl (by rw [show D = DRes.bad 2 f from HR2.out.symm]; exact ⟨Below.st5 IB.I.B (Nat.le_succ _), rfl⟩)
      ·rw [if_neg hVM] at hrs
       have hVI : ¬ (M : Int) < (V : Int) := by omega
       have hrs2 : smpsR s M g' nn (l ++ [smp8 V M]) = Q := hrs
       have HM0 := fun w => refMax_any (V : Int) (M : Int) w (smay_iff.2 ⟨by omega, by omega, by omega, by omega⟩)
       rw [smp8_is hM1 (by omega)] at HM0
       generalize smp8 V M = x at HM0 hrs2
       have HMX := Lib.hid HM0
       have HRX := Lib.hid hrs2
       have hlen : (dV l).length < 1099511627776 := by rw [dV_len, HLL.out]; omega
       clear hrs hrs2 HRS HC0 HM0 hg han hfn hV
       go_upto_region 25 with (go_at_call 29; refine (HC.out _).mono ?_; rintro e w7 ⟨rfl, b7⟩; have I7 := (HJ.out.below b7).alloc (.cells #[.int .i64 (V : Int), .int .i64 (f : Int), .int .i64 (nn : Int), .int .i64 0, .int .i64 0] 54); obtain ⟨h0, h1, h2, h3, h4⟩ := I7.I.head)
       generalize hpd : w7.heap.size = pd
       have c0 : (w7.alloc (.cells #[.int .i64 (V : Int), .int .i64 (f : Int), .int .i64 (nn : Int), .int .i64 0, .int .i64 0] 54)).cell? ⟨pd, 0, none⟩ = some (.int .i64 (V : Int)) := by rw [← hpd]; exact Blk.cell (Blk.new _ _ _) 0
       clear hpd b7
       change Code.wp _ _ _ _ (w7.alloc (.cells #[.int .i64 (V : Int), .int .i64 (f : Int), .int .i64 (nn : Int), .int .i64 0, .int .i64 0] 54))
       generalize w7.alloc (.cells #[.int .i64 (V : Int), .int .i64 (f : Int), .int .i64 (nn : Int), .int .i64 0, .int .i64 0] 54) = w8 at I7 c0 h0 h1 h2 h3 h4 ⊢
       have HJ8 := Lib.hid I7
       clear I7 HJ
       have hbs : w.heap.size ≤ (w8.alloc (.cells #[.int .i64 (x.toNat : Int)] 3)).heap.size := by have := HJ8.out.I.B.size; simp; omega
       go_wp2_with (first
        | (go_at_call 34; refine (HMX.out _).mono ?_; rintro e w9 ⟨rfl, rfl⟩)
        | (at_builtin; refine wpList_append_one rfl (.tmp 85) (.tmp 91) 61 3 rfl (.int .i64 0) 8 Tryz.underlying61 infoInt3 rfl (by decide) w.heap.size _ (dV l) rfl (HJ8.out.alloc _).P _ rfl (.int .i64 (x.toNat : Int)) (cell_new _ _ _ 0 _ rfl) rfl hlen hbs ?_; intro v4 w4 o4 b4 g4))
       have HT4 := Lib.hid ((HJ8.out.alloc (.cells #[.int .i64 (x.toNat : Int)] 3)).take o4 b4 g4)
       clear o4 b4 g4 HJ8
       go_roundg g'
       case measure => omega
       case rel => exact ⟨k + 1, nn, l ++ [x], by omega, rfl, by go_num, hnn, by rw [List.length_append, HLL.out]; rfl, HRX, HT4⟩
    ·obtain rfl : k = 1 := by omega
     obtain rfl : gk = 0 := by omega
     have hrs := HRS.out
     unfold smpsR at hrs
     have hrq := HRQ.out
     rw [← hrs] at hrq
     obtain ⟨x, rfl⟩ : ∃ x, l = [x] := by
      have := HLL.out
      match l with
      | [x] => exact ⟨x, rfl⟩
     have hrx : pixsR W H (tpixR s 2 M) m a' (L ++ [grayQ x]) = D := hrq
     clear hrq
     have hrq := hrx
     have HRX0 := hrq
     clear hrs hrq HRS HRQ
     have HG0 := fun w => refGrayQ (v := x.toNat) (by have := x.toNat_lt; omega) w
     rw [show UInt8.ofNat x.toNat = x by simp] at HG0
     generalize grayQ x = q at HG0 HRX0
     unfold Qc.v at HG0
     have HG := Lib.hid HG0
     have HRX := Lib.hid HRX0
     clear HG0 HRX0 HLL
     obtain ⟨lb, cap, rfl⟩ : ∃ lb cap, u9 = .slice (some ⟨lb, 0, none⟩) 1 cap := by
      rcases HJ.out.P.form with ⟨_, h⟩ | ⟨g, cap, h, _⟩
      ·exact absurd (congrArg List.length h) (by simp [dV])
      ·exact ⟨g, cap, h⟩
     go_upto_region 27 with fail
     clear h0 h1 h2 h3 h4
     refine dwp_gen (S := fun wx => DcL w wx po 2 W H M n v L (.slice (some ⟨lb, 0, none⟩) 1 cap) [x]) (by exact HJ.out) (fun wx hX => ?_)
     have HX := Lib.hid hX.drew
     refine wp_region_held_drew (S := (DcS1 lb x)) (by kernel_rfl) (s1_of HX.out.P) (fun hHeld => ?_)
     clear hX HJ
     generalize wx.drew = wd at HX hHeld ⊢
     refine wpAnyH_take (i := 0) (v := ?_) rfl (by kernel_rfl) (by kernel_rfl) (by kernel_rfl) (fun _ _ _ h => h) (Or.inl ⟨by kernel_rfl, ?_⟩) (by assumption) ?_
     rotate_left
     ·intro w hSw; obtain ⟨s0, _⟩ := hSw; go_simp; (try with_reducible rfl)
     (try simp only [sps])
     refine wpAnyH_take (i := 2) (v := ?_) rfl (by kernel_rfl) (by kernel_rfl) (by kernel_rfl) (fun _ _ _ h => h) (Or.inl ⟨by kernel_rfl, ?_⟩) (by assumption) ?_
     rotate_left
     ·intro w hSw; obtain ⟨s0, _⟩ := hSw; go_simp; (try with_reducible rfl)
     (try simp only [sps])
     refine wpAnyH_take (i := 3) (v := ?_) rfl (by kernel_rfl) (by kernel_rfl) (by kernel_rfl) (fun _ _ _ h => h) (Or.inl ⟨by kernel_rfl, ?_⟩) (by assumption) ?_
     rotate_left
     ·intro w hSw; obtain ⟨s0, _⟩ := hSw; go_simp; (try with_reducible rfl)
     (try simp only [sps])
     refine wpAnyH_take (i := 4) (v := ?_) rfl (by kernel_rfl) (by kernel_rfl) (by kernel_rfl) (fun _ _ _ h => h) (Or.inl ⟨by kernel_rfl, ?_⟩) (by assumption) ?_
     rotate_left
     ·intro w hSw; obtain ⟨s0, _⟩ := hSw; go_simp; (try with_reducible rfl)
     (try simp only [sps])
     refine wpAnyH_ready (rs := [1, 5]) (by kernel_rfl) (by simp) ?_
     refine AllReadyH.cons rfl (fun K hK => ?_) (AllReadyH.cons rfl (fun K hK => ?_) AllReadyH.nil)
     ·obtain ⟨X0, X1, X2, X3, X4, zX0, zX1, zX2, zX3, zX4, Xl⟩ := RI.all HX.out.I.X
      go_simp
      refine hK.out _ _ (s1_of HX.out.P) ?_
      clear hK K hHeld
      intro hHeld
      (try simp only [sps])
      clear X0 X1 X2 X3 X4 zX0 zX1 zX2 zX3 zX4 Xl
      refine rdy 5 (fun K hK => ?_)
      go_simp
      refine (HG.out _).mono ?_
      rintro e w8 ⟨rfl, b8⟩
      have I8 := HX.out.below b8
      refine hK.out _ _ (s1_of I8.P) ?_
      clear hK K hHeld
      intro hHeld
      (try simp only [sps])
      refine rdy 6 (fun K hK => ?_)
      go_simp
      have I9 := I8.alloc (.cells #[.int .u8 (q.r.toNat : Int), .int .u8 (q.g.toNat : Int), .int .u8 (q.b.toNat : Int), .int .u8 (q.a.toNat : Int)] 59)
      refine hK.out _ _ (s1_of I9.P) ?_
      clear hK K hHeld
      intro hHeld
      (try simp only [sps])
      refine rdy 7 (fun K hK => ?_)
      refine oper_append_cols (.tmp 96) (.tmp 101) rfl w.heap.size v L rfl I9.I.O w8.heap.size 1 1 [q] rfl rfl (q_new w8 q) ?_ ?_ ?_
      ·rw [HL.out]; simp; omega
      ·have := I9.I.B.size; exact this
      intro v10 w10 o10 b10 g10
      have X10 : RI w10 po (W : Int) (H : Int) v 0 0 := Blk.grownQ I9.I.X I9.I.O (by decide) g10
      have S10 := s1_of (I9.row g10)
      have IG := I9.grow o10 b10 g10
      obtain ⟨a10, c10, hv10⟩ := o10.slice
      generalize hn10 : (L ++ [q]).length = n10 at hv10
      subst hv10
      refine hK.out _ _ S10 ?_
      clear hK K hHeld
      intro hHeld
      (try simp only [sps])
      refine wpAnyH_take (i := 8) (v := ?_) rfl (by kernel_rfl) (by kernel_rfl) (by kernel_rfl) (fun _ _ _ h => h) (Or.inl ⟨by kernel_rfl, ?_⟩) (by assumption) ?_
      rotate_left
      ·intro w hSw; obtain ⟨s0, _⟩ := hSw; go_simp; (try with_reducible rfl)
      (try simp only [sps])
      (try clear X0 X1 X2 X3 X4 zX0 zX1 zX2 zX3 zX4 Xl)
      obtain ⟨X0, X1, X2, X3, X4, zX0, zX1, zX2, zX3, zX4, Xl⟩ := RI.all X10
      refine rdy 9 (fun K hK => ?_)
      go_simp
      refine hK.out _ _ (s1_of IG.P) ?_
      clear hK K hHeld
      intro hHeld
      (try simp only [sps])
      refine wpAnyH_done (by kernel_rfl) ?_ _
      (try simp only [sps])
      clear hHeld I9 X10 S10 o10 b10 g10 X0 X1 X2 X3 X4 zX0 zX1 zX2 zX3 zX4 Xl
      try clear I8 b8
      first | change Exit.inBlock _ _ _ _ (w10.setCell ⟨po, 2, none⟩ (.slice a10 n10 c10)) | change Exit.then _ _ _ _ (w10.setCell ⟨po, 2, none⟩ (.slice a10 n10 c10))
      generalize w10.setCell ⟨po, 2, none⟩ (.slice a10 n10 c10) = wz at IG ⊢
      have HZ := Lib.hid IG.I
      clear IG hn10
      go_wp2_with fail
      go_roundg m
      case measure => omega
      case rel => exact ⟨i + 1, a', _, L ++ [q], by omega, rfl, by go_num, ha', by rw [List.length_append, HL.out]; rfl, HRX, HZ⟩
     ·go_simp
      refine (HG.out _).mono ?_
      rintro e w8 ⟨rfl, b8⟩
      have I8 := HX.out.below b8
      refine hK.out _ _ (s1_of I8.P) ?_
      clear hK K hHeld
      intro hHeld
      (try simp only [sps])
      refine wpAnyH_ready (rs := [1, 6]) (by kernel_rfl) (by simp) ?_
      refine AllReadyH.cons rfl (fun K hK => ?_) (AllReadyH.cons rfl (fun K hK => ?_) AllReadyH.nil)
      ·obtain ⟨X0, X1, X2, X3, X4, zX0, zX1, zX2, zX3, zX4, Xl⟩ := RI.all I8.I.X
       go_simp
       refine hK.out _ _ (s1_of I8.P) ?_
       clear hK K hHeld
       intro hHeld
       (try simp only [sps])
       clear X0 X1 X2 X3 X4 zX0 zX1 zX2 zX3 zX4 Xl
       refine rdy 6 (fun K hK => ?_)
       go_simp
       have I9 := I8.alloc (.cells #[.int .u8 (q.r.toNat : Int), .int .u8 (q.g.toNat : Int), .int .u8 (q.b.toNat : Int), .int .u8 (q.a.toNat : Int)] 59)
       refine hK.out _ _ (s1_of I9.P) ?_
       clear hK K hHeld
       intro hHeld
       (try simp only [sps])
       refine rdy 7 (fun K hK => ?_)
       refine oper_append_cols (.tmp 96) (.tmp 101) rfl w.heap.size v L rfl I9.I.O w8.heap.size 1 1 [q] rfl rfl (q_new w8 q) ?_ ?_ ?_
       ·rw [HL.out]; simp; omega
       ·have := I9.I.B.size; exact this
       intro v10 w10 o10 b10 g10
       have X10 : RI w10 po (W : Int) (H : Int) v 0 0 := Blk.grownQ I9.I.X I9.I.O (by decide) g10
       have S10 := s1_of (I9.row g10)
       have IG := I9.grow o10 b10 g10
       obtain ⟨a10, c10, hv10⟩ := o10.slice
       generalize hn10 : (L ++ [q]).length = n10 at hv10
       subst hv10
       refine hK.out _ _ S10 ?_
       clear hK K hHeld
       intro hHeld
       (try simp only [sps])
       refine wpAnyH_take (i := 8) (v := ?_) rfl (by kernel_rfl) (by kernel_rfl) (by kernel_rfl) (fun _ _ _ h => h) (Or.inl ⟨by kernel_rfl, ?_⟩) (by assumption) ?_
       rotate_left
       ·intro w hSw; obtain ⟨s0, _⟩ := hSw; go_simp; (try with_reducible rfl)
       (try simp only [sps])
       (try clear X0 X1 X2 X3 X4 zX0 zX1 zX2 zX3 zX4 Xl)
       obtain ⟨X0, X1, X2, X3, X4, zX0, zX1, zX2, zX3, zX4, Xl⟩ := RI.all X10
       refine rdy 9 (fun K hK => ?_)
       go_simp
       refine hK.out _ _ (s1_of IG.P) ?_
       clear hK K hHeld
       intro hHeld
       (try simp only [sps])
       refine wpAnyH_done (by kernel_rfl) ?_ _
       (try simp only [sps])
       clear hHeld I9 X10 S10 o10 b10 g10 X0 X1 X2 X3 X4 zX0 zX1 zX2 zX3 zX4 Xl
       try clear I8 b8
       first | change Exit.inBlock _ _ _ _ (w10.setCell ⟨po, 2, none⟩ (.slice a10 n10 c10)) | change Exit.then _ _ _ _ (w10.setCell ⟨po, 2, none⟩ (.slice a10 n10 c10))
       generalize w10.setCell ⟨po, 2, none⟩ (.slice a10 n10 c10) = wz at IG ⊢
       have HZ := Lib.hid IG.I
       clear IG hn10
       go_wp2_with fail
       go_roundg m
       case measure => omega
       case rel => exact ⟨i + 1, a', _, L ++ [q], by omega, rfl, by go_num, ha', by rw [List.length_append, HL.out]; rfl, HRX, HZ⟩
      ·go_simp
       have I9 := I8.alloc (.cells #[.int .u8 (q.r.toNat : Int), .int .u8 (q.g.toNat : Int), .int .u8 (q.b.toNat : Int), .int .u8 (q.a.toNat : Int)] 59)
       refine hK.out _ _ (s1_of I9.P) ?_
       clear hK K hHeld
       intro hHeld
       (try simp only [sps])
       refine rdy 1 (fun K hK => ?_)
       obtain ⟨X0, X1, X2, X3, X4, zX0, zX1, zX2, zX3, zX4, Xl⟩ := RI.all I9.I.X
       go_simp
       refine hK.out _ _ (s1_of I9.P) ?_
       clear hK K hHeld
       intro hHeld
       (try simp only [sps])
       clear X0 X1 X2 X3 X4 zX0 zX1 zX2 zX3 zX4 Xl
       refine rdy 7 (fun K hK => ?_)
       refine oper_append_cols (.tmp 96) (.tmp 101) rfl w.heap.size v L rfl I9.I.O w8.heap.size 1 1 [q] rfl rfl (q_new w8 q) ?_ ?_ ?_
       ·rw [HL.out]; simp; omega
       ·have := I9.I.B.size; exact this
       intro v10 w10 o10 b10 g10
       have X10 : RI w10 po (W : Int) (H : Int) v 0 0 := Blk.grownQ I9.I.X I9.I.O (by decide) g10
       have S10 := s1_of (I9.row g10)
       have IG := I9.grow o10 b10 g10
       obtain ⟨a10, c10, hv10⟩ := o10.slice
       generalize hn10 : (L ++ [q]).length = n10 at hv10
       subst hv10
       refine hK.out _ _ S10 ?_
       clear hK K hHeld
       intro hHeld
       (try simp only [sps])
       refine wpAnyH_take (i := 8) (v := ?_) rfl (by kernel_rfl) (by kernel_rfl) (by kernel_rfl) (fun _ _ _ h => h) (Or.inl ⟨by kernel_rfl, ?_⟩) (by assumption) ?_
       rotate_left
       ·intro w hSw; obtain ⟨s0, _⟩ := hSw; go_simp; (try with_reducible rfl)
       (try simp only [sps])
       (try clear X0 X1 X2 X3 X4 zX0 zX1 zX2 zX3 zX4 Xl)
       obtain ⟨X0, X1, X2, X3, X4, zX0, zX1, zX2, zX3, zX4, Xl⟩ := RI.all X10
       refine rdy 9 (fun K hK => ?_)
       go_simp
       refine hK.out _ _ (s1_of IG.P) ?_
       clear hK K hHeld
       intro hHeld
       (try simp only [sps])
       refine wpAnyH_done (by kernel_rfl) ?_ _
       (try simp only [sps])
       clear hHeld I9 X10 S10 o10 b10 g10 X0 X1 X2 X3 X4 zX0 zX1 zX2 zX3 zX4 Xl
       try clear I8 b8
       first | change Exit.inBlock _ _ _ _ (w10.setCell ⟨po, 2, none⟩ (.slice a10 n10 c10)) | change Exit.then _ _ _ _ (w10.setCell ⟨po, 2, none⟩ (.slice a10 n10 c10))
       generalize w10.setCell ⟨po, 2, none⟩ (.slice a10 n10 c10) = wz at IG ⊢
       have HZ := Lib.hid IG.I
       clear IG hn10
       go_wp2_with fail
       go_roundg m
       case measure => omega
       case rel => exact ⟨i + 1, a', _, L ++ [q], by omega, rfl, by go_num, ha', by rw [List.length_append, HL.out]; rfl, HRX, HZ⟩
  ·obtain rfl : i = P := by omega
   obtain rfl : gk = 0 := by omega
   have hiI : ¬ (i : Int) < (i : Int) := by omega
   have hrun := HRUN.out
   unfold pixsR at hrun
   have HR2 := Lib.hid hrun
   obtain ⟨va, vc, hv⟩ := HI.out.O.slice
   generalize L.length = ll at hv
   subst hv
   obtain ⟨x0, x1, x2, x3, x4, zx0, zx1, zx2, zx3, zx4, xl⟩ := RI.all HI.out.A
   obtain ⟨X0, X1, X2, X3, X4, zX0, zX1, zX2, zX3, zX4, Xl⟩ := RI.all HI.out.X
   have hpn : w.heap.size + 1 ≠ po := by have := HI.out.np; omega
   clear hrun HRUN
   go_wp2_with fail
   exact bodyPost_ret (v := .agg #[.int .i64 (W : Int), .int .i64 (H : Int), .slice va ll vc, .int .i64 0, .int .i64 0]) (by simp [results, Tryz.results10, go_sem, x0, x1, x2, x3, x4]) rfl (by rw [show D = DRes.img W H (flat L) from HR2.out.symm]; exact ⟨HI.out.outs.1, _, L, rfl, HI.out.outs.2, rfl, by rw [HL.out, HP.out]⟩)
end Go.Proofs.YtgmgcfjllijhgaaGreat
namespace Go.Proofs.YtgmgcfjllijhgaaGreat
open Go.RowKit
set_option linter.unusedVariables false
set_option linter.unusedSimpArgs false

set_option maxRecDepth 100000 in
set_option maxHeartbeats 16000000 in
theorem docRead_three {s : ByteArray} {W H M n : Nat} {D : DRes} (hsm : s.size ≤ 1099511627776) (hh : HeadOk s ⟨3, W, H, M, n, 0, 0⟩) (hD : pixsR W H (tpixR s 3 M) (W * H) n [] = D) (w : World) : Calls Tryz.prog 10 #[.string s, .agg #[.int .i64 3, .int .i64 (W : Int), .int .i64 (H : Int), .int .i64 (M : Int), .int .i64 (n : Int), .int .i64 0, .int .i64 0]] w fun e w' => RefPost D w w' e := by
 have hM1 : 1 ≤ M := hh.M.1
 have hM2 : M ≤ 65535 := hh.M.2
 have hW2 : W ≤ 16384 := hh.W.2
 have hH2 : H ≤ 16384 := hh.H.2
 have hPB : W * H ≤ 16384 * 16384 := Nat.mul_le_mul hW2 hH2
 have hn : n ≤ s.size := hh.At
 obtain ⟨P, hP⟩ : ∃ P, W * H = P := ⟨_, rfl⟩
 rw [hP] at hPB hD
 have hPI : IntKind.i64.wrap ((W : Int) * (H : Int)) = (P : Int) := by rw [← Int.natCast_mul, hP]; exact IntWalk.i64_in _ (by omega)
 have HP := Lib.hid hP
 have HD := Lib.hid hD
 have HO := Lib.hid hh
 have hsB : (s.size : Int) ≤ 1099511627776 := by omega
 have I0 : DcI w (((w.alloc (.cells #[.int .i64 3, .int .i64 (W : Int), .int .i64 (H : Int), .int .i64 (M : Int), .int .i64 (n : Int), .int .i64 0, .int .i64 0] 24)).alloc (.cells #[.int .i64 0, .int .i64 0, .slice none 0 0, .int .i64 0, .int .i64 0] 28)).alloc (.cells #[.int .i64 (W : Int), .int .i64 (H : Int), .slice none 0 0, .int .i64 0, .int .i64 0] 28)) (w.heap.size + 2) 3 W H M n (.slice none 0 0) [] :=
  ⟨Blk.alloc (Blk.alloc (Blk.new _ _ _) _) _, Blk.alloc (Blk.new_at _ _ _ (by simp)) _, Blk.new_at _ _ _ (by simp), World.ownsRow_nil _ _ _ _, (((Below.refl _ _).alloc (Nat.le_refl _) _).alloc (by simp) _).alloc (by simp; omega) _, by omega⟩
 clear hP hD hh hW2 hH2
 go_enter Tryz.func10, Tryz.ntmps10
 go_upto_region 2 with fail
 generalize ((w.alloc (.cells #[.int .i64 3, .int .i64 (W : Int), .int .i64 (H : Int), .int .i64 (M : Int), .int .i64 (n : Int), .int .i64 0, .int .i64 0] 24)).alloc (.cells #[.int .i64 0, .int .i64 0, .slice none 0 0, .int .i64 0, .int .i64 0] 28)).alloc (.cells #[.int .i64 (W : Int), .int .i64 (H : Int), .slice none 0 0, .int .i64 0, .int .i64 0] 28) = w5 at I0 ⊢
 generalize hpo : w.heap.size + 2 = po at I0 ⊢
 have HI0 := Lib.hid I0
 obtain ⟨h0, h1, h2, h3, h4⟩ := I0.head
 clear I0 hpo
 go_upto_region 4 with fail
 clear h0 h1 h2 h3 h4
 go_loopg [6, 7, 8, 9, 10, 11, 12] P (fun gh v6 v7 v8 v9 v10 v11 v12 wr => ∃ (i a : Nat) (v : Value) (L : List Qc), i + gh = P ∧ v6 = .int .i64 (a : Int) ∧ v7 = .int .i64 (i : Int) ∧ a ≤ s.size ∧ L.length = i ∧ Hid (pixsR W H (tpixR s 3 M) gh a L = D) ∧ Hid (DcI w wr po 3 W H M n v L))
 case atStart => exact ⟨0, n, _, [], by omega, rfl, rfl, hn, rfl, HD, HI0⟩
 case round =>
  obtain ⟨i, a, v, L, hi, rfl, rfl, ha, hL, HRUN, HI⟩ := hrel
  clear HI0 HD hn
  obtain ⟨h0, h1, h2, h3, h4⟩ := HI.out.head
  have HL := Lib.hid hL
  clear hL
  by_cases hiP : i < P
  ·have hiI : (i : Int) < (P : Int) := by omega
   obtain ⟨m, rfl⟩ : ∃ m, gk = m + 1 := ⟨gk - 1, by omega⟩
   have hrun := HRUN.out
   unfold pixsR at hrun
   rw [tpixR_three] at hrun
   obtain ⟨Q, hQ⟩ : ∃ Q, smpsR s M 3 a [] = Q := ⟨_, rfl⟩
   rw [hQ] at hrun
   have hrq : (Q.bind fun r => (.inr (⟨r.1.getD 0 0, r.1.getD 1 0, r.1.getD 2 0, 255⟩, r.2) : Out (Qc × Nat))).told (fun r => pixsR W H (tpixR s 3 M) m r.2 (L ++ [r.1])) = D := hrun
   have HRQ := Lib.hid hrq
   have HQ := Lib.hid hQ
   have hbw : w.heap.size ≤ wr.heap.size := HI.out.B.size
   clear hrun hrq hQ HRUN
   go_upto_region 13 with fail
   have J0 : DcL w (wr.alloc (.cells #[] 3)) po 3 W H M n v L (.slice (some ⟨wr.heap.size, 0, none⟩) 0 0) [] := ⟨HI.out.alloc _, Owns1.empty3 hbw⟩
   generalize wr.alloc (.cells #[] 3) = w6 at J0 ⊢
   generalize wr.heap.size = l0 at J0 ⊢
   clear HI h0 h1 h2 h3 h4 hbw
   obtain ⟨h0, h1, h2, h3, h4⟩ := J0.I.head
   have HJ0 := Lib.hid J0
   clear J0
   go_upto_region 17 with fail
   clear h0 h1 h2 h3 h4
   go_loopg [6, 9, 11, 12] 3 (fun gx v6 v9 v11 v12 wx => ∃ (k a : Nat) (l : List UInt8), k + gx = 3 ∧ v6 = .int .i64 (a : Int) ∧ v11 = .int .i64 (k : Int) ∧ a ≤ s.size ∧ l.length = k ∧ Hid (smpsR s M gx a l = Q) ∧ Hid (DcL w wx po 3 W H M n v L v9 l))
   case atStart => exact ⟨0, a, [], by omega, rfl, rfl, ha, rfl, HQ, HJ0⟩
   case round =>
    obtain ⟨k, a', l, hk, rfl, rfl, ha', hl, HRS, HJ⟩ := hrel
    clear HJ0 HQ ha
    obtain ⟨h0, h1, h2, h3, h4⟩ := HJ.out.I.head
    have HLL := Lib.hid hl
    clear hl
    by_cases hkN : k < 3
    ·have hkI0 : (k : Int) < 3 := by omega
     obtain ⟨g', rfl⟩ : ∃ g', gk = g' + 1 := ⟨gk - 1, by omega⟩
     have hrs := HRS.out
     unfold smpsR smpR at hrs
     have HC0 := fun w => refNumber_any s a' w ha' hsm
     rcases numberAt_or (nats s) a' (by rw [nats_len]; exact ha') with ⟨kd, pl, hg, hk0, hk2, hpl⟩ | ⟨V, f, nn, hg, hnn, hV, han, hfn⟩
     ·rw [hg] at hrs HC0
      rw [if_pos hk0] at hrs
      have HC := Lib.hid HC0
      unfold gotV at HC
      have hkI : ¬ (kd : Int) = 0 := by omega
      have HR2 : Hid (DRes.bad kd pl = D) := Lib.hid (by rw [← HRQ.out, ← hrs]; rfl)
      clear hrs HRS HRQ HC0 hg hk0 hk2 hpl
      go_wp2_with (first
       | (go_at_call 29; refine (HC.out _).mono ?_; rintro e w7 ⟨rfl, b7⟩; have I7 := (HJ.out.below b7).alloc (.cells #[.int .i64 0, .int .i64 0, .int .i64 0, .int .i64 (kd : Int), .int .i64 (pl : Int)] 54); obtain ⟨h0, h1, h2, h3, h4⟩ := I7.I.head)
       | (go_at_call 32; refine (refBadC _ _ _).mono ?_; rintro e wb ⟨rfl, bb⟩; have IB := I7.below bb; obtain ⟨x0, x1, x2, x3, x4, zx0, zx1, zx2, zx3, zx4, xl⟩ := RI.all IB.I.A))
      exact bodyPost_ret (v := .agg #[.int .i64 0, .int .i64 0, .slice none 0 0, .int .i64 (kd : Int), .int .i64 (pl : Int)]) (by simp [results, Tryz.results10, go_sem, x0, x1, x2, x3, x4]) rfl (by rw [show D = DRes.bad kd pl from HR2.out.symm]; exact ⟨Below.st5 IB.I.B (Nat.le_succ _), rfl⟩)
     ·rw [hg] at hrs HC0
      rw [if_neg (by simp)] at hrs
      have HC := Lib.hid HC0
      unfold gotV at HC
      rw [nats_len] at hnn
      by_cases hVM : M < V
      ·rw [if_pos hVM] at hrs
       have hVI : (M : Int) < (V : Int) := by omega
       have HR2 : Hid (DRes.bad 2 f = D) := Lib.hid (by rw [← HRQ.out, ← hrs]; rfl)
       clear hrs HRS HRQ HC0 hg han hfn
       go_wp2_with (first
        | (go_at_call 29; refine (HC.out _).mono ?_; rintro e w7 ⟨rfl, b7⟩; have I7 := (HJ.out.below b7).alloc (.cells #[.int .i64 (V : Int), .int .i64 (f : Int), .int .i64 (nn : Int), .int .i64 0, .int .i64 0] 54); obtain ⟨h0, h1, h2, h3, h4⟩ := I7.I.head)
        | (go_at_call 32; refine (refBadC _ _ _).mono ?_; rintro e wb ⟨rfl, bb⟩; have IB := I7.below bb; obtain ⟨x0, x1, x2, x3, x4, zx0, zx1, zx2, zx3, zx4, xl⟩ := RI.all IB.I.A))
       exact bodyPost_ret (v := .agg #[.int .i64 0, .int .i64 0, .slice none 0 0, .int .i64 2, .int .i64 (f : Int)]) (by simp [results, Tryz.results10, go_sem, x0, x1, x2, x3, x4]) rfl (by rw [show D = DRes.bad 2 f from HR2.out.symm]; exact ⟨Below.st5 IB.I.B (Nat.le_succ _), rfl⟩)
      ·rw [if_neg hVM] at hrs
       have hVI : ¬ (M : Int) < (V : Int) := by omega
       have hrs2 : smpsR s M g' nn (l ++ [smp8 V M]) = Q := hrs
       have HM0 := fun w => refMax_any (V : Int) (M : Int) w (smay_iff.2 ⟨by omega, by omega, by omega, by omega⟩)
       rw [smp8_is hM1 (by omega)] at HM0
       generalize smp8 V M = x at HM0 hrs2
       have HMX := Lib.hid HM0
       have HRX := Lib.hid hrs2
       have hlen : (dV l).length < 1099511627776 := by rw [dV_len, HLL.out]; omega
       clear hrs hrs2 HRS HC0 HM0 hg han hfn hV
       go_upto_region 25 with (go_at_call 29; refine (HC.out _).mono ?_; rintro e w7 ⟨rfl, b7⟩; have I7 := (HJ.out.below b7).alloc (.cells #[.int .i64 (V : Int), .int .i64 (f : Int), .int .i64 (nn : Int), .int .i64 0, .int .i64 0] 54); obtain ⟨h0, h1, h2, h3, h4⟩ := I7.I.head)
       generalize hpd : w7.heap.size = pd
       have c0 : (w7.alloc (.cells #[.int .i64 (V : Int), .int .i64 (f : Int), .int .i64 (nn : Int), .int .i64 0, .int .i64 0] 54)).cell? ⟨pd, 0, none⟩ = some (.int .i64 (V : Int)) := by rw [← hpd]; exact Blk.cell (Blk.new _ _ _) 0
       clear hpd b7
       change Code.wp _ _ _ _ (w7.alloc (.cells #[.int .i64 (V : Int), .int .i64 (f : Int), .int .i64 (nn : Int), .int .i64 0, .int .i64 0] 54))
       generalize w7.alloc (.cells #[.int .i64 (V : Int), .int .i64 (f : Int), .int .i64 (nn : Int), .int .i64 0, .int .i64 0] 54) = w8 at I7 c0 h0 h1 h2 h3 h4 ⊢
       have HJ8 := Lib.hid I7
       clear I7 HJ
       have hbs : w.heap.size ≤ (w8.alloc (.cells #[.int .i64 (x.toNat : Int)] 3)).heap.size := by have := HJ8.out.I.B.size; simp; omega
       go_wp2_with (first
        | (go_at_call 34; refine (HMX.out _).mono ?_; rintro e w9 ⟨rfl, rfl⟩)
        | (at_builtin; refine wpList_append_one rfl (.tmp 85) (.tmp 91) 61 3 rfl (.int .i64 0) 8 Tryz.underlying61 infoInt3 rfl (by decide) w.heap.size _ (dV l) rfl (HJ8.out.alloc _).P _ rfl (.int .i64 (x.toNat : Int)) (cell_new _ _ _ 0 _ rfl) rfl hlen hbs ?_; intro v4 w4 o4 b4 g4))
       have HT4 := Lib.hid ((HJ8.out.alloc (.cells #[.int .i64 (x.toNat : Int)] 3)).take o4 b4 g4)
       clear o4 b4 g4 HJ8
       go_roundg g'
       case measure => omega
       case rel => exact ⟨k + 1, nn, l ++ [x], by omega, rfl, by go_num, hnn, by rw [List.length_append, HLL.out]; rfl, HRX, HT4⟩
    ·obtain rfl : k = 3 := by omega
     obtain rfl : gk = 0 := by omega
     have hrs := HRS.out
     unfold smpsR at hrs
     have hrq := HRQ.out
     rw [← hrs] at hrq
     obtain ⟨x, y, z, rfl⟩ : ∃ x y z, l = [x, y, z] := by
      have := HLL.out
      match l with
      | [x, y, z] => exact ⟨x, y, z, rfl⟩
     have hrx : pixsR W H (tpixR s 3 M) m a' (L ++ [⟨x, y, z, 255⟩]) = D := hrq
     clear hrq
     have hrq := hrx
     have HRX0 := hrq
     clear hrs hrq HRS HRQ
     have hx8 : IntKind.u8.wrap (x.toNat : Int) = (x.toNat : Int) := by have := x.toNat_lt; exact IntWalk.u8_in _ (by omega)
     have hy8 : IntKind.u8.wrap (y.toNat : Int) = (y.toNat : Int) := by have := y.toNat_lt; exact IntWalk.u8_in _ (by omega)
     have hz8 : IntKind.u8.wrap (z.toNat : Int) = (z.toNat : Int) := by have := z.toNat_lt; exact IntWalk.u8_in _ (by omega)
     have HRX := Lib.hid HRX0
     clear HRX0 HLL
     obtain ⟨lb, cap, rfl⟩ : ∃ lb cap, u9 = .slice (some ⟨lb, 0, none⟩) 3 cap := by
      rcases HJ.out.P.form with ⟨_, h⟩ | ⟨g, cap, h, _⟩
      ·exact absurd (congrArg List.length h) (by simp [dV])
      ·exact ⟨g, cap, h⟩
     go_upto_region 28 with fail
     clear h0 h1 h2 h3 h4
     refine dwp_gen (S := fun wx => DcL w wx po 3 W H M n v L (.slice (some ⟨lb, 0, none⟩) 3 cap) [x, y, z]) (by exact HJ.out) (fun wx hX => ?_)
     have HX := Lib.hid hX.drew
     refine wp_region_held_drew (S := (DcS3 lb x y z)) (by kernel_rfl) (s3_of HX.out.P) (fun hHeld => ?_)
     clear hX HJ
     generalize wx.drew = wd at HX hHeld ⊢
     refine wpAnyH_take (i := 0) (v := ?_) rfl (by kernel_rfl) (by kernel_rfl) (by kernel_rfl) (fun _ _ _ h => h) (Or.inl ⟨by kernel_rfl, ?_⟩) (by assumption) ?_
     rotate_left
     ·intro w hSw; obtain ⟨s0, s1, s2⟩ := hSw; go_simp; (try with_reducible rfl)
     (try simp only [sps])
     refine wpAnyH_take (i := 2) (v := ?_) rfl (by kernel_rfl) (by kernel_rfl) (by kernel_rfl) (fun _ _ _ h => h) (Or.inl ⟨by kernel_rfl, ?_⟩) (by assumption) ?_
     rotate_left
     ·intro w hSw; obtain ⟨s0, s1, s2⟩ := hSw; go_simp; (try with_reducible rfl)
     (try simp only [sps])
     refine wpAnyH_take (i := 3) (v := ?_) rfl (by kernel_rfl) (by kernel_rfl) (by kernel_rfl) (fun _ _ _ h => h) (Or.inl ⟨by kernel_rfl, ?_⟩) (by assumption) ?_
     rotate_left
     ·intro w hSw; obtain ⟨s0, s1, s2⟩ := hSw; go_simp; (try with_reducible rfl)
     (try simp only [sps])
     refine wpAnyH_take (i := 4) (v := ?_) rfl (by kernel_rfl) (by kernel_rfl) (by kernel_rfl) (fun _ _ _ h => h) (Or.inl ⟨by kernel_rfl, ?_⟩) (by assumption) ?_
     rotate_left
     ·intro w hSw; obtain ⟨s0, s1, s2⟩ := hSw; go_simp; (try with_reducible rfl)
     (try simp only [sps])
     refine wpAnyH_take (i := 5) (v := ?_) rfl (by kernel_rfl) (by kernel_rfl) (by kernel_rfl) (fun _ _ _ h => h) (Or.inl ⟨by kernel_rfl, ?_⟩) (by assumption) ?_
     rotate_left
     ·intro w hSw; obtain ⟨s0, s1, s2⟩ := hSw; go_simp; (try with_reducible rfl)
     (try simp only [sps])
     refine wpAnyH_take (i := 6) (v := ?_) rfl (by kernel_rfl) (by kernel_rfl) (by kernel_rfl) (fun _ _ _ h => h) (Or.inl ⟨by kernel_rfl, ?_⟩) (by assumption) ?_
     rotate_left
     ·intro w hSw; obtain ⟨s0, s1, s2⟩ := hSw; go_simp; (try with_reducible rfl)
     (try simp only [sps])
     refine wpAnyH_take (i := 7) (v := ?_) rfl (by kernel_rfl) (by kernel_rfl) (by kernel_rfl) (fun _ _ _ h => h) (Or.inl ⟨by kernel_rfl, ?_⟩) (by assumption) ?_
     rotate_left
     ·intro w hSw; obtain ⟨s0, s1, s2⟩ := hSw; go_simp; (try with_reducible rfl)
     (try simp only [sps])
     refine wpAnyH_take (i := 8) (v := ?_) rfl (by kernel_rfl) (by kernel_rfl) (by kernel_rfl) (fun _ _ _ h => h) (Or.inl ⟨by kernel_rfl, ?_⟩) (by assumption) ?_
     rotate_left
     ·intro w hSw; obtain ⟨s0, s1, s2⟩ := hSw; go_simp; (try with_reducible rfl)
     (try simp only [sps])
     refine wpAnyH_take (i := 9) (v := ?_) rfl (by kernel_rfl) (by kernel_rfl) (by kernel_rfl) (fun _ _ _ h => h) (Or.inl ⟨by kernel_rfl, ?_⟩) (by assumption) ?_
     rotate_left
     ·intro w hSw; obtain ⟨s0, s1, s2⟩ := hSw; go_simp; (try with_reducible rfl)
     (try simp only [sps])
     refine wpAnyH_take (i := 10) (v := ?_) rfl (by kernel_rfl) (by kernel_rfl) (by kernel_rfl) (fun _ _ _ h => h) (Or.inl ⟨by kernel_rfl, ?_⟩) (by assumption) ?_
     rotate_left
     ·intro w hSw; obtain ⟨s0, s1, s2⟩ := hSw; go_simp; (try with_reducible rfl)
     (try simp only [sps])
     refine wpAnyH_take (i := 11) (v := ?_) rfl (by kernel_rfl) (by kernel_rfl) (by kernel_rfl) (fun _ _ _ h => h) (Or.inl ⟨by kernel_rfl, ?_⟩) (by assumption) ?_
     rotate_left
     ·intro w hSw; obtain ⟨s0, s1, s2⟩ := hSw; go_simp; (try with_reducible rfl)
     (try simp only [sps])
     refine wpAnyH_take (i := 12) (v := ?_) rfl (by kernel_rfl) (by kernel_rfl) (by kernel_rfl) (fun _ _ _ h => h) (Or.inl ⟨by kernel_rfl, ?_⟩) (by assumption) ?_
     rotate_left
     ·intro w hSw; obtain ⟨s0, s1, s2⟩ := hSw; go_simp; (try with_reducible rfl)
     (try simp only [sps])
     refine wpAnyH_take (i := 13) (v := ?_) rfl (by kernel_rfl) (by kernel_rfl) (by kernel_rfl) (fun _ _ _ h => h) (Or.inl ⟨by kernel_rfl, ?_⟩) (by assumption) ?_
     rotate_left
     ·intro w hSw; obtain ⟨s0, s1, s2⟩ := hSw; go_simp; (try with_reducible rfl)
     (try simp only [sps])
     refine wpAnyH_take (i := 14) (v := ?_) rfl (by kernel_rfl) (by kernel_rfl) (by kernel_rfl) (fun _ _ _ h => h) (Or.inl ⟨by kernel_rfl, ?_⟩) (by assumption) ?_
     rotate_left
     ·intro w hSw; obtain ⟨s0, s1, s2⟩ := hSw; go_simp; (try with_reducible rfl)
     (try simp only [sps])
     refine wpAnyH_ready (rs := [1, 15]) (by kernel_rfl) (by simp) ?_
     refine AllReadyH.cons rfl (fun K hK => ?_) (AllReadyH.cons rfl (fun K hK => ?_) AllReadyH.nil)
     ·obtain ⟨X0, X1, X2, X3, X4, zX0, zX1, zX2, zX3, zX4, Xl⟩ := RI.all HX.out.I.X
      go_simp
      refine hK.out _ _ (s3_of HX.out.P) ?_
      clear hK K hHeld
      intro hHeld
      (try simp only [sps])
      clear X0 X1 X2 X3 X4 zX0 zX1 zX2 zX3 zX4 Xl
      refine rdy 15 (fun K hK => ?_)
      go_simp
      have I9 := HX.out.alloc (.cells #[.int .u8 (x.toNat : Int), .int .u8 (y.toNat : Int), .int .u8 (z.toNat : Int), .int .u8 255] 59)
      refine hK.out _ _ (s3_of I9.P) ?_
      clear hK K hHeld
      intro hHeld
      (try simp only [sps])
      refine rdy 16 (fun K hK => ?_)
      refine oper_append_cols (.tmp 105) (.tmp 119) rfl w.heap.size v L rfl I9.I.O wd.heap.size 1 1 [(⟨x, y, z, 255⟩ : Qc)] rfl rfl (q_new wd ⟨x, y, z, 255⟩) ?_ ?_ ?_
      ·rw [HL.out]; simp; omega
      ·have := I9.I.B.size; exact this
      intro v10 w10 o10 b10 g10
      have X10 : RI w10 po (W : Int) (H : Int) v 0 0 := Blk.grownQ I9.I.X I9.I.O (by decide) g10
      have S10 := s3_of (I9.row g10)
      have IG := I9.grow o10 b10 g10
      obtain ⟨a10, c10, hv10⟩ := o10.slice
      generalize hn10 : (L ++ [(⟨x, y, z, 255⟩ : Qc)]).length = n10 at hv10
      subst hv10
      refine hK.out _ _ S10 ?_
      clear hK K hHeld
      intro hHeld
      (try simp only [sps])
      refine wpAnyH_take (i := 17) (v := ?_) rfl (by kernel_rfl) (by kernel_rfl) (by kernel_rfl) (fun _ _ _ h => h) (Or.inl ⟨by kernel_rfl, ?_⟩) (by assumption) ?_
      rotate_left
      ·intro w hSw; obtain ⟨s0, s1, s2⟩ := hSw; go_simp; (try with_reducible rfl)
      (try simp only [sps])
      (try clear X0 X1 X2 X3 X4 zX0 zX1 zX2 zX3 zX4 Xl)
      obtain ⟨X0, X1, X2, X3, X4, zX0, zX1, zX2, zX3, zX4, Xl⟩ := RI.all X10
      refine rdy 18 (fun K hK => ?_)
      go_simp
      refine hK.out _ _ (s3_of IG.P) ?_
      clear hK K hHeld
      intro hHeld
      (try simp only [sps])
      refine wpAnyH_done (by kernel_rfl) ?_ _
      (try simp only [sps])
      clear hHeld I9 X10 S10 o10 b10 g10 X0 X1 X2 X3 X4 zX0 zX1 zX2 zX3 zX4 Xl
      try clear I8 b8
      first | change Exit.inBlock _ _ _ _ (w10.setCell ⟨po, 2, none⟩ (.slice a10 n10 c10)) | change Exit.then _ _ _ _ (w10.setCell ⟨po, 2, none⟩ (.slice a10 n10 c10))
      generalize w10.setCell ⟨po, 2, none⟩ (.slice a10 n10 c10) = wz at IG ⊢
      have HZ := Lib.hid IG.I
      clear IG hn10
      go_wp2_with fail
      go_roundg m
      case measure => omega
      case rel => exact ⟨i + 1, a', _, L ++ [(⟨x, y, z, 255⟩ : Qc)], by omega, rfl, by go_num, ha', by rw [List.length_append, HL.out]; rfl, HRX, HZ⟩
     ·go_simp
      have I9 := HX.out.alloc (.cells #[.int .u8 (x.toNat : Int), .int .u8 (y.toNat : Int), .int .u8 (z.toNat : Int), .int .u8 255] 59)
      refine hK.out _ _ (s3_of I9.P) ?_
      clear hK K hHeld
      intro hHeld
      (try simp only [sps])
      refine rdy 1 (fun K hK => ?_)
      obtain ⟨X0, X1, X2, X3, X4, zX0, zX1, zX2, zX3, zX4, Xl⟩ := RI.all I9.I.X
      go_simp
      refine hK.out _ _ (s3_of I9.P) ?_
      clear hK K hHeld
      intro hHeld
      (try simp only [sps])
      clear X0 X1 X2 X3 X4 zX0 zX1 zX2 zX3 zX4 Xl
      refine rdy 16 (fun K hK => ?_)
      refine oper_append_cols (.tmp 105) (.tmp 119) rfl w.heap.size v L rfl I9.I.O wd.heap.size 1 1 [(⟨x, y, z, 255⟩ : Qc)] rfl rfl (q_new wd ⟨x, y, z, 255⟩) ?_ ?_ ?_
      ·rw [HL.out]; simp; omega
      ·have := I9.I.B.size; exact this
      intro v10 w10 o10 b10 g10
      have X10 : RI w10 po (W : Int) (H : Int) v 0 0 := Blk.grownQ I9.I.X I9.I.O (by decide) g10
      have S10 := s3_of (I9.row g10)
      have IG := I9.grow o10 b10 g10
      obtain ⟨a10, c10, hv10⟩ := o10.slice
      generalize hn10 : (L ++ [(⟨x, y, z, 255⟩ : Qc)]).length = n10 at hv10
      subst hv10
      refine hK.out _ _ S10 ?_
      clear hK K hHeld
      intro hHeld
      (try simp only [sps])
      refine wpAnyH_take (i := 17) (v := ?_) rfl (by kernel_rfl) (by kernel_rfl) (by kernel_rfl) (fun _ _ _ h => h) (Or.inl ⟨by kernel_rfl, ?_⟩) (by assumption) ?_
      rotate_left
      ·intro w hSw; obtain ⟨s0, s1, s2⟩ := hSw; go_simp; (try with_reducible rfl)
      (try simp only [sps])
      (try clear X0 X1 X2 X3 X4 zX0 zX1 zX2 zX3 zX4 Xl)
      obtain ⟨X0, X1, X2, X3, X4, zX0, zX1, zX2, zX3, zX4, Xl⟩ := RI.all X10
      refine rdy 18 (fun K hK => ?_)
      go_simp
      refine hK.out _ _ (s3_of IG.P) ?_
      clear hK K hHeld
      intro hHeld
      (try simp only [sps])
      refine wpAnyH_done (by kernel_rfl) ?_ _
      (try simp only [sps])
      clear hHeld I9 X10 S10 o10 b10 g10 X0 X1 X2 X3 X4 zX0 zX1 zX2 zX3 zX4 Xl
      try clear I8 b8
      first | change Exit.inBlock _ _ _ _ (w10.setCell ⟨po, 2, none⟩ (.slice a10 n10 c10)) | change Exit.then _ _ _ _ (w10.setCell ⟨po, 2, none⟩ (.slice a10 n10 c10))
      generalize w10.setCell ⟨po, 2, none⟩ (.slice a10 n10 c10) = wz at IG ⊢
      have HZ := Lib.hid IG.I
      clear IG hn10
      go_wp2_with fail
      go_roundg m
      case measure => omega
      case rel => exact ⟨i + 1, a', _, L ++ [(⟨x, y, z, 255⟩ : Qc)], by omega, rfl, by go_num, ha', by rw [List.length_append, HL.out]; rfl, HRX, HZ⟩
  ·obtain rfl : i = P := by omega
   obtain rfl : gk = 0 := by omega
   have hiI : ¬ (i : Int) < (i : Int) := by omega
   have hrun := HRUN.out
   unfold pixsR at hrun
   have HR2 := Lib.hid hrun
   obtain ⟨va, vc, hv⟩ := HI.out.O.slice
   generalize L.length = ll at hv
   subst hv
   obtain ⟨x0, x1, x2, x3, x4, zx0, zx1, zx2, zx3, zx4, xl⟩ := RI.all HI.out.A
   obtain ⟨X0, X1, X2, X3, X4, zX0, zX1, zX2, zX3, zX4, Xl⟩ := RI.all HI.out.X
   have hpn : w.heap.size + 1 ≠ po := by have := HI.out.np; omega
   clear hrun HRUN
   go_wp2_with fail
   exact bodyPost_ret (v := .agg #[.int .i64 (W : Int), .int .i64 (H : Int), .slice va ll vc, .int .i64 0, .int .i64 0]) (by simp [results, Tryz.results10, go_sem, x0, x1, x2, x3, x4]) rfl (by rw [show D = DRes.img W H (flat L) from HR2.out.symm]; exact ⟨HI.out.outs.1, _, L, rfl, HI.out.outs.2, rfl, by rw [HL.out, HP.out]⟩)
end Go.Proofs.YtgmgcfjllijhgaaGreat
