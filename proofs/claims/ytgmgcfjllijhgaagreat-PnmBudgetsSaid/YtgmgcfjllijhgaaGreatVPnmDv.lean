/- The document's Sides of PNM; runs; the chapter's example. -/
import Derived.Test.YtgmgcfjllijhgaaGreatVPnmDe
import Derived.Test.YtgmgcfjllijhgaaGreatVPnmRef
namespace Go.Proofs.YtgmgcfjllijhgaaGreat
open Go.RowKit
set_option linter.unusedVariables false
set_option linter.unusedSimpArgs false

section
variable {P : Program} {ops : Array Oper} {Q : Exit → Act → World → Prop} {md : Region.Mode} {S : World → Prop}
theorem AllReadyH.cons_yes {fuel : Nat} {listed : Array Bool} {a : Act} {w : World} {i : Nat} {o : Oper} {rs : List Nat} (ho : ops[i]? = some o) (hw : Region.wanted o (yielded ops a.tmps) = true)
  (h : ∀ K' : Act → World → Prop, Shut (∀ a w, S w → (S w → wpAnyH P md ops Q S fuel (listed.setIfInBounds i true) a w) → K' a w) → Oper.wp P o a w K' Q) (hs : AllReadyH P md ops Q S fuel listed a w rs) : AllReadyH P md ops Q S fuel listed a w (i :: rs) :=
 AllReadyH.cons ho (fun K' hK => by rw [if_pos hw]; exact h K' hK) hs
end
def pnmSides (s : ByteArray) : Nat × Nat := ((headAt (nats s)).W, (headAt (nats s)).H)
set_option maxHeartbeats 2000000 in
theorem refPnmSides {s : ByteArray} (hsm : s.size ≤ 1099511627776) (w : World) : Calls Tryz.prog 20 #[.string s] w fun e w' => e = .returned (.tuple #[.int .i64 ((pnmSides s).1 : Int), .int .i64 ((pnmSides s).2 : Int)]) ∧ Below w.heap.size w w' := by
 unfold pnmSides
 have HR0 := fun w => refHead_any s w hsm
 generalize headAt (nats s) = h at HR0 ⊢
 unfold headV at HR0
 obtain ⟨K, W, H, M, n, kd, pl⟩ := h
 have HR : Hid (∀ w : World, Calls Tryz.prog 9 #[.string s] w fun e w' => e = .returned (.agg #[.int .i64 (K : Int), .int .i64 (W : Int), .int .i64 (H : Int), .int .i64 (M : Int), .int .i64 (n : Int), .int .i64 (kd : Int), .int .i64 (pl : Int)]) ∧ Below w.heap.size w w') := Lib.hid HR0
 clear HR0
 go_enter Tryz.func20, Tryz.ntmps20
 go_upto_region 2 with (go_at_call 9; refine (HR.out _).mono ?_; rintro e w1 ⟨rfl, b1⟩)
 have h1 : (w1.alloc (.cells #[.int .i64 (K : Int), .int .i64 (W : Int), .int .i64 (H : Int), .int .i64 (M : Int), .int .i64 (n : Int), .int .i64 (kd : Int), .int .i64 (pl : Int)] 24)).cell? ⟨w1.heap.size, 1, none⟩ = some (.int .i64 (W : Int)) := Blk.cell (Blk.new w1 24 #[.int .i64 (K : Int), .int .i64 (W : Int), .int .i64 (H : Int), .int .i64 (M : Int), .int .i64 (n : Int), .int .i64 (kd : Int), .int .i64 (pl : Int)]) 1
 have h2 : (w1.alloc (.cells #[.int .i64 (K : Int), .int .i64 (W : Int), .int .i64 (H : Int), .int .i64 (M : Int), .int .i64 (n : Int), .int .i64 (kd : Int), .int .i64 (pl : Int)] 24)).cell? ⟨w1.heap.size, 2, none⟩ = some (.int .i64 (H : Int)) := Blk.cell (Blk.new w1 24 #[.int .i64 (K : Int), .int .i64 (W : Int), .int .i64 (H : Int), .int .i64 (M : Int), .int .i64 (n : Int), .int .i64 (kd : Int), .int .i64 (pl : Int)]) 2
 have B1 := b1.alloc b1.size (.cells #[.int .i64 (K : Int), .int .i64 (W : Int), .int .i64 (H : Int), .int .i64 (M : Int), .int .i64 (n : Int), .int .i64 (kd : Int), .int .i64 (pl : Int)] 24)
 clear b1
 generalize w1.alloc (.cells #[.int .i64 (K : Int), .int .i64 (W : Int), .int .i64 (H : Int), .int .i64 (M : Int), .int .i64 (n : Int), .int .i64 (kd : Int), .int .i64 (pl : Int)] 24) = w2 at h1 h2 B1 ⊢
 go_region
 all_goals go_wp2_with fail
 exact bodyPost_ret (v := .tuple #[.int .i64 (W : Int), .int .i64 (H : Int)]) (by simp [results, Tryz.results20, go_sem]) rfl ⟨rfl, B1.drew⟩
theorem pnmDec_enough {s : ByteArray} (hs : s.size ≤ 600) (hw : (pnmSides s).1 ≤ 100) (hh : (pnmSides s).2 ≤ 100) : (pnmDec s).cost ≤ 1000000 ∧ (pnmDec s).may 262144 16384 16384 := by
 constructor
 ·have h := headD_pot (s := s) (z := 0) (T := s.size + 70000) (by omega) (k := fun h => .sides h.W h.H h.At (.take (4 * (h.W * h.H)) h.At (bodyD s h (4 * (h.W * h.H))))) fun K W H M n e hn => by
   have h1 : W ≤ 100 := by unfold pnmSides at hw; rw [e] at hw; exact hw
   have h2 : H ≤ 100 := by unfold pnmSides at hh; rw [e] at hh; exact hh
   have hm : W * H ≤ 100 * 100 := Nat.mul_le_mul h1 h2
   have hb := bodyD_cost s ⟨K, W, H, M, n, 0, 0⟩ (4 * (W * H)) hn
   show (bodyD s ⟨K, W, H, M, n, 0, 0⟩ (4 * (W * H))).cost + n ≤ s.size + 70000
   have hb' : (bodyD s ⟨K, W, H, M, n, 0, 0⟩ (4 * (W * H))).cost + n ≤ s.size + W * H * 7 := hb
   omega
  have h2 : (pnmDec s).cost ≤ s.size + 70000 + 9 := h
  omega
 ·refine headD_all (DP.may s 0 262144 16384 16384) fun h' h0 hK hW' hH' hM ha e => ?_
  have h1 : h'.W ≤ 100 := by unfold pnmSides at hw; rw [e] at hw; exact hw
  have h2 : h'.H ≤ 100 := by unfold pnmSides at hh; rw [e] at hh; exact hh
  have hm : h'.W * h'.H ≤ 100 * 100 := Nat.mul_le_mul h1 h2
  exact ⟨⟨by omega, by omega⟩, ⟨by omega, by omega⟩, by omega, bodyD_all (DP.may s _ 262144 16384 16384) ha fun _ _ => trivial⟩
/-- an image's sides were asked for -/
def Dec.sided : Dec → (Nat → Nat → Prop) → Prop
 | .fin (.bad _ _), _ => True
 | .fin (.img W H _), P => P W H
 | .work _ _ _ k, P => k.sided P
 | .sides W H _ k, P => k.sided (fun a b => P a b ∨ ((a : Int) = W ∧ (b : Int) = H))
 | .take _ _ k, P => k.sided P
 | .give _ k, P => k.sided P
 | .hold _ _ _ k, P => k.sided P
def InS (x : Led) (W H : Nat) : Prop := 1 ≤ W ∧ (W : Int) ≤ x.W ∧ 1 ≤ H ∧ (H : Int) ≤ x.H
theorem led_same (x : Led) (n : Int) : ((x.work n).1.W = x.W ∧ (x.work n).1.H = x.H) ∧ ((x.take n).1.W = x.W ∧ (x.take n).1.H = x.H) ∧ ((x.give n).1.W = x.W ∧ (x.give n).1.H = x.H) := by
 refine ⟨?_, ?_, ?_⟩
 ·unfold Led.work
  split
  ·exact ⟨rfl, rfl⟩
  ·split <;> exact ⟨rfl, rfl⟩
 ·unfold Led.take
  split
  ·exact ⟨rfl, rfl⟩
  ·split <;> exact ⟨rfl, rfl⟩
 ·unfold Led.give
  split <;> exact ⟨rfl, rfl⟩
theorem led_sides_in {x : Led} {a b : Int} (h : (x.sides a b).2 = true) : (x.sides a b).1 = x ∧ 1 ≤ a ∧ a ≤ x.W ∧ 1 ≤ b ∧ b ≤ x.H := by
 unfold Led.sides at h ⊢
 split at h
 ·cases h
 ·split at h
  ·cases h
  ·split at h
   ·cases h
   ·rename_i h1 h2 h3
    rw [if_neg h1, if_neg h2, if_neg h3]
    exact ⟨rfl, by omega, by omega, by omega, by omega⟩
theorem Dec.run_sided (d : Dec) : ∀ (P : Nat → Nat → Prop) (x y : Led) (W H : Nat) (l : List UInt8), d.sided P → (∀ a b, P a b → InS x a b) → d.run x = (y, .img W H l) → InS x W H := by
 induction d with
 | fin r =>
  intro P x y W H l hs hP hr
  unfold Dec.run at hr
  injection hr with h1 h2
  subst h2
  exact hP _ _ hs
 | work n fr a k ih =>
  intro P x y W H l hs hP hr
  unfold Dec.run at hr
  obtain ⟨⟨e1, e2⟩, _⟩ := led_same x n
  split at hr
  ·have h := ih P (x.work n).1 y W H l hs (fun a b h => by have := hP a b h; unfold InS at this ⊢; rw [e1, e2]; exact this) hr
   unfold InS at h ⊢
   rw [e1, e2] at h
   exact h
  ·injection hr with h1 h2
   cases h2
 | sides A B a k ih =>
  intro P x y W H l hs hP hr
  unfold Dec.run at hr
  split at hr
  ·rename_i h
   obtain ⟨e0, a1, a2, b1, b2⟩ := led_sides_in h
   rw [e0] at hr
   refine ih _ x y W H l hs (fun a b h => ?_) hr
   rcases h with h | ⟨h1, h2⟩
   ·exact hP a b h
   ·exact ⟨by omega, by omega, by omega, by omega⟩
  ·injection hr with h1 h2
   cases h2
 | take n a k ih =>
  intro P x y W H l hs hP hr
  unfold Dec.run at hr
  obtain ⟨_, ⟨e1, e2⟩, _⟩ := led_same x n
  split at hr
  ·have h := ih P (x.take n).1 y W H l hs (fun a b h => by have := hP a b h; unfold InS at this ⊢; rw [e1, e2]; exact this) hr
   unfold InS at h ⊢
   rw [e1, e2] at h
   exact h
  ·injection hr with h1 h2
   cases h2
 | give n k ih =>
  intro P x y W H l hs hP hr
  unfold Dec.run at hr
  obtain ⟨_, _, e1, e2⟩ := led_same x n
  have h := ih P (x.give n).1 y W H l hs (fun a b h => by have := hP a b h; unfold InS at this ⊢; rw [e1, e2]; exact this) hr
  unfold InS at h ⊢
  rw [e1, e2] at h
  exact h
 | hold n fr a k ih =>
  intro P x y W H l hs hP hr
  unfold Dec.run at hr
  obtain ⟨_, ⟨e1, e2⟩, _⟩ := led_same x n
  split at hr
  ·have h := ih P (x.take n).1 y W H l hs (fun a b h => by have := hP a b h; unfold InS at this ⊢; rw [e1, e2]; exact this) hr
   unfold InS at h ⊢
   rw [e1, e2] at h
   exact h
  ·injection hr with h1 h2
   cases h2
theorem DP.sided (s : ByteArray) (z : Nat) (P : Nat → Nat → Prop) : DP s z fun d => d.sided P := ⟨fun a k h hk => hk, fun kd pl h1 h2 => trivial⟩
theorem pnmDec_sided (s : ByteArray) : (pnmDec s).sided fun _ _ => False := by
 refine headD_all (DP.sided s 0 _) fun h h0 hK hW hH hM ha e => ?_
 exact bodyD_all (P := fun d => d.sided fun a b => False ∨ ((a : Int) = (h.W : Int) ∧ (b : Int) = (h.H : Int))) (DP.sided s _ _) ha fun L hL => .inr ⟨rfl, rfl⟩
/-- an image that is returned has sides within these -/
def ImgIn (ba bb : Int) (e : Ending) : Prop := ∀ (W H : Nat) (b : Addr) (n c : Nat) (f p : Value), e = .returned (.tuple #[.agg #[.int .i64 (W : Int), .int .i64 (H : Int), .slice (some b) n c], f, p]) → (W : Int) ≤ ba ∧ (H : Int) ≤ bb
theorem imgIn_run {s : ByteArray} {ba bb bc bd : Int} {w w' : World} {e : Ending} (h : RunPost 3 (pnmDec s) (Led.new ba bb bc bd) w w' e) : ImgIn ba bb e := by
 obtain ⟨g, y, _, _, _, _, hor⟩ := h
 rcases hor with ⟨k, a, _, _, rfl⟩ | ⟨W, H, l, d, hr, rfl, _⟩
 ·intro W H b n c f p he
  simp at he
 ·intro W' H' b n c f p he
  simp at he
  obtain ⟨⟨h1, h2, _⟩, _⟩ := he
  have hin := Dec.run_sided _ _ _ _ _ _ _ (pnmDec_sided s) (fun a b h => h.elim) hr
  obtain ⟨w1, w2, u1, u2⟩ := hin
  have w2' : (W : Int) ≤ nought ba := w2
  have u2' : (H : Int) ≤ nought bb := u2
  unfold nought at w2' u2'
  constructor
  ·split at w2' <;> omega
  ·split at u2' <;> omega
/-- a run by the wide budget, of a file whose sides are small -/
theorem pnmRunW {s : ByteArray} (hs : s.size ≤ 600) (hw : (pnmSides s).1 ≤ 100) (hh : (pnmSides s).2 ≤ 100) (w : World) :
  Calls Tryz.prog 21 #[.string s, .agg #[.int .i64 16384, .int .i64 16384, .int .i64 262144, .int .i64 1048576], .func (.func 23) #[] #[]] w fun e w' => ∃ g y, LedAt w' g y ∧ y.bytes = ((pnmDec s).told.kept : Int) ∧ Below w.heap.size w w' ∧
   ((∃ k a : Nat, k ≠ 0 ∧ (pnmDec s).told = .bad k a ∧ e = .returned (.tuple #[.agg #[.int .i64 0, .int .i64 0, .slice none 0 0], .agg #[.int .i64 (k : Int), .int .i64 3, .int .i64 (a : Int)], .pointer (some ⟨g, 0, none⟩)])) ∨
    (∃ (W H : Nat) (l : List UInt8) (d : Nat), (pnmDec s).told = .img W H l ∧ e = .returned (.tuple #[.agg #[.int .i64 (W : Int), .int .i64 (H : Int), .slice (some ⟨d, 0, none⟩) l.length l.length], .agg #[.int .i64 0, .int .i64 0, .int .i64 0], .pointer (some ⟨g, 0, none⟩)]) ∧ BytesAt w' (some ⟨d, 0, none⟩) l.length l)) := by
 have hsm : s.size ≤ 1099511627776 := by omega
 obtain ⟨hc, hm⟩ := pnmDec_enough hs hw hh
 obtain ⟨y0, r0, _, rb⟩ := wide_run (pnmDec_bal s) hm (by omega)
 refine (run15 (F := 23) (fm := 3) (D := pnmDec s) XW_new XW_ok rfl hsm (fun p w => by kernel_rfl) (fun w p g h l => pnmDecodeC h l hsm XW_ok rfl) w).mono ?_
 rintro e w' ⟨g, y, l, yok, gn, bl, hor⟩
 rw [r0] at hor
 rcases hor with ⟨k, a, hk, hr, rfl⟩ | ⟨W, H, l', d, hr, rfl, hb⟩
 ·injection hr with h1 h2
  exact ⟨g, y, l, by rw [← h1]; exact rb, bl, .inl ⟨k, a, hk, h2, rfl⟩⟩
 ·injection hr with h1 h2
  exact ⟨g, y, l, by rw [← h1]; exact rb, bl, .inr ⟨W, H, l', d, h2, rfl, hb⟩⟩
theorem pnmRunG {s : ByteArray} {ba bb bc bd : Int} (hsm : s.size ≤ 1099511627776) (h1 : ba ≤ 9223372036854775807) (h2 : bb ≤ 9223372036854775807) (h3 : bc ≤ 9223372036854775807) (h4 : bd ≤ 9223372036854775807) (w : World) :
  Calls Tryz.prog 21 #[.string s, .agg #[.int .i64 ba, .int .i64 bb, .int .i64 bc, .int .i64 bd], .func (.func 23) #[] #[]] w fun e w' => ∃ g y, LedAt w' g y ∧ y.Ok ∧ y.B = nought bc ∧ y.S = nought bd ∧ Below w.heap.size w w' ∧ ImgIn ba bb e ∧ AnyRun 3 (pnmDec s) s.size w w' g y e := by
 refine (run15 (F := 23) (fm := 3) (D := pnmDec s) rfl (Led.ok_new h1 h2 h3 h4) rfl hsm (fun p w => by kernel_rfl) (fun w p g h l => pnmDecodeC h l hsm (Led.ok_new h1 h2 h3 h4) rfl) w).mono ?_
 intro e w' h
 obtain ⟨g, y, h1, h2, h3, h4, h5, h6⟩ := anyRun (pnmDec_bal s) rfl rfl h
 exact ⟨g, y, h1, h2, h3, h4, h5, imgIn_run h, h6⟩
def lit15 : ByteArray := ⟨#[80, 53, 32, 49, 32, 49, 32, 50, 53, 53, 10, 65]⟩
theorem lit15_told : (pnmDec lit15).told = .img 1 1 [65, 65, 65, 255] := by kernel_rfl
theorem lit15_sides : pnmSides lit15 = (1, 1) := by decide +kernel
set_option maxRecDepth 100000 in
set_option maxHeartbeats 2000000 in
theorem awake15_any (w : World) : Calls Tryz.prog 19 #[] w fun e w' => e = .returned (.bool true) ∧ Below w.heap.size w w' := by
 have HN0 := fun w => pnmRunW (s := lit15) (by decide) (by rw [lit15_sides]; decide) (by rw [lit15_sides]; decide) w
 rw [lit15_told] at HN0
 unfold lit15 at HN0
 have HN := Lib.hid HN0
 clear HN0
 go_enter Tryz.func19, Tryz.ntmps19
 go_upto_region 2 with (first
  | (go_at_call 22; refine (wide15 _).mono ?_; rintro e w2 ⟨rfl, b2⟩)
  | (go_at_call 21; refine (HN.out _).mono ?_; rintro e w3 ⟨g, y, l3, hy, b3, hor⟩; obtain ⟨W', H', l', d, hr, rfl, hbt⟩ := hor.elim (fun ⟨_, _, _, h, _⟩ => by cases h) id; injection hr with hr1 hr2 hr3; subst hr1 hr2 hr3))
 have B3 := below_next b2 b3
 have T4 : BytesAt ((w3.alloc (.cells #[.int .i64 1, .int .i64 1, .slice (some ⟨d, 0, none⟩) 4 4] 32)).alloc (.cells #[.int .i64 0, .int .i64 0, .int .i64 0] 34)) (some ⟨d, 0, none⟩) 4 [65, 65, 65, 255] := (hbt.alloc _).alloc _
 have I4 : IB ((w3.alloc (.cells #[.int .i64 1, .int .i64 1, .slice (some ⟨d, 0, none⟩) 4 4] 32)).alloc (.cells #[.int .i64 0, .int .i64 0, .int .i64 0] 34)) w3.heap.size 1 1 (some ⟨d, 0, none⟩) 4 4 := Blk.alloc (Blk.new _ _ _) _
 have F4 : FB ((w3.alloc (.cells #[.int .i64 1, .int .i64 1, .slice (some ⟨d, 0, none⟩) 4 4] 32)).alloc (.cells #[.int .i64 0, .int .i64 0, .int .i64 0] 34)) (w3.heap.size + 1) 0 0 0 := Blk.new_at _ _ _ (by simp)
 have B4 : Below w.heap.size w ((w3.alloc (.cells #[.int .i64 1, .int .i64 1, .slice (some ⟨d, 0, none⟩) 4 4] 32)).alloc (.cells #[.int .i64 0, .int .i64 0, .int .i64 0] 34)) := (B3.alloc B3.size _).alloc (by have := B3.size; simp; omega) _
 clear hbt b2 b3 B3 hor l3 hy
 generalize ((w3.alloc (.cells #[.int .i64 1, .int .i64 1, .slice (some ⟨d, 0, none⟩) 4 4] 32)).alloc (.cells #[.int .i64 0, .int .i64 0, .int .i64 0] 34)) = w4 at T4 I4 F4 B4 ⊢
 generalize w3.heap.size + 1 = qf at F4 ⊢
 generalize w3.heap.size = qm at I4 ⊢
 have hcv : (convert 30 9 (.slice (some ⟨d, 0, none⟩) 4 4)).run Tryz.prog w4 = .ok (.string ⟨#[65, 65, 65, 255]⟩) w4 := bytesText T4 4
 obtain ⟨c0, c1, c2, z0, z1, z2, fl⟩ := FB.all F4
 obtain ⟨e0, e1, e2, v0, v1, v2, il⟩ := IB.all I4
 go_wp2_with fail
 go_ret
 exact ⟨rfl, B4⟩
end Go.Proofs.YtgmgcfjllijhgaaGreat
