/- The document's Sides and Decode of a file of TGA's, whole; runs by the wide budget, by any budget. -/
import Derived.Test.YtlehkgkomjojmaaGreatGTgaV
import Derived.Test.YtlehkgkomjojmaaGreatGTgaN2
import Derived.Test.YtlehkgkomjojmaaGreatGTgaR
import Derived.Test.YtlehkgkomjojmaaGreatGTgaT
import Derived.Test.YtlehkgkomjojmaaGreatGFfM
namespace Go.Proofs.YtlehkgkomjojmaaGreat
open Go.RowKit
set_option linter.unusedVariables false
set_option linter.unusedSimpArgs false

theorem tgaFault_some {s : ByteArray} {f : Nat × Nat} (h : tgaFault s = some f) : f.1 ≠ 0 ∧ f.1 ≠ 4 := by
  unfold tgaFault at h
  by_cases h1 : s.size < 18
  · rw [if_pos h1] at h; cases h; exact ⟨by simp, by simp⟩
  · rw [if_neg h1] at h; exact ⟨(tgaHead_some h).1, (tgaHead_some h).2.1⟩
section
variable {s : ByteArray} {h : TgaHd} {M : List Qc}
theorem tgaMapR_bad {g : Nat × Nat} (e : tgaMapR s h = .inl g) : g.1 ≠ 0 ∧ g.1 ≠ 4 := by
  unfold tgaMapR at e
  split at e
  · split at e
    · cases e
    · split at e
      · cases e
      · cases e; exact ⟨by simp, by simp⟩
  · cases e; exact ⟨by simp, by simp⟩
end
/-- the ways that a file is told -/
inductive TgaTold (s : ByteArray) : Prop where
  | bad (k a : Nat) (hk : k ≠ 0) (h4 : k ≠ 4) (hf : tgaFault s = some (k, a)) (t : (tgaDec s).told = .bad k a) (u : tgaSides s = (0, 0, 0)) : TgaTold s
  | body (hf : tgaFault s = none) (t : (tgaDec s).told = tgaRef s (tgaHd s)) (u : tgaSides s = ((tgaHd s).W, (tgaHd s).H, if (tgaHd s).mapped then (tgaHd s).count else 0)) : TgaTold s
theorem tgaTold_is (s : ByteArray) : TgaTold s := by
  cases hf : tgaFault s with
  | some f =>
    refine .bad f.1 f.2 (tgaFault_some hf).1 (tgaFault_some hf).2 hf ?_ ?_
    · rw [tgaDec_told, hf]
    · unfold tgaSides; rw [hf]
  | none =>
    refine .body hf ?_ ?_
    · rw [tgaDec_told, hf]
    · unfold tgaSides; rw [hf]
theorem tgaRdV_none {s : ByteArray} (h : tgaFault s = none) : tgaRdV s = tRV (tgaHd s) := by
  unfold tgaRdV; rw [h]
theorem OwnsQ.base_ {w : World} {b b' : Nat} {v : Value} {L : List Qc} (h : OwnsQ w b v L) (hb : b' ≤ b) : OwnsQ w b' v L := by
  refine ⟨h.1, ?_⟩
  rcases h.2 with h | ⟨r, cap, cur, hv, hr, hx⟩
  · exact .inl h
  · exact .inr ⟨r, cap, cur, hv, Nat.le_trans hb hr, hx⟩
set_option maxRecDepth 100000 in
set_option maxHeartbeats 4000000 in
theorem refTgaDec_bad {s : ByteArray} {k a : Nat} (hk : k ≠ 0) (hf : tgaFault s = some (k, a)) (hsm : s.size ≤ 1099511627776) (w : World) :
    Calls Tryz.prog 25 #[.string s] w fun e w' => e = .returned (.agg #[.int .i64 0, .int .i64 0, .slice none 0 0, .int .i64 (k : Int), .int .i64 (a : Int)]) ∧ Below w.heap.size w w' := by
  obtain ⟨F0, B0⟩ := ri_new w
  have HR := Lib.hid (fun w => refTgaReadC hsm w)
  rw [tgaRdV_some hf] at HR
  unfold tRdV at HR
  have hkI : ¬ (k : Int) = 0 := by omega
  clear hf hk
  go_enter Tryz.func25, Tryz.ntmps25
  go_wp2_with (first
    | (go_at_call 72; refine (HR.out _).mono ?_; rintro e w1 ⟨rfl, b1⟩; have A1 : RI (w1.alloc (.cells #[.int .i64 0, .int .i64 0, .int .i64 0, .int .i64 0, .int .i64 0, .int .i64 0, .int .i64 0, .int .i64 0, .int .i64 0, .int .i64 0, .bool false, .bool false, .int .i64 (k : Int), .int .i64 (a : Int)] 133)) w.heap.size 0 0 (.slice none 0 0) 0 0 := Blk.alloc (Blk.below F0 b1 (Blk.lt F0)) _; have B1 : Below w.heap.size w (w1.alloc (.cells #[.int .i64 0, .int .i64 0, .int .i64 0, .int .i64 0, .int .i64 0, .int .i64 0, .int .i64 0, .int .i64 0, .int .i64 0, .int .i64 0, .bool false, .bool false, .int .i64 (k : Int), .int .i64 (a : Int)] 133)) := (below_next B0 b1).alloc (below_next B0 b1).size _)
    | (go_at_call 47; refine (refBadC _ _ _).mono ?_; rintro e w5 ⟨rfl, b5⟩; have f5 : RI w5 w.heap.size 0 0 (.slice none 0 0) 0 0 := Blk.below A1 b5 (Blk.lt A1); obtain ⟨c0, c1, c2, c3, c4, z0, z1, z2, z3, z4, fl⟩ := RI.all f5))
  exact bodyPost_ret (v := .agg #[.int .i64 0, .int .i64 0, .slice none 0 0, .int .i64 (k : Int), .int .i64 (a : Int)]) (by simp [results, Tryz.results25, go_sem, c0, c1, c2, c3, c4]) rfl ⟨rfl, Below.st5 (below_next B1 b5) (Nat.le_refl _)⟩
set_option maxRecDepth 100000 in
set_option maxHeartbeats 4000000 in
theorem refTgaDec_map {s : ByteArray} {h : TgaHd} {k a : Nat} (ok : h.Ok) (hf : tgaFault s = none) (hh : tgaHd s = h) (hm : tgaMapR s h = .inl (k, a)) (hs : s.size ≤ 100000) (w : World) :
    Calls Tryz.prog 25 #[.string s] w fun e w' => e = .returned (.agg #[.int .i64 0, .int .i64 0, .slice none 0 0, .int .i64 (k : Int), .int .i64 (a : Int)]) ∧ Below w.heap.size w w' := by
  have hsm : s.size ≤ 1099511627776 := by omega
  obtain ⟨F0, B0⟩ := ri_new w
  have hkI : ¬ (k : Int) = 0 := by have := (tgaMapR_bad hm).1; omega
  have HR := Lib.hid (fun w => refTgaReadC hsm w)
  rw [tgaRdV_none hf, hh] at HR
  have HM := Lib.hid (fun w => refTgaMapC (w := w) ok hs)
  unfold tRV tRdV at HR HM
  obtain ⟨mi, hmi⟩ : ∃ mi, (if h.map = true then (1 : Int) else 0) = mi := ⟨_, rfl⟩
  rw [hmi] at HR HM
  have HM2 : Hid (∀ w : World, Calls Tryz.prog 73 #[.string s, .agg #[.int .i64 (h.name : Int), .int .i64 mi, .int .i64 (h.typ : Int), .int .i64 (h.first : Int), .int .i64 (h.count : Int), .int .i64 (h.entry : Int), .int .i64 (h.W : Int), .int .i64 (h.H : Int), .int .i64 (h.depth : Int), .int .i64 (h.alpha : Int), .bool h.left, .bool h.top, .int .i64 0, .int .i64 0]] w fun e w' => e = .returned (.agg #[.int .i64 0, .slice none 0 0, .int .i64 (k : Int), .int .i64 (a : Int)]) ∧ Below w.heap.size w w') := Lib.hid (fun w => (HM.out w).mono (by
    rintro e w' ⟨b, ⟨k', a', h1, _, rfl⟩ | ⟨a', M, v, h1, _⟩⟩
    · rw [hm] at h1; cases h1; exact ⟨rfl, b⟩
    · rw [hm] at h1; cases h1))
  clear HM hf hh hmi hm
  go_enter Tryz.func25, Tryz.ntmps25
  go_upto_region 2 with (go_at_call 72; refine (HR.out _).mono ?_; rintro e w1 ⟨rfl, b1⟩)
  have A1 : RI (w1.alloc (.cells #[.int .i64 (h.name : Int), .int .i64 mi, .int .i64 (h.typ : Int), .int .i64 (h.first : Int), .int .i64 (h.count : Int), .int .i64 (h.entry : Int), .int .i64 (h.W : Int), .int .i64 (h.H : Int), .int .i64 (h.depth : Int), .int .i64 (h.alpha : Int), .bool h.left, .bool h.top, .int .i64 0, .int .i64 0] 133)) w.heap.size 0 0 (.slice none 0 0) 0 0 := Blk.alloc (Blk.below F0 b1 (Blk.lt F0)) _
  have X1 : Blk (w1.alloc (.cells #[.int .i64 (h.name : Int), .int .i64 mi, .int .i64 (h.typ : Int), .int .i64 (h.first : Int), .int .i64 (h.count : Int), .int .i64 (h.entry : Int), .int .i64 (h.W : Int), .int .i64 (h.H : Int), .int .i64 (h.depth : Int), .int .i64 (h.alpha : Int), .bool h.left, .bool h.top, .int .i64 0, .int .i64 0] 133)) w1.heap.size 133 (tHdD h mi) := Blk.new _ _ _
  have B1 : Below w.heap.size w (w1.alloc (.cells #[.int .i64 (h.name : Int), .int .i64 mi, .int .i64 (h.typ : Int), .int .i64 (h.first : Int), .int .i64 (h.count : Int), .int .i64 (h.entry : Int), .int .i64 (h.W : Int), .int .i64 (h.H : Int), .int .i64 (h.depth : Int), .int .i64 (h.alpha : Int), .bool h.left, .bool h.top, .int .i64 0, .int .i64 0] 133)) := (below_next B0 b1).alloc (below_next B0 b1).size _
  clear b1
  generalize (w1.alloc (.cells #[.int .i64 (h.name : Int), .int .i64 mi, .int .i64 (h.typ : Int), .int .i64 (h.first : Int), .int .i64 (h.count : Int), .int .i64 (h.entry : Int), .int .i64 (h.W : Int), .int .i64 (h.H : Int), .int .i64 (h.depth : Int), .int .i64 (h.alpha : Int), .bool h.left, .bool h.top, .int .i64 0, .int .i64 0] 133)) = w2 at A1 X1 B1 ⊢
  generalize w1.heap.size = ph at X1 ⊢
  have x0 : w2.cell? ⟨ph, 0, none⟩ = some (.int .i64 (h.name : Int)) := Blk.cell X1 0
  have x1 : w2.cell? ⟨ph, 1, none⟩ = some (.int .i64 mi) := Blk.cell X1 1
  have x2 : w2.cell? ⟨ph, 2, none⟩ = some (.int .i64 (h.typ : Int)) := Blk.cell X1 2
  have x3 : w2.cell? ⟨ph, 3, none⟩ = some (.int .i64 (h.first : Int)) := Blk.cell X1 3
  have x4 : w2.cell? ⟨ph, 4, none⟩ = some (.int .i64 (h.count : Int)) := Blk.cell X1 4
  have x5 : w2.cell? ⟨ph, 5, none⟩ = some (.int .i64 (h.entry : Int)) := Blk.cell X1 5
  have x6 : w2.cell? ⟨ph, 6, none⟩ = some (.int .i64 (h.W : Int)) := Blk.cell X1 6
  have x7 : w2.cell? ⟨ph, 7, none⟩ = some (.int .i64 (h.H : Int)) := Blk.cell X1 7
  have x8 : w2.cell? ⟨ph, 8, none⟩ = some (.int .i64 (h.depth : Int)) := Blk.cell X1 8
  have x9 : w2.cell? ⟨ph, 9, none⟩ = some (.int .i64 (h.alpha : Int)) := Blk.cell X1 9
  have x10 : w2.cell? ⟨ph, 10, none⟩ = some (.bool h.left) := Blk.cell X1 10
  have x11 : w2.cell? ⟨ph, 11, none⟩ = some (.bool h.top) := Blk.cell X1 11
  have x12 : w2.cell? ⟨ph, 12, none⟩ = some (.int .i64 0) := Blk.cell X1 12
  have x13 : w2.cell? ⟨ph, 13, none⟩ = some (.int .i64 0) := Blk.cell X1 13
  have HK := Lib.hid (And.intro A1 (And.intro X1 B1))
  clear A1 X1 B1
  go_upto_region 5 with (go_at_call 73; refine (HM2.out _).mono ?_; rintro e w3 ⟨rfl, b3⟩)
  have A3 : RI (w3.alloc (.cells #[.int .i64 0, .slice none 0 0, .int .i64 (k : Int), .int .i64 (a : Int)] 136)) w.heap.size 0 0 (.slice none 0 0) 0 0 := Blk.alloc (Blk.below HK.out.1 b3 (Blk.lt HK.out.1)) _
  have B3 : Below w.heap.size w (w3.alloc (.cells #[.int .i64 0, .slice none 0 0, .int .i64 (k : Int), .int .i64 (a : Int)] 136)) := (below_next HK.out.2.2 b3).alloc (below_next HK.out.2.2 b3).size _
  have M3 : Blk (w3.alloc (.cells #[.int .i64 0, .slice none 0 0, .int .i64 (k : Int), .int .i64 (a : Int)] 136)) w3.heap.size 136 #[.int .i64 0, .slice none 0 0, .int .i64 (k : Int), .int .i64 (a : Int)] := Blk.new _ _ _
  clear b3 HK x0 x1 x2 x3 x4 x5 x6 x7 x8 x9 x10 x11 x12 x13
  generalize (w3.alloc (.cells #[.int .i64 0, .slice none 0 0, .int .i64 (k : Int), .int .i64 (a : Int)] 136)) = w4 at A3 B3 M3 ⊢
  generalize w3.heap.size = pm at M3 ⊢
  have m2 : w4.cell? ⟨pm, 2, none⟩ = some (.int .i64 (k : Int)) := Blk.cell M3 2
  have m3 : w4.cell? ⟨pm, 3, none⟩ = some (.int .i64 (a : Int)) := Blk.cell M3 3
  go_wp2_with (go_at_call 47; refine (refBadC _ _ _).mono ?_; rintro e w5 ⟨rfl, b5⟩; have f5 : RI w5 w.heap.size 0 0 (.slice none 0 0) 0 0 := Blk.below A3 b5 (Blk.lt A3); obtain ⟨c0, c1, c2, c3, c4, z0, z1, z2, z3, z4, fl⟩ := RI.all f5)
  exact bodyPost_ret (v := .agg #[.int .i64 0, .int .i64 0, .slice none 0 0, .int .i64 (k : Int), .int .i64 (a : Int)]) (by simp [results, Tryz.results25, go_sem, c0, c1, c2, c3, c4]) rfl ⟨rfl, Below.st5 (below_next B3 b5) (Nat.le_refl _)⟩
def PxForm (d : DRes) (w' : World) (n : Nat) (W H : Int) (v : Value) (k i : Int) : Prop := match d with
  | .bad k' a => W = 0 ∧ H = 0 ∧ v = .slice none 0 0 ∧ k = (k' : Int) ∧ i = (a : Int)
  | .img W' H' l => W = (W' : Int) ∧ H = (H' : Int) ∧ k = 0 ∧ i = 0 ∧ ∃ L, OwnsQ w' n v L ∧ flat L = l ∧ L.length = W' * H'
theorem refPost_form {d : DRes} {w' : World} {n : Nat} {e : Ending} (h : match d with
    | .bad k a => e = .returned (.agg #[.int .i64 0, .int .i64 0, .slice none 0 0, .int .i64 (k : Int), .int .i64 (a : Int)])
    | .img W H l => ∃ v L, e = .returned (.agg #[.int .i64 (W : Int), .int .i64 (H : Int), v, .int .i64 0, .int .i64 0]) ∧ OwnsQ w' n v L ∧ flat L = l ∧ L.length = W * H) :
    ∃ W H va vn vc k i, e = .returned (.agg #[.int .i64 W, .int .i64 H, .slice va vn vc, .int .i64 k, .int .i64 i]) ∧ PxForm d w' n W H (.slice va vn vc) k i := by
  cases d with
  | bad k a => exact ⟨_, _, _, _, _, _, _, h, rfl, rfl, rfl, rfl, rfl⟩
  | img W H l =>
    obtain ⟨v, L, h1, h2⟩ := h
    obtain ⟨va, vc, rfl⟩ := h2.1.slice
    exact ⟨_, _, _, _, _, _, _, h1, rfl, rfl, rfl, rfl, L, h2⟩
theorem PxForm.post {d : DRes} {w w' : World} {n : Nat} {W H : Int} {v : Value} {k i : Int} {u0 u1 u2 u3 u4 : Value} {b' : Nat} {W2 H2 : Int} {v2 : Value} {k2 i2 : Int} (h : PxForm d w' n W H v k i) (f : RI w' b' W2 H2 v2 k2 i2) (hb : w.heap.size ≤ n) (B : Below w.heap.size w (st5 w' b' u0 u1 u2 u3 u4)) :
    RefPost d w (st5 w' b' u0 u1 u2 u3 u4) (.returned (.agg #[.int .i64 W, .int .i64 H, v, .int .i64 k, .int .i64 i])) := by
  refine ⟨B, ?_⟩
  cases d with
  | bad k' a => obtain ⟨rfl, rfl, rfl, rfl, rfl⟩ := h; rfl
  | img W' H' l =>
    obtain ⟨rfl, rfl, rfl, rfl, L, o, h2, h3⟩ := h
    exact ⟨v, L, rfl, (o.base_ hb).st5RI f, h2, h3⟩
set_option maxRecDepth 100000 in
set_option maxHeartbeats 4000000 in
theorem refTgaDec_ok {s : ByteArray} {h : TgaHd} {M : List Qc} {a : Nat} (ok : h.Ok) (hf : tgaFault s = none) (hh : tgaHd s = h) (hm : tgaMapR s h = .inr (a, M)) (hs : s.size ≤ 100000) (w : World) :
    Calls Tryz.prog 25 #[.string s] w fun e w' => RefPost (tgaPixR s h M a) w w' e := by
  have hsm : s.size ≤ 1099511627776 := by omega
  obtain ⟨F0, B0⟩ := ri_new w
  have HP := Lib.hid (fun (w : World) (v : Value) (RM : RowM w v M) (h1 : M.length ≤ 65535) (h2 : a ≤ s.size) => refTgaReadPx ok RM h1 hs h2 rfl)
  have HR := Lib.hid (fun w => refTgaReadC hsm w)
  rw [tgaRdV_none hf, hh] at HR
  have HM := Lib.hid (fun w => refTgaMapC (w := w) ok hs)
  unfold tRV tRdV at HR HM HP
  obtain ⟨mi, hmi⟩ : ∃ mi, (if h.map = true then (1 : Int) else 0) = mi := ⟨_, rfl⟩
  rw [hmi] at HR HM HP
  unfold tMapV at HP
  have HM2 : Hid (∀ w : World, Calls Tryz.prog 73 #[.string s, .agg #[.int .i64 (h.name : Int), .int .i64 mi, .int .i64 (h.typ : Int), .int .i64 (h.first : Int), .int .i64 (h.count : Int), .int .i64 (h.entry : Int), .int .i64 (h.W : Int), .int .i64 (h.H : Int), .int .i64 (h.depth : Int), .int .i64 (h.alpha : Int), .bool h.left, .bool h.top, .int .i64 0, .int .i64 0]] w fun e w' => ∃ va vn vc, e = .returned (.agg #[.int .i64 (a : Int), .slice va vn vc, .int .i64 0, .int .i64 0]) ∧ Below w.heap.size w w' ∧ RowM w' (.slice va vn vc) M ∧ M.length ≤ 65535 ∧ a ≤ s.size) := Lib.hid (fun w => (HM.out w).mono (by
    rintro e w' ⟨b, ⟨k', a', h1, _, rfl⟩ | ⟨a', M', v, h1, h2, h3, rfl, RM⟩⟩
    · rw [hm] at h1; cases h1
    · rw [hm] at h1
      cases h1
      obtain ⟨va, vn, vc, rfl⟩ : ∃ a n c, v = .slice a n c := by
        rcases RM with ⟨rfl, _⟩ | ⟨g, cap, rfl, _, _⟩
        · exact ⟨_, _, _, rfl⟩
        · exact ⟨_, _, _, rfl⟩
      exact ⟨va, vn, vc, rfl, b, RM, h3, h2⟩))
  clear HM hf hh hmi hm
  generalize tgaPixR s h M a = D at HP ⊢
  go_enter Tryz.func25, Tryz.ntmps25
  go_upto_region 2 with (go_at_call 72; refine (HR.out _).mono ?_; rintro e w1 ⟨rfl, b1⟩)
  have A1 : RI (w1.alloc (.cells #[.int .i64 (h.name : Int), .int .i64 mi, .int .i64 (h.typ : Int), .int .i64 (h.first : Int), .int .i64 (h.count : Int), .int .i64 (h.entry : Int), .int .i64 (h.W : Int), .int .i64 (h.H : Int), .int .i64 (h.depth : Int), .int .i64 (h.alpha : Int), .bool h.left, .bool h.top, .int .i64 0, .int .i64 0] 133)) w.heap.size 0 0 (.slice none 0 0) 0 0 := Blk.alloc (Blk.below F0 b1 (Blk.lt F0)) _
  have X1 : Blk (w1.alloc (.cells #[.int .i64 (h.name : Int), .int .i64 mi, .int .i64 (h.typ : Int), .int .i64 (h.first : Int), .int .i64 (h.count : Int), .int .i64 (h.entry : Int), .int .i64 (h.W : Int), .int .i64 (h.H : Int), .int .i64 (h.depth : Int), .int .i64 (h.alpha : Int), .bool h.left, .bool h.top, .int .i64 0, .int .i64 0] 133)) w1.heap.size 133 (tHdD h mi) := Blk.new _ _ _
  have B1 : Below w.heap.size w (w1.alloc (.cells #[.int .i64 (h.name : Int), .int .i64 mi, .int .i64 (h.typ : Int), .int .i64 (h.first : Int), .int .i64 (h.count : Int), .int .i64 (h.entry : Int), .int .i64 (h.W : Int), .int .i64 (h.H : Int), .int .i64 (h.depth : Int), .int .i64 (h.alpha : Int), .bool h.left, .bool h.top, .int .i64 0, .int .i64 0] 133)) := (below_next B0 b1).alloc (below_next B0 b1).size _
  clear b1
  generalize (w1.alloc (.cells #[.int .i64 (h.name : Int), .int .i64 mi, .int .i64 (h.typ : Int), .int .i64 (h.first : Int), .int .i64 (h.count : Int), .int .i64 (h.entry : Int), .int .i64 (h.W : Int), .int .i64 (h.H : Int), .int .i64 (h.depth : Int), .int .i64 (h.alpha : Int), .bool h.left, .bool h.top, .int .i64 0, .int .i64 0] 133)) = w2 at A1 X1 B1 ⊢
  generalize w1.heap.size = ph at X1 ⊢
  have x0 : w2.cell? ⟨ph, 0, none⟩ = some (.int .i64 (h.name : Int)) := Blk.cell X1 0
  have x1 : w2.cell? ⟨ph, 1, none⟩ = some (.int .i64 mi) := Blk.cell X1 1
  have x2 : w2.cell? ⟨ph, 2, none⟩ = some (.int .i64 (h.typ : Int)) := Blk.cell X1 2
  have x3 : w2.cell? ⟨ph, 3, none⟩ = some (.int .i64 (h.first : Int)) := Blk.cell X1 3
  have x4 : w2.cell? ⟨ph, 4, none⟩ = some (.int .i64 (h.count : Int)) := Blk.cell X1 4
  have x5 : w2.cell? ⟨ph, 5, none⟩ = some (.int .i64 (h.entry : Int)) := Blk.cell X1 5
  have x6 : w2.cell? ⟨ph, 6, none⟩ = some (.int .i64 (h.W : Int)) := Blk.cell X1 6
  have x7 : w2.cell? ⟨ph, 7, none⟩ = some (.int .i64 (h.H : Int)) := Blk.cell X1 7
  have x8 : w2.cell? ⟨ph, 8, none⟩ = some (.int .i64 (h.depth : Int)) := Blk.cell X1 8
  have x9 : w2.cell? ⟨ph, 9, none⟩ = some (.int .i64 (h.alpha : Int)) := Blk.cell X1 9
  have x10 : w2.cell? ⟨ph, 10, none⟩ = some (.bool h.left) := Blk.cell X1 10
  have x11 : w2.cell? ⟨ph, 11, none⟩ = some (.bool h.top) := Blk.cell X1 11
  have x12 : w2.cell? ⟨ph, 12, none⟩ = some (.int .i64 0) := Blk.cell X1 12
  have x13 : w2.cell? ⟨ph, 13, none⟩ = some (.int .i64 0) := Blk.cell X1 13
  have HK := Lib.hid (And.intro A1 (And.intro X1 B1))
  clear A1 X1 B1
  go_upto_region 5 with (go_at_call 73; refine (HM2.out _).mono ?_; rintro e w3 ⟨va, vn, vc, rfl, b3, RM, hml, hale⟩)
  have A3 : RI (w3.alloc (.cells #[.int .i64 (a : Int), .slice va vn vc, .int .i64 0, .int .i64 0] 136)) w.heap.size 0 0 (.slice none 0 0) 0 0 := Blk.alloc (Blk.below HK.out.1 b3 (Blk.lt HK.out.1)) _
  have X3 : Blk (w3.alloc (.cells #[.int .i64 (a : Int), .slice va vn vc, .int .i64 0, .int .i64 0] 136)) ph 133 (tHdD h mi) := Blk.alloc (Blk.below HK.out.2.1 b3 (Blk.lt HK.out.2.1)) _
  have B3 : Below w.heap.size w (w3.alloc (.cells #[.int .i64 (a : Int), .slice va vn vc, .int .i64 0, .int .i64 0] 136)) := (below_next HK.out.2.2 b3).alloc (below_next HK.out.2.2 b3).size _
  have M3 : Blk (w3.alloc (.cells #[.int .i64 (a : Int), .slice va vn vc, .int .i64 0, .int .i64 0] 136)) w3.heap.size 136 #[.int .i64 (a : Int), .slice va vn vc, .int .i64 0, .int .i64 0] := Blk.new _ _ _
  have R3 : RowM (w3.alloc (.cells #[.int .i64 (a : Int), .slice va vn vc, .int .i64 0, .int .i64 0] 136)) (.slice va vn vc) M := RM.below ((Below.refl _ _).alloc (Nat.le_refl _) _)
  clear RM b3 HK x0 x1 x2 x3 x4 x5 x6 x7 x8 x9 x10 x11 x12 x13
  generalize (w3.alloc (.cells #[.int .i64 (a : Int), .slice va vn vc, .int .i64 0, .int .i64 0] 136)) = w4 at A3 B3 M3 X3 R3 ⊢
  generalize w3.heap.size = pm at M3 ⊢
  have m0 : w4.cell? ⟨pm, 0, none⟩ = some (.int .i64 (a : Int)) := Blk.cell M3 0
  have m1 : w4.cell? ⟨pm, 1, none⟩ = some (.slice va vn vc) := Blk.cell M3 1
  have m2 : w4.cell? ⟨pm, 2, none⟩ = some (.int .i64 0) := Blk.cell M3 2
  have m3 : w4.cell? ⟨pm, 3, none⟩ = some (.int .i64 0) := Blk.cell M3 3
  have x0 : w4.cell? ⟨ph, 0, none⟩ = some (.int .i64 (h.name : Int)) := Blk.cell X3 0
  have x1 : w4.cell? ⟨ph, 1, none⟩ = some (.int .i64 mi) := Blk.cell X3 1
  have x2 : w4.cell? ⟨ph, 2, none⟩ = some (.int .i64 (h.typ : Int)) := Blk.cell X3 2
  have x3 : w4.cell? ⟨ph, 3, none⟩ = some (.int .i64 (h.first : Int)) := Blk.cell X3 3
  have x4 : w4.cell? ⟨ph, 4, none⟩ = some (.int .i64 (h.count : Int)) := Blk.cell X3 4
  have x5 : w4.cell? ⟨ph, 5, none⟩ = some (.int .i64 (h.entry : Int)) := Blk.cell X3 5
  have x6 : w4.cell? ⟨ph, 6, none⟩ = some (.int .i64 (h.W : Int)) := Blk.cell X3 6
  have x7 : w4.cell? ⟨ph, 7, none⟩ = some (.int .i64 (h.H : Int)) := Blk.cell X3 7
  have x8 : w4.cell? ⟨ph, 8, none⟩ = some (.int .i64 (h.depth : Int)) := Blk.cell X3 8
  have x9 : w4.cell? ⟨ph, 9, none⟩ = some (.int .i64 (h.alpha : Int)) := Blk.cell X3 9
  have x10 : w4.cell? ⟨ph, 10, none⟩ = some (.bool h.left) := Blk.cell X3 10
  have x11 : w4.cell? ⟨ph, 11, none⟩ = some (.bool h.top) := Blk.cell X3 11
  have x12 : w4.cell? ⟨ph, 12, none⟩ = some (.int .i64 0) := Blk.cell X3 12
  have x13 : w4.cell? ⟨ph, 13, none⟩ = some (.int .i64 0) := Blk.cell X3 13
  clear M3 X3
  go_wp2_with (go_at_call 74; refine (HP.out _ _ R3 hml hale).mono ?_; rintro e w5 ⟨b5, hD⟩; have f5 : RI w5 w.heap.size 0 0 (.slice none 0 0) 0 0 := Blk.below A3 b5 (Blk.lt A3); have B5 := below_next B3 b5; have hle := B3.size; obtain ⟨W, H, ra, rn, rc, k, i, rfl, hDn⟩ := refPost_form hD; obtain ⟨c0, c1, c2, c3, c4, z0, z1, z2, z3, z4, fl⟩ := RI.all f5; have HD := Lib.hid hDn; clear hD hDn)
  exact bodyPost_ret (v := .agg #[.int .i64 W, .int .i64 H, .slice ra rn rc, .int .i64 k, .int .i64 i]) (by simp [results, Tryz.results25, go_sem, c0, c1, c2, c3, c4]) rfl (HD.out.post f5 hle (Below.st5 B5 (Nat.le_refl _)))
theorem refTgaDecode {s : ByteArray} (hs : s.size ≤ 100000) (w : World) : Calls Tryz.prog 25 #[.string s] w fun e w' => RefPost (tgaDec s).told w w' e := by
  have hsm : s.size ≤ 1099511627776 := by omega
  cases tgaTold_is s with
  | bad k a hk h4 hf t u =>
    rw [t]
    refine (refTgaDec_bad hk hf hsm w).mono ?_
    rintro e w' ⟨h1, h2⟩
    exact ⟨h2, h1⟩
  | body hf t u =>
    rw [t]
    unfold tgaRef
    cases hm : tgaMapR s (tgaHd s) with
    | inl g =>
      refine (refTgaDec_map (tgaFault_none hf) hf rfl (k := g.1) (a := g.2) hm hs w).mono ?_
      rintro e w' ⟨h1, h2⟩
      exact ⟨h2, h1⟩
    | inr p => exact refTgaDec_ok (tgaFault_none hf) hf rfl (a := p.1) (M := p.2) hm hs w
/-- a run by the wide budget, of a file whose sides are small -/
theorem tgaRunW {s : ByteArray} (hsm : s.size ≤ 1099511627776) (hw : (tgaSides s).1 ≤ 60) (hh : (tgaSides s).2.1 ≤ 60) (hn : (tgaSides s).2.2 ≤ 300) (w : World) :
    Calls Tryz.prog 10 #[.string s, .agg #[.int .i64 16384, .int .i64 16384, .int .i64 262144, .int .i64 1048576], .func (.func 24) #[] #[]] w fun e w' => ∃ g y, LedAt w' g y ∧ y.bytes = ((tgaDec s).told.kept : Int) ∧ Below w.heap.size w w' ∧
      ((∃ k a : Nat, k ≠ 0 ∧ (tgaDec s).told = .bad k a ∧ e = .returned (.tuple #[.agg #[.int .i64 0, .int .i64 0, .slice none 0 0], .agg #[.int .i64 (k : Int), .int .i64 2, .int .i64 (a : Int)], .pointer (some ⟨g, 0, none⟩)])) ∨
       (∃ (W H : Nat) (l : List UInt8) (d : Nat), (tgaDec s).told = .img W H l ∧ e = .returned (.tuple #[.agg #[.int .i64 (W : Int), .int .i64 (H : Int), .slice (some ⟨d, 0, none⟩) l.length l.length], .agg #[.int .i64 0, .int .i64 0, .int .i64 0], .pointer (some ⟨g, 0, none⟩)]) ∧ BytesAt w' (some ⟨d, 0, none⟩) l.length l)) := by
  obtain ⟨hc, hm⟩ := tgaDec_enough s hw hh hn
  obtain ⟨y0, r0, _, rb⟩ := wide_run (tgaDec_bal s) hm (by omega)
  refine (run15 (F := 24) (fm := 2) (D := tgaDec s) XW_new XW_ok rfl hsm (fun p w => by kernel_rfl) (fun w p g h l => tgaDecodeC h l hsm XW_ok rfl) w).mono ?_
  rintro e w' ⟨g, y, l, yok, gn, bl, hor⟩
  rw [r0] at hor
  rcases hor with ⟨k, a, hk, hr, rfl⟩ | ⟨W, H, l', d, hr, rfl, hb⟩
  · injection hr with h1 h2
    exact ⟨g, y, l, by rw [← h1]; exact rb, bl, .inl ⟨k, a, hk, h2, rfl⟩⟩
  · injection hr with h1 h2
    exact ⟨g, y, l, by rw [← h1]; exact rb, bl, .inr ⟨W, H, l', d, h2, rfl, hb⟩⟩
end Go.Proofs.YtlehkgkomjojmaaGreat
