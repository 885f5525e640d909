/- The document's Sides of a file of TGA's; runs by the wide budget, by any budget. -/
import Derived.Test.YtccldalagbfmhaaGreatKTgaN2
import Derived.Test.YtccldalagbfmhaaGreatKTgaT
import Derived.Test.YtccldalagbfmhaaGreatKFfM
namespace Go.Proofs.YtccldalagbfmhaaGreat
open Go.RowKit
set_option linter.unusedVariables false
set_option linter.unusedSimpArgs false

theorem tgaFault_some {s : ByteArray} {f : Nat × Nat} (h : tgaFault s = some f) : f.1 ≠ 0 ∧ f.1 ≠ 4 := by
  unfold tgaFault at h
  by_cases h1 : s.size < 18
  · rw [if_pos h1] at h; cases h; exact ⟨by simp, by simp⟩
  · rw [if_neg h1] at h; exact ⟨(tgaHead_some h).1, (tgaHead_some h).2.1⟩
section
variable {s : ByteArray} {h : TgaHd} {M : List Qc}
theorem tgaNextR_bad {t a : Nat} {L : List Qc} {g : Nat × Nat} (e : tgaNextR s h M t a L = .inl g) : g.1 ≠ 0 ∧ g.1 ≠ 4 := by
  unfold tgaNextR at e
  by_cases h1 : a + h.size ≤ s.size
  · rw [if_pos h1] at e
    cases hp : tgaPixel s h M a with
    | inl g' => rw [hp] at e; cases e; rw [tgaPixel_bad hp]; exact ⟨by simp, by simp⟩
    | inr q => rw [hp] at e; cases e
  · rw [if_neg h1] at e; cases e; exact ⟨by simp, by simp⟩
theorem tgaRawR_bad : ∀ n a L {g : Nat × Nat}, tgaRawR s h M n a L = .inl g → g.1 ≠ 0 ∧ g.1 ≠ 4 := by
  intro n
  induction n with
  | zero => intro a L g e; cases e
  | succ n ih =>
    intro a L g e
    unfold tgaRawR at e
    cases hx : tgaNextR s h M 1 a L with
    | inl g' => rw [hx] at e; cases e; exact tgaNextR_bad hx
    | inr p => rw [hx] at e; exact ih _ _ e
theorem tgaPkR_bad {N : Nat} : ∀ f a L {g : Nat × Nat}, tgaPkR s h M N f a L = .inl g → g.1 ≠ 0 ∧ g.1 ≠ 4 := by
  intro f
  induction f with
  | zero => intro a L g e; cases e
  | succ f ih =>
    intro a L g e
    unfold tgaPkR at e
    by_cases h0 : N ≤ L.length
    · rw [if_pos h0] at e; cases e
    · rw [if_neg h0] at e
      by_cases h1 : a + 1 ≤ s.size
      · rw [if_pos h1] at e
        by_cases h2 : N - L.length < bat s a % 128 + 1
        · rw [if_pos h2] at e; cases e; exact ⟨by simp, by simp⟩
        · rw [if_neg h2] at e
          by_cases h3 : 128 ≤ bat s a
          · rw [if_pos h3] at e
            cases hx : tgaNextR s h M (bat s a % 128 + 1) (a + 1) L with
            | inl g' => rw [hx] at e; cases e; exact tgaNextR_bad hx
            | inr p => rw [hx] at e; exact ih _ _ e
          · rw [if_neg h3] at e
            cases hx : tgaRawR s h M (bat s a % 128 + 1) (a + 1) L with
            | inl g' => rw [hx] at e; cases e; exact tgaRawR_bad _ _ _ hx
            | inr p => rw [hx] at e; exact ih _ _ e
      · rw [if_neg h1] at e; cases e; exact ⟨by simp, by simp⟩
theorem tgaPixR_ways {a : Nat} : (∃ k b : Nat, k ≠ 0 ∧ k ≠ 4 ∧ tgaPixR s h M a = .bad k b) ∨ ∃ l, tgaPixR s h M a = .img h.W h.H l := by
  unfold tgaPixR
  by_cases hp : TgaPacked h.typ
  · rw [if_pos hp]
    cases hx : tgaPkR s h M (h.W * h.H) (h.W * h.H) a [] with
    | inl g => exact .inl ⟨g.1, g.2, (tgaPkR_bad _ _ _ hx).1, (tgaPkR_bad _ _ _ hx).2, rfl⟩
    | inr L => exact .inr ⟨_, rfl⟩
  · rw [if_neg hp]
    cases hx : tgaRawR s h M (h.W * h.H) a [] with
    | inl g => exact .inl ⟨g.1, g.2, (tgaRawR_bad _ _ _ hx).1, (tgaRawR_bad _ _ _ hx).2, rfl⟩
    | inr p => exact .inr ⟨_, rfl⟩
theorem tgaMapR_bad {g : Nat × Nat} (e : tgaMapR s h = .inl g) : g.1 ≠ 0 ∧ g.1 ≠ 4 := by
  unfold tgaMapR at e
  split at e
  · split at e
    · cases e
    · split at e
      · cases e
      · cases e; exact ⟨by simp, by simp⟩
  · cases e; exact ⟨by simp, by simp⟩
theorem tgaRef_ways : (∃ k b : Nat, k ≠ 0 ∧ k ≠ 4 ∧ tgaRef s h = .bad k b) ∨ ∃ l, tgaRef s h = .img h.W h.H l := by
  unfold tgaRef
  cases hx : tgaMapR s h with
  | inl g => exact .inl ⟨g.1, g.2, (tgaMapR_bad hx).1, (tgaMapR_bad hx).2, rfl⟩
  | inr p => exact tgaPixR_ways
end
/-- the ways that a file is told -/
inductive TgaTold (s : ByteArray) : Prop where
  | bad (k a : Nat) (hk : k ≠ 0) (h4 : k ≠ 4) (hf : tgaFault s = some (k, a)) (t : (tgaDec s).told = .bad k a) (u : tgaSides s = (0, 0, 0)) : TgaTold s
  | body (hf : tgaFault s = none) (t : (tgaDec s).told = tgaRef s (tgaHd s)) (u : tgaSides s = ((tgaHd s).W, (tgaHd s).H, if (tgaHd s).mapped then (tgaHd s).count else 0)) : TgaTold s
theorem tgaTold_is (s : ByteArray) : TgaTold s := by
  cases hf : tgaFault s with
  | some f =>
    refine .bad f.1 f.2 (tgaFault_some hf).1 (tgaFault_some hf).2 hf ?_ ?_
    · rw [tgaDec_told, hf]
    · unfold tgaSides; rw [hf]
  | none =>
    refine .body hf ?_ ?_
    · rw [tgaDec_told, hf]
    · unfold tgaSides; rw [hf]
theorem tgaTold_ways {s : ByteArray} : (∃ k a : Nat, k ≠ 0 ∧ k ≠ 4 ∧ (tgaDec s).told = .bad k a) ∨ ∃ l, (tgaDec s).told = .img (tgaHd s).W (tgaHd s).H l := by
  cases tgaTold_is s with
  | bad k a hk h4 hf t u => exact .inl ⟨k, a, hk, h4, t⟩
  | body hf t u => rw [t]; exact tgaRef_ways
theorem tgaRdV_none {s : ByteArray} (h : tgaFault s = none) : tgaRdV s = tRV (tgaHd s) := by
  unfold tgaRdV; rw [h]
theorem OwnsQ.base_ {w : World} {b b' : Nat} {v : Value} {L : List Qc} (h : OwnsQ w b v L) (hb : b' ≤ b) : OwnsQ w b' v L := by
  refine ⟨h.1, ?_⟩
  rcases h.2 with h | ⟨r, cap, cur, hv, hr, hx⟩
  · exact .inl h
  · exact .inr ⟨r, cap, cur, hv, Nat.le_trans hb hr, hx⟩
set_option maxHeartbeats 2000000 in
theorem refTgaSides_bad {s : ByteArray} {k a : Nat} (hk : k ≠ 0) (hf : tgaFault s = some (k, a)) (hsm : s.size ≤ 1099511627776) (w : World) : Calls Tryz.prog 47 #[.string s] w fun e w' => e = .returned (.tuple #[.int .i64 0, .int .i64 0, .int .i64 0]) ∧ Below w.heap.size w w' := by
  have HR := Lib.hid (fun w => refTgaReadC hsm w)
  rw [tgaRdV_some hf] at HR
  unfold tRdV at HR
  have hkI : ¬ (k : Int) = 0 := by omega
  clear hf hk
  go_enter Tryz.func47, Tryz.ntmps47
  go_wp2_with (go_at_call 35; refine (HR.out _).mono ?_; rintro e w1 ⟨rfl, b1⟩)
  exact bodyPost_ret (v := .tuple #[.int .i64 0, .int .i64 0, .int .i64 0]) (by simp [results, Tryz.results47, go_sem]) rfl ⟨rfl, b1.alloc b1.size _⟩
set_option maxHeartbeats 2000000 in
theorem refTgaSides_1 {s : ByteArray} {h : TgaHd} (hf : tgaFault s = none) (hh : tgaHd s = h) (ht : h.typ = 1) (hsm : s.size ≤ 1099511627776) (w : World) : Calls Tryz.prog 47 #[.string s] w fun e w' => e = .returned (.tuple #[.int .i64 (h.W : Int), .int .i64 (h.H : Int), .int .i64 (h.count : Int)]) ∧ Below w.heap.size w w' := by
  have HR := Lib.hid (fun w => refTgaReadC hsm w)
  rw [tgaRdV_none hf, hh] at HR
  unfold tRV tRdV at HR
  obtain ⟨mi, hmi⟩ : ∃ mi, (if h.map = true then (1 : Int) else 0) = mi := ⟨_, rfl⟩
  rw [hmi] at HR
  have e1 : ((h.typ : Int) == 1) = true := by rw [beq_iff_eq]; omega
  clear ht
  clear hf hh hmi
  go_enter Tryz.func47, Tryz.ntmps47
  go_wp2_with (go_at_call 35; refine (HR.out _).mono ?_; rintro e w1 ⟨rfl, b1⟩)
  all_goals (try go_region)
  all_goals (try go_wp2_with fail)
  exact bodyPost_ret (v := .tuple #[.int .i64 (h.W : Int), .int .i64 (h.H : Int), .int .i64 (h.count : Int)]) (by simp [results, Tryz.results47, go_sem]) rfl ⟨rfl, (b1.alloc b1.size _).drew⟩
set_option maxHeartbeats 2000000 in
theorem refTgaSides_9 {s : ByteArray} {h : TgaHd} (hf : tgaFault s = none) (hh : tgaHd s = h) (ht : h.typ = 9) (hsm : s.size ≤ 1099511627776) (w : World) : Calls Tryz.prog 47 #[.string s] w fun e w' => e = .returned (.tuple #[.int .i64 (h.W : Int), .int .i64 (h.H : Int), .int .i64 (h.count : Int)]) ∧ Below w.heap.size w w' := by
  have HR := Lib.hid (fun w => refTgaReadC hsm w)
  rw [tgaRdV_none hf, hh] at HR
  unfold tRV tRdV at HR
  obtain ⟨mi, hmi⟩ : ∃ mi, (if h.map = true then (1 : Int) else 0) = mi := ⟨_, rfl⟩
  rw [hmi] at HR
  have e1 : ((h.typ : Int) == 1) = false := by rw [beq_eq_false_iff_ne]; omega
  have e9 : ((h.typ : Int) == 9) = true := by rw [beq_iff_eq]; omega
  clear ht
  clear hf hh hmi
  go_enter Tryz.func47, Tryz.ntmps47
  go_wp2_with (go_at_call 35; refine (HR.out _).mono ?_; rintro e w1 ⟨rfl, b1⟩)
  all_goals (try go_region)
  all_goals (try go_wp2_with fail)
  exact bodyPost_ret (v := .tuple #[.int .i64 (h.W : Int), .int .i64 (h.H : Int), .int .i64 (h.count : Int)]) (by simp [results, Tryz.results47, go_sem]) rfl ⟨rfl, (b1.alloc b1.size _).drew⟩
set_option maxHeartbeats 2000000 in
theorem refTgaSides_0 {s : ByteArray} {h : TgaHd} (hf : tgaFault s = none) (hh : tgaHd s = h) (h1 : h.typ ≠ 1) (h9 : h.typ ≠ 9) (hsm : s.size ≤ 1099511627776) (w : World) : Calls Tryz.prog 47 #[.string s] w fun e w' => e = .returned (.tuple #[.int .i64 (h.W : Int), .int .i64 (h.H : Int), .int .i64 0]) ∧ Below w.heap.size w w' := by
  have HR := Lib.hid (fun w => refTgaReadC hsm w)
  rw [tgaRdV_none hf, hh] at HR
  unfold tRV tRdV at HR
  obtain ⟨mi, hmi⟩ : ∃ mi, (if h.map = true then (1 : Int) else 0) = mi := ⟨_, rfl⟩
  rw [hmi] at HR
  have e1 : ((h.typ : Int) == 1) = false := by rw [beq_eq_false_iff_ne]; omega
  have e9 : ((h.typ : Int) == 9) = false := by rw [beq_eq_false_iff_ne]; omega
  clear h1 h9
  clear hf hh hmi
  go_enter Tryz.func47, Tryz.ntmps47
  go_wp2_with (go_at_call 35; refine (HR.out _).mono ?_; rintro e w1 ⟨rfl, b1⟩)
  all_goals (try go_region)
  all_goals (try go_wp2_with fail)
  exact bodyPost_ret (v := .tuple #[.int .i64 (h.W : Int), .int .i64 (h.H : Int), .int .i64 0]) (by simp [results, Tryz.results47, go_sem]) rfl ⟨rfl, (b1.alloc b1.size _).drew⟩
theorem refTgaSides {s : ByteArray} (hsm : s.size ≤ 1099511627776) (w : World) : Calls Tryz.prog 47 #[.string s] w fun e w' => e = .returned (.tuple #[.int .i64 ((tgaSides s).1 : Int), .int .i64 ((tgaSides s).2.1 : Int), .int .i64 ((tgaSides s).2.2 : Int)]) ∧ Below w.heap.size w w' := by
  cases tgaTold_is s with
  | bad k a hk h4 hf t u => rw [u]; exact refTgaSides_bad hk hf hsm w
  | body hf t u =>
    rw [u]
    by_cases h1 : (tgaHd s).typ = 1
    · rw [if_pos ((tgaMapped_iff _).1 (.inl h1))]; exact refTgaSides_1 hf rfl h1 hsm w
    · by_cases h9 : (tgaHd s).typ = 9
      · rw [if_pos ((tgaMapped_iff _).1 (.inr h9))]; exact refTgaSides_9 hf rfl h9 hsm w
      · rw [if_neg (fun e => ((tgaMapped_iff _).2 e).elim h1 h9)]; exact refTgaSides_0 hf rfl h1 h9 hsm w
/-- a run by the wide budget, of a file whose sides are small -/
theorem tgaRunW {s : ByteArray} (hsm : s.size ≤ 1099511627776) (hw : (tgaSides s).1 ≤ 60) (hh : (tgaSides s).2.1 ≤ 60) (hn : (tgaSides s).2.2 ≤ 300) (w : World) :
    Calls Tryz.prog 15 #[.string s, .agg #[.int .i64 16384, .int .i64 16384, .int .i64 262144, .int .i64 1048576], .func (.func 48) #[] #[]] w fun e w' => ∃ g y, LedAt w' g y ∧ y.bytes = ((tgaDec s).told.kept : Int) ∧ Below w.heap.size w w' ∧
      ((∃ k a : Nat, k ≠ 0 ∧ (tgaDec s).told = .bad k a ∧ e = .returned (.tuple #[.agg #[.int .i64 0, .int .i64 0, .slice none 0 0], .agg #[.int .i64 (k : Int), .int .i64 2, .int .i64 (a : Int)], .pointer (some ⟨g, 0, none⟩)])) ∨
       (∃ (W H : Nat) (l : List UInt8) (d : Nat), (tgaDec s).told = .img W H l ∧ e = .returned (.tuple #[.agg #[.int .i64 (W : Int), .int .i64 (H : Int), .slice (some ⟨d, 0, none⟩) l.length l.length], .agg #[.int .i64 0, .int .i64 0, .int .i64 0], .pointer (some ⟨g, 0, none⟩)]) ∧ BytesAt w' (some ⟨d, 0, none⟩) l.length l)) := by
  obtain ⟨hc, hm⟩ := tgaDec_enough s hw hh hn
  obtain ⟨y0, r0, _, rb⟩ := wide_run (tgaDec_bal s) hm (by omega)
  refine (run15 (F := 48) (fm := 2) (D := tgaDec s) XW_new XW_ok rfl hsm (fun p w => by kernel_rfl) (fun w p g h l => tgaDecodeC h l hsm XW_ok rfl) w).mono ?_
  rintro e w' ⟨g, y, l, yok, gn, bl, hor⟩
  rw [r0] at hor
  rcases hor with ⟨k, a, hk, hr, rfl⟩ | ⟨W, H, l', d, hr, rfl, hb⟩
  · injection hr with h1 h2
    exact ⟨g, y, l, by rw [← h1]; exact rb, bl, .inl ⟨k, a, hk, h2, rfl⟩⟩
  · injection hr with h1 h2
    exact ⟨g, y, l, by rw [← h1]; exact rb, bl, .inr ⟨W, H, l', d, h2, rfl, hb⟩⟩
theorem tgaRunG {s : ByteArray} {ba bb bc bd : Int} (hsm : s.size ≤ 1099511627776) (h1 : ba ≤ 9223372036854775807) (h2 : bb ≤ 9223372036854775807) (h3 : bc ≤ 9223372036854775807) (h4 : bd ≤ 9223372036854775807) (w : World) :
    Calls Tryz.prog 15 #[.string s, .agg #[.int .i64 ba, .int .i64 bb, .int .i64 bc, .int .i64 bd], .func (.func 48) #[] #[]] w fun e w' => ∃ g y, LedAt w' g y ∧ y.Ok ∧ y.B = nought bc ∧ y.S = nought bd ∧ Below w.heap.size w w' ∧ AnyRun 2 (tgaDec s) s.size w w' g y e := by
  refine (run15 (F := 48) (fm := 2) (D := tgaDec s) rfl (Led.ok_new h1 h2 h3 h4) rfl hsm (fun p w => by kernel_rfl) (fun w p g h l => tgaDecodeC h l hsm (Led.ok_new h1 h2 h3 h4) rfl) w).mono ?_
  intro e w' h
  exact anyRun (tgaDec_bal s) rfl rfl h
end Go.Proofs.YtccldalagbfmhaaGreat
