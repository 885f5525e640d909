/- An image's bytes; are two images one? -/
import Derived.Test.YtfgcbhcfekonnaaRasImg
namespace Go.Proofs.Ytfgcbhcfekonnaa
open Go.RowKit
set_option linter.unusedVariables false
set_option linter.unusedSimpArgs false

/-- the bytes that a slice reads -/
def BytesAt (w : World) (a : Option Addr) (n : Nat) (l : List UInt8) : Prop :=
  n = l.length ∧ (n = 0 ∨ ∃ b off, a = some ⟨b, off, none⟩ ∧ ∀ j (hj : j < l.length), w.cell? ⟨b, off + j, none⟩ = some (.int .u8 (l[j].toNat : Int)))
theorem addrAdd (b off j : Nat) : (⟨b, off, none⟩ : Addr).add j = ⟨b, off + j, none⟩ := by
  unfold Addr.add
  split
  · rename_i h; subst h; rfl
  · rfl
theorem bytesText {w : World} {a : Option Addr} {n : Nat} {l : List UInt8} (h : BytesAt w a n l) (c : Nat) : (convert 44 9 (.slice a n c)).run Try.prog w = .ok (.string (strOf l)) w := by
  obtain ⟨rfl, h0 | ⟨b, off, rfl, hc⟩⟩ := h
  · obtain rfl : l = [] := List.eq_nil_of_length_eq_zero h0
    cases a with
    | none => exact (show (convert 44 9 (.slice none 0 c)).run Try.prog w = .ok (.string (strOf [])) w by kernel_rfl)
    | some ad => exact run_convert_bytes_back (P := Try.prog) w 44 9 5 ad c [] Try.underlying44 Try.underlying5 Try.underlying9 (fun j hj => absurd hj (by simp))
  · exact run_convert_bytes_back (P := Try.prog) w 44 9 5 ⟨b, off, none⟩ c l Try.underlying44 Try.underlying5 Try.underlying9 (fun j hj => by rw [addrAdd]; exact hc j hj)
theorem BytesAt.below {w w' : World} {a : Option Addr} {n : Nat} {l : List UInt8} (h : BytesAt w a n l) (hb : Below w.heap.size w w') : BytesAt w' a n l := by
  obtain ⟨h1, h0 | ⟨b, off, rfl, hc⟩⟩ := h
  · exact ⟨h1, .inl h0⟩
  · exact ⟨h1, .inr ⟨b, off, rfl, fun j hj => (hb.cell (p := ⟨b, off + j, none⟩) (World.block_lt_of_cell? w _ (hc j hj))).trans (hc j hj)⟩⟩
theorem BytesAt.alloc {w : World} {a : Option Addr} {n : Nat} {l : List UInt8} (h : BytesAt w a n l) (ob : Obj) : BytesAt (w.alloc ob) a n l := h.below ((Below.refl _ _).alloc (Nat.le_refl _) _)
theorem strOf_eq_iff {l m : List UInt8} : strOf l = strOf m ↔ l = m := ⟨strOf_inj, fun h => by rw [h]⟩
theorem textInj {s t : ByteArray} (e : s.toList = t.toList) : s = t := by
  rw [ByteArray.toList_eq, ByteArray.toList_eq] at e
  rw [← strOf_of s, ← strOf_of t, e]
theorem textEq (s t : ByteArray) : (s.toList == t.toList) = decide (s = t) := by
  by_cases q : s = t
  · subst q; simp
  · rw [decide_eq_false q]
    exact beq_eq_false_iff_ne.2 fun e => q (textInj e)
theorem bytesEqual {w : World} {a a' : Option Addr} {n n' c c' : Nat} {l m : List UInt8} (h1 : BytesAt w a n l) (h2 : BytesAt w a' n' m) :
    Calls Try.prog 72 #[.slice a n c, .slice a' n' c'] w fun e w' => e = .returned (.bool (decide (l = m))) ∧ w = w' := by
  have e1 := bytesText h1 c
  have e2 := bytesText h2 c'
  obtain ⟨s1, hs1⟩ : ∃ s, s = strOf l := ⟨_, rfl⟩
  obtain ⟨s2, hs2⟩ : ∃ s, s = strOf m := ⟨_, rfl⟩
  rw [← hs1] at e1
  rw [← hs2] at e2
  have HS := Lib.hid (show decide (l = m) = decide (s1 = s2) by rw [hs1, hs2]; exact decide_eq_decide.2 strOf_eq_iff.symm)
  clear h1 h2 hs1 hs2
  rw [HS.out]
  go_enter Try.func72, Try.ntmps72
  go_wp2_with fail
  go_ret
  exact ⟨ret1 (vbool (textEq s1 s2)), rfl⟩
/-- are two images one? -/
def SameP (W H W2 H2 : Int) (l m : List UInt8) : Prop := W = W2 ∧ H = H2 ∧ l = m
instance (W H W2 H2 : Int) (l m : List UInt8) : Decidable (SameP W H W2 H2 l m) := by unfold SameP; infer_instance
theorem same_any {w : World} {W H W2 H2 : Int} {a a' : Option Addr} {n n' c c' : Nat} {l m : List UInt8} (h1 : BytesAt w a n l) (h2 : BytesAt w a' n' m) :
    Calls Try.prog 33 #[.agg #[.int .i64 W, .int .i64 H, .slice a n c], .agg #[.int .i64 W2, .int .i64 H2, .slice a' n' c']] w fun e w' => e = .returned (.bool (decide (SameP W H W2 H2 l m))) ∧ Below w.heap.size w w' := by
  by_cases hW : W = W2
  · subst hW
    by_cases hH : H = H2
    · subst hH
      rw [show decide (SameP W H W H l m) = decide (l = m) by unfold SameP; simp]
      have HE := Lib.hid (fun (w' : World) (b1 : BytesAt w' a n l) (b2 : BytesAt w' a' n' m) => bytesEqual (c := c) (c' := c') b1 b2)
      have H1 := Lib.hid h1
      have H2' := Lib.hid h2
      clear h1 h2
      go_enter Try.func33, Try.ntmps33
      go_wp2_with (go_at_call 72; refine (HE.out _ ((H1.out.alloc _).alloc _) ((H2'.out.alloc _).alloc _)).mono ?_; rintro e w9 ⟨rfl, rfl⟩)
      go_ret
      exact ⟨rfl, ((Below.refl _ _).alloc (Nat.le_refl _) _).alloc (by simp) _⟩
    · rw [decide_eq_false (fun q : SameP W H W H2 l m => hH q.2.1)]
      have hb : (H == H2) = false := beq_eq_false_iff_ne.2 hH
      clear h1 h2
      go_enter Try.func33, Try.ntmps33
      go_wp2_with fail
      go_ret
      exact ⟨rfl, ((Below.refl _ _).alloc (Nat.le_refl _) _).alloc (by simp) _⟩
  · rw [decide_eq_false (fun q : SameP W H W2 H2 l m => hW q.1)]
    have hb : (W == W2) = false := beq_eq_false_iff_ne.2 hW
    clear h1 h2
    go_enter Try.func33, Try.ntmps33
    go_wp2_with fail
    go_ret
    exact ⟨rfl, ((Below.refl _ _).alloc (Nat.le_refl _) _).alloc (by simp) _⟩
theorem refSame7_any {w : World} {W H W2 H2 : Int} {a a' : Option Addr} {n n' c c' : Nat} {l m : List UInt8} (h1 : BytesAt w a n l) (h2 : BytesAt w a' n' m) :
    Calls Try.prog 29 #[.agg #[.int .i64 W, .int .i64 H, .slice a n c], .agg #[.int .i64 W2, .int .i64 H2, .slice a' n' c']] w fun e w' => e = .returned (.bool (decide (SameP W H W2 H2 l m))) ∧ Below w.heap.size w w' := by
  by_cases hW : W = W2
  · subst hW
    by_cases hH : H = H2
    · subst hH
      obtain ⟨s1, hs1⟩ : ∃ s, s = strOf l := ⟨_, rfl⟩
      obtain ⟨s2, hs2⟩ : ∃ s, s = strOf m := ⟨_, rfl⟩
      rw [show decide (SameP W H W H l m) = decide (s1 = s2) by unfold SameP; rw [hs1, hs2]; simp [strOf_eq_iff]]
      have e1 := bytesText ((h1.alloc (.cells #[.int .i64 W, .int .i64 H, .slice a n c] 46)).alloc (.cells #[.int .i64 W, .int .i64 H, .slice a' n' c'] 46)) c
      have e2 := bytesText ((h2.alloc (.cells #[.int .i64 W, .int .i64 H, .slice a n c] 46)).alloc (.cells #[.int .i64 W, .int .i64 H, .slice a' n' c'] 46)) c'
      rw [← hs1] at e1
      rw [← hs2] at e2
      clear h1 h2 hs1 hs2
      go_enter Try.func29, Try.ntmps29
      go_wp2_with fail
      go_ret
      exact ⟨ret1 (vbool (textEq s1 s2)), ((Below.refl _ _).alloc (Nat.le_refl _) _).alloc (by simp) _⟩
    · rw [decide_eq_false (fun q : SameP W H W H2 l m => hH q.2.1)]
      have hb : (H == H2) = false := beq_eq_false_iff_ne.2 hH
      clear h1 h2
      go_enter Try.func29, Try.ntmps29
      go_wp2_with fail
      go_ret
      exact ⟨rfl, ((Below.refl _ _).alloc (Nat.le_refl _) _).alloc (by simp) _⟩
  · rw [decide_eq_false (fun q : SameP W H W2 H2 l m => hW q.1)]
    have hb : (W == W2) = false := beq_eq_false_iff_ne.2 hW
    clear h1 h2
    go_enter Try.func29, Try.ntmps29
    go_wp2_with fail
    go_ret
    exact ⟨rfl, ((Below.refl _ _).alloc (Nat.le_refl _) _).alloc (by simp) _⟩
end Go.Proofs.Ytfgcbhcfekonnaa
