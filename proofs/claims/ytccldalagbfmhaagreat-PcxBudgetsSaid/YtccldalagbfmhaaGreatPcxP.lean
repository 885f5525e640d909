/- The document's head of a file of PCX's. -/
import Derived.Test.YtccldalagbfmhaaGreatPcxLaw
import Derived.Test.YtccldalagbfmhaaGreatPcxA
import Derived.Test.YtccldalagbfmhaaGreatFfRef
import Derived.Deep.RegionHeld3
import Derived.Deep.CutRange
import Derived.Deep.QuietTactic
namespace Go.Proofs.YtccldalagbfmhaaGreat
open Go.RowKit
set_option linter.unusedVariables false
set_option linter.unusedSimpArgs false

def hdP (W H d p l k a : Int) : Value := .agg #[.int .i64 W, .int .i64 H, .int .i64 d, .int .i64 p, .int .i64 l, .int .i64 k, .int .i64 a]
/-- what the document tells of a head -/
def pcxRdV (s : ByteArray) : Value := match pcxFault s with
  | some f => hdP 0 0 0 0 0 (f.1 : Int) (f.2 : Int)
  | none => hdP ((pcxHd s).W : Int) ((pcxHd s).H : Int) ((pcxHd s).bits : Int) ((pcxHd s).planes : Int) ((pcxHd s).line : Int) 0 0
theorem pcxHead_if (s : ByteArray) : pcxHead s = if bat s 0 ≠ 10 then some (2, 0) else if ¬ PcxVer (bat s 1) then some (3, 1) else if bat s 2 ≠ 1 then some (3, 2) else if pcxW s < 1 then some (2, 8) else if 16384 < pcxW s then some (3, 8) else if pcxH s < 1 then some (2, 10) else if 16384 < pcxH s then some (3, 10) else if ¬ PcxPair (bat s 3) (bat s 65) then some (3, 65) else if le2 s 66 < pcxNeed (pcxW s) (bat s 3) ∨ pcxNeed (pcxW s) (bat s 3) + 3 < le2 s 66 then some (2, 66) else none := by
  unfold pcxHead firstBad pcxChks
  by_cases h0 : bat s 0 = 10
  · by_cases h1 : PcxVer (bat s 1)
    · by_cases h2 : bat s 2 = 1
      · by_cases h3 : pcxW s < 1
        · simp [List.find?, h0, h1, h2, h3]
        · by_cases h4 : 16384 < pcxW s
          · simp [List.find?, h0, h1, h2, h3, h4]
          · by_cases h5 : pcxH s < 1
            · simp [List.find?, h0, h1, h2, h3, h4, h5]
            · by_cases h6 : 16384 < pcxH s
              · simp [List.find?, h0, h1, h2, h3, h4, h5, h6]
              · by_cases h7 : PcxPair (bat s 3) (bat s 65)
                · by_cases h8 : le2 s 66 < pcxNeed (pcxW s) (bat s 3) ∨ pcxNeed (pcxW s) (bat s 3) + 3 < le2 s 66
                  · simp [List.find?, h0, h1, h2, h3, h4, h5, h6, h7, h8]
                  · simp [List.find?, h0, h1, h2, h3, h4, h5, h6, h7, h8]
                · simp [List.find?, h0, h1, h2, h3, h4, h5, h6, h7]
      · simp [List.find?, h0, h1, h2]
    · simp [List.find?, h0, h1]
  · simp [List.find?, h0]
theorem refPcxBad (k a : Int) (w : World) : Calls Tryz.prog 148 #[.int .i64 k, .int .i64 a] w fun e w' => e = .returned (hdP 0 0 0 0 0 k a) ∧ Below w.heap.size w w' := by
  go_enter Tryz.func148, Tryz.ntmps148
  go_wp2_with fail
  exact bodyPost_ret (v := hdP 0 0 0 0 0 k a) (by simp [results, Tryz.results148, go_sem, hdP]) rfl ⟨rfl, (Below.refl _ _).alloc (Nat.le_refl _) _⟩
theorem refPcxVer (v : Nat) (w : World) : Calls Tryz.prog 34 #[.int .u8 (v : Int)] w fun e w' => e = .returned (.bool (decide (PcxVer v))) ∧ w = w' := by
  have e : ((v : Int) == 0 || (v : Int) == 2 || (v : Int) == 3 || (v : Int) == 4 || (v : Int) == 5) = decide (PcxVer v) := by
    rw [Bool.eq_iff_iff]
    simp only [Bool.or_eq_true, beq_iff_eq, decide_eq_true_eq]
    unfold PcxVer
    omega
  have E := Lib.hid (ret1 (congrArg Value.bool e))
  clear e
  by_cases h0 : (v : Int) = 0
  · go_enter Tryz.func34, Tryz.ntmps34
    go_wp2_with fail
    all_goals go_ret
    all_goals exact ⟨(by rw [← E.out]; simp_all), rfl⟩
  · go_enter Tryz.func34, Tryz.ntmps34
    go_wp2_with fail
    all_goals go_ret
    all_goals exact ⟨(by rw [← E.out]; simp_all), rfl⟩
theorem refPcxPair (b p : Nat) (w : World) : Calls Tryz.prog 54 #[.int .i64 (b : Int), .int .i64 (p : Int)] w fun e w' => e = .returned (.bool (decide (PcxPair b p))) ∧ w = w' := by
  have e : ((b : Int) == 8 && (p : Int) == 3 || (b : Int) == 8 && (p : Int) == 1 || (b : Int) == 1 && (p : Int) == 1 || (b : Int) == 1 && (p : Int) == 4) = decide (PcxPair b p) := by
    rw [Bool.eq_iff_iff]
    simp only [Bool.or_eq_true, Bool.and_eq_true, beq_iff_eq, decide_eq_true_eq]
    unfold PcxPair
    omega
  have E := Lib.hid (ret1 (congrArg Value.bool e))
  clear e
  go_enter Tryz.func54, Tryz.ntmps54
  go_wp2_with fail
  all_goals go_ret
  all_goals exact ⟨(by rw [← E.out]; simp_all), rfl⟩
theorem refPcxNeed {W b : Nat} (hW : W ≤ 65536) (hb : b = 8 ∨ b = 1) (w : World) : Calls Tryz.prog 149 #[.int .i64 (W : Int), .int .i64 (b : Int)] w fun e w' => e = .returned (.int .i64 (((W * b + 7) / 8 : Nat) : Int)) ∧ w = w' := by
  rcases hb with rfl | rfl
  · have e : (W * 8 + 7) / 8 = W := by omega
    rw [e]
    clear e
    go_enter Tryz.func149, Tryz.ntmps149
    go_wp2_with fail
    go_ret
    exact ⟨rfl, rfl⟩
  · obtain ⟨z, hz⟩ : ∃ z, (W * 1 + 7) / 8 = z := ⟨_, rfl⟩
    rw [hz]
    have hzI : ((W : Int) + 7) / 8 = (z : Int) := by omega
    have hzT : ((W : Int) + 7).tdiv 8 = (z : Int) := by rw [Int.tdiv_eq_ediv_of_nonneg (by omega)]; exact hzI
    have hWI : (W : Int) ≤ 65536 := by omega
    clear hz
    go_enter Tryz.func149, Tryz.ntmps149
    go_wp2_with fail
    go_ret
    exact ⟨rfl, rfl⟩
theorem refLe2 {s : ByteArray} {a v : Nat} (h : a + 2 ≤ s.size) (hv : le2 s a = v) (w : World) : Calls Tryz.prog 83 #[.string (s.extract a (a + 2))] w fun e w' => e = .returned (.int .i64 (v : Int)) ∧ w = w' := by
  have hz := extract_size s a 2 h
  have b0 : bat (s.extract a (a + 2)) 0 = bat s a := by rw [bat_extract s a 2 0 (by omega), Nat.add_zero]
  have b1 : bat (s.extract a (a + 2)) 1 = bat s (a + 1) := bat_extract s a 2 1 (by omega)
  generalize s.extract a (a + 2) = t at hz b0 b1 ⊢
  have n0 : 0 < t.size := by omega
  have n1 : 1 < t.size := by omega
  have i0 : (0 : Int) < (t.size : Int) := by omega
  have i1 : (1 : Int) < (t.size : Int) := by omega
  obtain ⟨x0, hx0⟩ : ∃ x, t[0].toNat = x := ⟨_, rfl⟩
  obtain ⟨x1, hx1⟩ : ∃ x, t[1].toNat = x := ⟨_, rfl⟩
  have l0 : x0 < 256 := by rw [← hx0]; exact UInt8.toNat_lt _
  have l1 : x1 < 256 := by rw [← hx1]; exact UInt8.toNat_lt _
  have hvv : v = x0 + 256 * x1 := by rw [← hv]; unfold le2; rw [← b0, ← b1, bat_eq n0, bat_eq n1, hx0, hx1]
  have hzI : (t.size : Int) - 1 = 1 := by omega
  have l0I : (x0 : Int) < 256 := by omega
  have l1I : (x1 : Int) < 256 := by omega
  have hvI : 256 * (x1 : Int) + (x0 : Int) = (v : Int) := by omega
  clear hv b0 b1 l0 l1 hvv h
  go_enter Tryz.func83, Tryz.ntmps83
  go_wp2_with fail
  go_loopg [3, 4] 2 (fun gh v2 v3 wr => wr = w ∧ ((gh = 2 ∧ v2 = .int .i64 0 ∧ v3 = .int .i64 1) ∨ (gh = 1 ∧ v2 = .int .i64 (x1 : Int) ∧ v3 = .int .i64 0) ∨ (gh = 0 ∧ v2 = .int .i64 (v : Int) ∧ v3 = .int .i64 (-1))))
  case atStart => exact ⟨rfl, .inl ⟨rfl, rfl, rfl⟩⟩
  case round =>
    obtain ⟨rfl, ⟨rfl, rfl, rfl⟩ | ⟨rfl, rfl, rfl⟩ | ⟨rfl, rfl, rfl⟩⟩ := hrel
    · go_wp2_with fail
      go_roundg 1
      case measure => decide
      case rel => exact ⟨rfl, .inr (.inl ⟨rfl, rfl, rfl⟩)⟩
    · go_wp2_with fail
      go_roundg 0
      case measure => decide
      case rel => exact ⟨rfl, .inr (.inr ⟨rfl, rfl, rfl⟩)⟩
    · go_wp2_with fail
      go_ret
      exact ⟨rfl, rfl⟩
end Go.Proofs.YtccldalagbfmhaaGreat
