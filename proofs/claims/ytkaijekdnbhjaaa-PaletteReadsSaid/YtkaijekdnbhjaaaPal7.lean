/- The law PaletteReads, of whatever is handed in. -/
import Derived.Test.YtkaijekdnbhjaaaPal6
namespace Go.Proofs.Ytkaijekdnbhjaaa
open Go.RowKit
set_option linter.unusedVariables false
set_option linter.unusedSimpArgs false

set_option maxRecDepth 100000 in
theorem paletteReads_said (w : World) (m : Int) (hm : (Lit.int .u8 m).wf = true) (aa : Option Addr) (na cap : Nat) (cl : List Col) (hc : SliceCols w aa na cl) (s : ByteArray) (hs : s.size ≤ maxLen) (n : Int) (hn : (Lit.int .i64 n).wf = true) (k : Int) (hk : (Lit.int .i64 k).wf = true) :
    Calls Try.prog 3 #[.int .u8 m, .slice aa na cap, .string s, .int .i64 n, .int .i64 k] w fun e w' => e = .returned (.bool true) ∧ Below w.heap.size w w' := by
  obtain ⟨m0, m1⟩ := bounds_u8 hm
  obtain ⟨C, hC⟩ := QRow.of hc
  obtain ⟨m, rfl⟩ := Int.eq_ofNat_of_zero_le m0
  have hnb := bounds_i64 hn
  by_cases h1 : 40 < na
  · have i1 : (40 : Int) < (na : Int) := by omega
    clear hC hc hm hs hn hk hnb m0 m1
    go_enter Try.func3, Try.ntmps3
    go_wp2_with (go_at_call 9; refine (paletteAwake _).mono ?_; rintro e w6 ⟨rfl, hb6⟩)
    go_ret
    exact ⟨rfl, hb6⟩
  by_cases h2 : 300 < s.size
  · have i1 : ¬ (40 : Int) < (na : Int) := by omega
    have i2 : (300 : Int) < (s.size : Int) := by omega
    clear hC hc hm hs hn hk hnb m0 m1
    go_enter Try.func3, Try.ntmps3
    go_wp2_with (go_at_call 9; refine (paletteAwake _).mono ?_; rintro e w6 ⟨rfl, hb6⟩)
    go_ret
    exact ⟨rfl, hb6⟩
  by_cases h3 : m = 0
  · subst h3
    have i1 : ¬ (40 : Int) < (na : Int) := by omega
    have i2 : ¬ (300 : Int) < (s.size : Int) := by omega
    clear hC hc hm hs hn hk hnb m0 m1
    go_enter Try.func3, Try.ntmps3
    go_wp2_with (go_at_call 9; refine (paletteAwake _).mono ?_; rintro e w6 ⟨rfl, hb6⟩)
    go_ret
    exact ⟨rfl, hb6⟩
  exact reads_walk (by omega) (by omega) (by omega) hC (by omega) hnb
end Go.Proofs.Ytkaijekdnbhjaaa
