/- The reference's reader of tokens. -/
import Derived.Test.YtgmgcfjllijhgaaGreatBits
import Derived.Test.YtgmgcfjllijhgaaGreatTokLaw
namespace Go.Proofs.YtgmgcfjllijhgaaGreat
open Go.RowKit
set_option linter.unusedVariables false

def gotV (x : Got) : Value := .agg #[.int .i64 (x.V : Int), .int .i64 (x.At : Int), .int .i64 (x.Next : Int), .int .i64 (x.Kind : Int), .int .i64 (x.Place : Int)]

theorem refBlank_any (b : Nat) (w : World) : Calls Tryz.prog 30 #[.int .u8 (b : Int)] w fun e w' => e = .returned (.bool (isBlank b)) ∧ w = w' := by
  by_cases h1 : b = 32
  · subst h1
    go_enter Tryz.func30, Tryz.ntmps30
    go_wp2_with fail
    go_ret
    exact ⟨rfl, rfl⟩
  · have n1 : ¬ (b : Int) = 32 := by omega
    by_cases h2 : 9 ≤ b
    · have i2 : (9 : Int) ≤ (b : Int) := by omega
      by_cases h3 : b ≤ 13
      · have i3 : (b : Int) ≤ 13 := by omega
        rw [show isBlank b = true by unfold isBlank; simp; omega]
        go_enter Tryz.func30, Tryz.ntmps30
        go_wp2_with fail
        go_ret
        exact ⟨ret1 (vbool (by first | (simp; done) | (simp; omega))), rfl⟩
      · have i3 : ¬ (b : Int) ≤ 13 := by omega
        rw [show isBlank b = false by unfold isBlank; simp; omega]
        go_enter Tryz.func30, Tryz.ntmps30
        go_wp2_with fail
        go_ret
        exact ⟨ret1 (vbool (by first | (simp; done) | (simp; omega))), rfl⟩
    · have i2 : ¬ (9 : Int) ≤ (b : Int) := by omega
      rw [show isBlank b = false by unfold isBlank; simp; omega]
      go_enter Tryz.func30, Tryz.ntmps30
      go_wp2_with fail
      go_ret
      exact ⟨ret1 (vbool (by first | (simp; done) | (simp; omega))), rfl⟩

set_option maxRecDepth 100000 in
theorem refOver_any (s : ByteArray) (a : Nat) (w : World) (ha : a ≤ s.size) (hs : s.size ≤ 1099511627776) :
    Calls Tryz.prog 54 #[.string s, .int .i64 (a : Int)] w fun e w' => e = .returned (.int .i64 ((a + overN false ((nats s).drop a) : Nat) : Int)) ∧ w = w' := by
  generalize hc : a + overN false ((nats s).drop a) = tot
  have hlen := nats_len s
  go_enter Tryz.func54, Tryz.ntmps54
  go_wp2_with fail
  go_loopg [1] (s.size + 1 - a) (fun n v wr => ∃ q : Nat, q + n = s.size + 1 ∧ v = .int .i64 (q : Int) ∧ q ≤ s.size ∧ Hid (q + overN false ((nats s).drop q) = tot) ∧ w = wr)
  case atStart => exact ⟨a, by omega, rfl, ha, Lib.hid hc, rfl⟩
  case round =>
    obtain ⟨q, hn, rfl, q1, hq, rfl⟩ := hrel
    by_cases hlt : q < s.size
    · have ilt : (q : Int) < (s.size : Int) := by omega
      have hb := bat_eq hlt
      have hb256 := bat_lt s q
      by_cases h35 : bat s q = 35
      · have i35 : ((s[q].toNat : Nat) : Int) = 35 := by omega
        go_wp2_with fail
        go_loopg [1] (s.size + 1 - q) (fun n v wr => ∃ r : Nat, r + n = s.size + 1 ∧ v = .int .i64 (r : Int) ∧ q ≤ r ∧ r ≤ s.size ∧ Hid (r + overN true ((nats s).drop r) = tot) ∧ w = wr)
        case atStart => exact ⟨q, by omega, rfl, Nat.le_refl _, q1, Lib.hid (by have := hq.out; rw [over_hash (by omega) h35] at this; rw [over_remark (by omega), show (nats s).getD q 0 = 35 from h35]; exact this), rfl⟩
        case round =>
          obtain ⟨r, hn2, rfl, r0, r1, hr, rfl⟩ := hrel
          by_cases hlt2 : r < s.size
          · have jlt : (r : Int) < (s.size : Int) := by omega
            have jb := bat_eq hlt2
            by_cases he : isEnd (bat s r) = true
            · have hrr : Hid (r + 1 + overN false ((nats s).drop (r + 1)) = tot) := Lib.hid (by have := hr.out; rw [over_remark (by omega), show isEnd ((nats s).getD r 0) = true from he] at this; simp only [Bool.not_true] at this; omega)
              by_cases h10 : bat s r = 10
              · have j10 : ((s[r].toNat : Nat) : Int) = 10 := by omega
                go_wp2_with fail
                go_roundg (s.size + 1 - (r + 1))
                case measure => omega
                case rel => exact ⟨r + 1, by omega, by go_num, by omega, hrr, rfl⟩
              · have j10 : ¬ ((s[r].toNat : Nat) : Int) = 10 := by omega
                have j13 : ((s[r].toNat : Nat) : Int) = 13 := by unfold isEnd at he; simp at he; omega
                have k10 : (((s[r].toNat : Nat) : Int) != 10) = true := bne_iff_ne.2 j10
                have k13 : (((s[r].toNat : Nat) : Int) != 13) = false := by rw [j13]; rfl
                go_wp2_with fail
                go_roundg (s.size + 1 - (r + 1))
                case measure => omega
                case rel => exact ⟨r + 1, by omega, by go_num, by omega, hrr, rfl⟩
            · have he' : isEnd (bat s r) = false := by simpa using he
              have j10 : ¬ ((s[r].toNat : Nat) : Int) = 10 := by unfold isEnd at he'; simp at he'; omega
              have j13 : ¬ ((s[r].toNat : Nat) : Int) = 13 := by unfold isEnd at he'; simp at he'; omega
              have hrr : Hid (r + 1 + overN true ((nats s).drop (r + 1)) = tot) := Lib.hid (by have := hr.out; rw [over_remark (by omega), show isEnd ((nats s).getD r 0) = false from he'] at this; simp only [Bool.not_false] at this; omega)
              have k10 : (((s[r].toNat : Nat) : Int) != 10) = true := bne_iff_ne.2 j10
              have k13 : (((s[r].toNat : Nat) : Int) != 13) = true := bne_iff_ne.2 j13
              go_wp2_with fail
              go_roundg (s.size + 1 - (r + 1))
              case measure => omega
              case rel => exact ⟨r + 1, by omega, by go_num, by omega, by omega, hrr, rfl⟩
          · obtain rfl : r = s.size := by omega
            have jlt : ¬ (s.size : Int) < (s.size : Int) := by omega
            go_wp2_with fail
            go_roundg 1
            case measure => omega
            case rel => exact ⟨s.size, by omega, rfl, by omega, Lib.hid (by have := hr.out; rw [over_end true (by omega)] at this; rw [over_end false (by omega)]; exact this), rfl⟩
      · have i35 : ¬ ((s[q].toNat : Nat) : Int) = 35 := by omega
        by_cases hk : isBlank (bat s q) = true
        · go_wp2_with (go_at_call 30; refine (refBlank_any _ _).mono ?_; rintro e w2 ⟨rfl, rfl⟩; rw [← hb, hk])
          go_roundg (s.size + 1 - (q + 1))
          case measure => omega
          case rel => exact ⟨q + 1, by omega, by go_num, by omega, Lib.hid (by have := hq.out; rw [over_blank (by omega) hk] at this; omega), rfl⟩
        · have hk' : isBlank (bat s q) = false := by simpa using hk
          go_wp2_with (go_at_call 30; refine (refBlank_any _ _).mono ?_; rintro e w2 ⟨rfl, rfl⟩; rw [← hb, hk'])
          go_ret
          have := hq.out
          rw [over_stop (by omega) h35 hk'] at this
          exact ⟨ret1 (vint (by omega)), rfl⟩
    · obtain rfl : q = s.size := by omega
      have ilt : ¬ (s.size : Int) < (s.size : Int) := by omega
      go_wp2_with fail
      go_ret
      have := hq.out
      rw [over_end false (by omega)] at this
      exact ⟨ret1 (vint (by omega)), rfl⟩

end Go.Proofs.YtgmgcfjllijhgaaGreat
