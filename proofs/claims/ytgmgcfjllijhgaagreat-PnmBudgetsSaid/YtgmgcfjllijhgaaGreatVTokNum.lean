/- The reference's reader of tokens. The reference's reader of tokens: Number. Number in both cases; same, fresh, awake of chapter 11. -/
import Derived.Test.YtgmgcfjllijhgaaGreatVBits
import Derived.Test.YtgmgcfjllijhgaaGreatVPnmHead
import Derived.Test.YtgmgcfjllijhgaaGreatVTok4
namespace Go.Proofs.YtgmgcfjllijhgaaGreat
open Go.RowKit
set_option linter.unusedVariables false

def gotV (x : Got) : Value := .agg #[.int .i64 (x.V : Int), .int .i64 (x.At : Int), .int .i64 (x.Next : Int), .int .i64 (x.Kind : Int), .int .i64 (x.Place : Int)]

theorem refBlank_any (b : Nat) (w : World) : Calls Tryz.prog 30 #[.int .u8 (b : Int)] w fun e w' => e = .returned (.bool (isBlank b)) ∧ w = w' := by
 by_cases h1 : b = 32
 ·subst h1
  go_enter Tryz.func30, Tryz.ntmps30
  go_wp2_with fail
  go_ret
  exact ⟨rfl, rfl⟩
 ·have n1 : ¬ (b : Int) = 32 := by omega
  by_cases h2 : 9 ≤ b
  ·have i2 : (9 : Int) ≤ (b : Int) := by omega
   by_cases h3 : b ≤ 13
   ·have i3 : (b : Int) ≤ 13 := by omega
    rw [show isBlank b = true by unfold isBlank; simp; omega]
    go_enter Tryz.func30, Tryz.ntmps30
    go_wp2_with fail
    go_ret
    exact ⟨ret1 (vbool (by first | (simp; done) | (simp; omega))), rfl⟩
   ·have i3 : ¬ (b : Int) ≤ 13 := by omega
    rw [show isBlank b = false by unfold isBlank; simp; omega]
    go_enter Tryz.func30, Tryz.ntmps30
    go_wp2_with fail
    go_ret
    exact ⟨ret1 (vbool (by first | (simp; done) | (simp; omega))), rfl⟩
  ·have i2 : ¬ (9 : Int) ≤ (b : Int) := by omega
   rw [show isBlank b = false by unfold isBlank; simp; omega]
   go_enter Tryz.func30, Tryz.ntmps30
   go_wp2_with fail
   go_ret
   exact ⟨ret1 (vbool (by first | (simp; done) | (simp; omega))), rfl⟩

set_option maxRecDepth 100000 in
theorem refOver_any (s : ByteArray) (a : Nat) (w : World) (ha : a ≤ s.size) (hs : s.size ≤ 1099511627776) :
  Calls Tryz.prog 54 #[.string s, .int .i64 (a : Int)] w fun e w' => e = .returned (.int .i64 ((a + overN false ((nats s).drop a) : Nat) : Int)) ∧ w = w' := by
 generalize hc : a + overN false ((nats s).drop a) = tot
 have hlen := nats_len s
 go_enter Tryz.func54, Tryz.ntmps54
 go_wp2_with fail
 go_loopg [1] (s.size + 1 - a) (fun n v wr => ∃ q : Nat, q + n = s.size + 1 ∧ v = .int .i64 (q : Int) ∧ q ≤ s.size ∧ Hid (q + overN false ((nats s).drop q) = tot) ∧ w = wr)
 case atStart => exact ⟨a, by omega, rfl, ha, Lib.hid hc, rfl⟩
 case round =>
  obtain ⟨q, hn, rfl, q1, hq, rfl⟩ := hrel
  by_cases hlt : q < s.size
  ·have ilt : (q : Int) < (s.size : Int) := by omega
   have hb := bat_eq hlt
   have hb256 := bat_lt s q
   by_cases h35 : bat s q = 35
   ·have i35 : ((s[q].toNat : Nat) : Int) = 35 := by omega
    go_wp2_with fail
    go_loopg [1] (s.size + 1 - q) (fun n v wr => ∃ r : Nat, r + n = s.size + 1 ∧ v = .int .i64 (r : Int) ∧ q ≤ r ∧ r ≤ s.size ∧ Hid (r + overN true ((nats s).drop r) = tot) ∧ w = wr)
    case atStart => exact ⟨q, by omega, rfl, Nat.le_refl _, q1, Lib.hid (by have := hq.out; rw [over_hash (by omega) h35] at this; rw [over_remark (by omega), show (nats s).getD q 0 = 35 from h35]; exact this), rfl⟩
    case round =>
     obtain ⟨r, hn2, rfl, r0, r1, hr, rfl⟩ := hrel
     by_cases hlt2 : r < s.size
     ·have jlt : (r : Int) < (s.size : Int) := by omega
      have jb := bat_eq hlt2
      by_cases he : isEnd (bat s r) = true
      ·have hrr : Hid (r + 1 + overN false ((nats s).drop (r + 1)) = tot) := Lib.hid (by have := hr.out; rw [over_remark (by omega), show isEnd ((nats s).getD r 0) = true from he] at this; simp only [Bool.not_true] at this; omega)
       by_cases h10 : bat s r = 10
       ·have j10 : ((s[r].toNat : Nat) : Int) = 10 := by omega
        go_wp2_with fail
        go_roundg (s.size + 1 - (r + 1))
        case measure => omega
        case rel => exact ⟨r + 1, by omega, by go_num, by omega, hrr, rfl⟩
       ·have j10 : ¬ ((s[r].toNat : Nat) : Int) = 10 := by omega
        have j13 : ((s[r].toNat : Nat) : Int) = 13 := by unfold isEnd at he; simp at he; omega
        have k10 : (((s[r].toNat : Nat) : Int) != 10) = true := bne_iff_ne.2 j10
        have k13 : (((s[r].toNat : Nat) : Int) != 13) = false := by rw [j13]; rfl
        go_wp2_with fail
        go_roundg (s.size + 1 - (r + 1))
        case measure => omega
        case rel => exact ⟨r + 1, by omega, by go_num, by omega, hrr, rfl⟩
      ·have he' : isEnd (bat s r) = false := by simpa using he
       have j10 : ¬ ((s[r].toNat : Nat) : Int) = 10 := by unfold isEnd at he'; simp at he'; omega
       have j13 : ¬ ((s[r].toNat : Nat) : Int) = 13 := by unfold isEnd at he'; simp at he'; omega
       have hrr : Hid (r + 1 + overN true ((nats s).drop (r + 1)) = tot) := Lib.hid (by have := hr.out; rw [over_remark (by omega), show isEnd ((nats s).getD r 0) = false from he'] at this; simp only [Bool.not_false] at this; omega)
       have k10 : (((s[r].toNat : Nat) : Int) != 10) = true := bne_iff_ne.2 j10
       have k13 : (((s[r].toNat : Nat) : Int) != 13) = true := bne_iff_ne.2 j13
       go_wp2_with fail
       go_roundg (s.size + 1 - (r + 1))
       case measure => omega
       case rel => exact ⟨r + 1, by omega, by go_num, by omega, by omega, hrr, rfl⟩
     ·obtain rfl : r = s.size := by omega
      have jlt : ¬ (s.size : Int) < (s.size : Int) := by omega
      go_wp2_with fail
      go_roundg 1
      case measure => omega
      case rel => exact ⟨s.size, by omega, rfl, by omega, Lib.hid (by have := hr.out; rw [over_end true (by omega)] at this; rw [over_end false (by omega)]; exact this), rfl⟩
   ·have i35 : ¬ ((s[q].toNat : Nat) : Int) = 35 := by omega
    by_cases hk : isBlank (bat s q) = true
    ·go_wp2_with (go_at_call 30; refine (refBlank_any _ _).mono ?_; rintro e w2 ⟨rfl, rfl⟩; rw [← hb, hk])
     go_roundg (s.size + 1 - (q + 1))
     case measure => omega
     case rel => exact ⟨q + 1, by omega, by go_num, by omega, Lib.hid (by have := hq.out; rw [over_blank (by omega) hk] at this; omega), rfl⟩
    ·have hk' : isBlank (bat s q) = false := by simpa using hk
     go_wp2_with (go_at_call 30; refine (refBlank_any _ _).mono ?_; rintro e w2 ⟨rfl, rfl⟩; rw [← hb, hk'])
     go_ret
     have := hq.out
     rw [over_stop (by omega) h35 hk'] at this
     exact ⟨ret1 (vint (by omega)), rfl⟩
  ·obtain rfl : q = s.size := by omega
   have ilt : ¬ (s.size : Int) < (s.size : Int) := by omega
   go_wp2_with fail
   go_ret
   have := hq.out
   rw [over_end false (by omega)] at this
   exact ⟨ret1 (vint (by omega)), rfl⟩

end Go.Proofs.YtgmgcfjllijhgaaGreat
namespace Go.Proofs.YtgmgcfjllijhgaaGreat
open Go.RowKit
set_option linter.unusedVariables false

theorem num_exit {l : List Nat} {f q dn dv vv : Nat} {x : Got} (hx : (if isDigit (l.getD f 0) then (⟨dv, f, f + dn, 0, 0⟩ : Got) else ⟨0, 0, 0, 2, f⟩) = x) (hdn : digN (l.drop f) = dn) (h1 : q - f = dn) (h2 : dv = vv) (hq : f ≤ q) (hf : f < l.length) :
  (q = f → x = ⟨0, 0, 0, 2, f⟩) ∧ (q ≠ f → x = ⟨vv, f, q, 0, 0⟩) := by
 by_cases hd : isDigit (l.getD f 0) = true
 ·rw [if_pos hd] at hx
  have := (dig_yes hf hd 0).1
  refine ⟨fun h => by omega, fun _ => ?_⟩
  rw [← hx, h2, show f + dn = q by omega]
 ·rw [if_neg hd] at hx
  have h0 := (dig_no hf (by cases h : isDigit (l.getD f 0) <;> simp_all) 0).1
  exact ⟨fun _ => hx.symm, fun h => by omega⟩

set_option maxRecDepth 100000 in
set_option maxHeartbeats 1000000 in
theorem refNumber_any (s : ByteArray) (a : Nat) (w : World) (ha : a ≤ s.size) (hs : s.size ≤ 1099511627776) :
  Calls Tryz.prog 29 #[.string s, .int .i64 (a : Int)] w fun e w' => e = .returned (gotV (numberAt (nats s) a)) ∧ Below w.heap.size w w' := by
 have hlen := nats_len s
 have hle := overN_le false ((nats s).drop a)
 rw [List.length_drop, hlen] at hle
 have HO := Lib.hid (fun w => refOver_any s a w ha hs)
 unfold numberAt
 generalize a + overN false ((nats s).drop a) = f at HO ⊢
 rw [hlen]
 by_cases hlt : s.size ≤ f
 ·have i1 : (s.size : Int) ≤ (f : Int) := by omega
  simp only [if_pos hlt]
  go_enter Tryz.func29, Tryz.ntmps29
  go_wp2_with (go_at_call 54; refine (HO.out _).mono ?_; rintro e w1 ⟨rfl, rfl⟩)
  all_goals exact bodyPost_ret (v := gotV ⟨0, 0, 0, 1, s.size⟩) (by simp [results, Tryz.results29, go_sem, gotV]) rfl ⟨rfl, (Below.refl _ _).alloc (Nat.le_refl _) _⟩
 ·have i1 : ¬ (s.size : Int) ≤ (f : Int) := by omega
  have hf : f < s.size := by omega
  simp only [if_neg hlt]
  have hvx : ∀ x : Got, (if isDigit ((nats s).getD f 0) then ⟨digV 0 ((nats s).drop f), f, f + digN ((nats s).drop f), 0, 0⟩ else ⟨0, 0, 0, 2, f⟩) = x → Calls Tryz.prog 29 #[.string s, .int .i64 (a : Int)] w fun e w' => e = .returned (gotV x) ∧ Below w.heap.size w w' := by
   intro x hx
   have HXX := Lib.hid hx
   clear hx
   generalize hdn : digN ((nats s).drop f) = dn at HXX
   generalize hdv : digV 0 ((nats s).drop f) = dv at HXX
   have HDN := Lib.hid hdn
   have hdl := digN_le ((nats s).drop f)
   rw [hdn, List.length_drop, hlen] at hdl
   go_enter Tryz.func29, Tryz.ntmps29
   go_wp2_with (go_at_call 54; refine (HO.out _).mono ?_; rintro e w1 ⟨rfl, rfl⟩)
   go_loopg [6, 7] (s.size + 1 - f) (fun n i v wr => ∃ (q vv : Nat), q + n = s.size + 1 ∧ i = .int .i64 (q : Int) ∧ v = .int .i64 (vv : Int) ∧ f ≤ q ∧ q ≤ s.size ∧ vv ≤ 1000000000 ∧ Hid ((q - f) + digN ((nats s).drop q) = dn) ∧ Hid (digV vv ((nats s).drop q) = dv) ∧ w.alloc (.cells #[.int .i64 0, .int .i64 0, .int .i64 0, .int .i64 0, .int .i64 0] 54) = wr)
   case atStart => exact ⟨f, 0, by omega, rfl, rfl, Nat.le_refl _, by omega, by omega, Lib.hid (by omega), Lib.hid hdv, rfl⟩
   case round =>
    obtain ⟨q, vv, hn, rfl, rfl, q0, q1, v1, h1, h2, rfl⟩ := hrel
    by_cases hq : q < s.size
    ·have jlt : (q : Int) < (s.size : Int) := by omega
     have hb := bat_eq hq
     have hb2 := bat_lt s q
     by_cases hd : isDigit (bat s q) = true
     ·have hd' : 48 ≤ bat s q ∧ bat s q ≤ 57 := by unfold isDigit at hd; simpa using hd
      have j8 : (48 : Int) ≤ ((s[q].toNat : Nat) : Int) := by omega
      have j9 : ((s[q].toNat : Nat) : Int) ≤ 57 := by omega
      obtain ⟨d1, d2⟩ := dig_yes (l := nats s) (q := q) (by omega) hd vv
      have h1' : Hid ((q + 1 - f) + digN ((nats s).drop (q + 1)) = dn) := Lib.hid (by have := h1.out; omega)
      have h2' : Hid (digV (up vv (bat s q)) ((nats s).drop (q + 1)) = dv) := Lib.hid (by rw [← h2.out, d2]; rfl)
      clear d1 d2
      by_cases hbig : 999999999 < 10 * (vv : Int) + ((s[q].toNat : Nat) : Int) - 48
      ·go_wp2_with fail
       go_roundg (s.size + 1 - (q + 1))
       case measure => omega
       case rel => exact ⟨q + 1, up vv (bat s q), by omega, by go_num, vint (by unfold up; omega), by omega, by omega, up_lt _ _, h1', h2', rfl⟩
      ·go_wp2_with fail
       go_roundg (s.size + 1 - (q + 1))
       case measure => omega
       case rel => exact ⟨q + 1, up vv (bat s q), by omega, by go_num, vint (by unfold up; omega), by omega, by omega, up_lt _ _, h1', h2', rfl⟩
     ·have hd0 : isDigit (bat s q) = false := by cases h : isDigit (bat s q) <;> simp_all
      by_cases hd8 : 48 ≤ bat s q
      ·have j8 : (48 : Int) ≤ ((s[q].toNat : Nat) : Int) := by omega
       have j9 : ¬ ((s[q].toNat : Nat) : Int) ≤ 57 := by unfold isDigit at hd0; simp at hd0; omega
       have a2 := (dig_no (l := nats s) (q := q) (by omega) hd0 vv)
       have e1 : q - f = dn := by have a1 := h1.out; have a3 := a2.1; omega
       have HX12 := Lib.hid (num_exit HXX.out HDN.out e1 (h2.out.symm.trans a2.2) q0 (by omega))
       clear a2 e1
       by_cases hqf : q = f
       ·have hx0 := (HX12.out).1 hqf
        subst hqf
        have HX0 := Lib.hid hx0
        clear hx0 HX12
        go_wp2_with fail
        all_goals exact bodyPost_ret (v := gotV ⟨0, 0, 0, 2, q⟩) (by simp [results, Tryz.results29, go_sem, gotV]) rfl ⟨by rw [HX0.out], (Below.refl _ _).alloc (Nat.le_refl _) _⟩
       ·have jqf : ¬ (q : Int) = (f : Int) := by omega
        have HX0 := Lib.hid ((HX12.out).2 hqf)
        clear HX12
        go_wp2_with fail
        all_goals exact bodyPost_ret (v := gotV ⟨vv, f, q, 0, 0⟩) (by simp [results, Tryz.results29, go_sem, gotV]) rfl ⟨by rw [HX0.out], (Below.refl _ _).alloc (Nat.le_refl _) _⟩
      ·have j8 : ¬ (48 : Int) ≤ ((s[q].toNat : Nat) : Int) := by omega
       have a2 := (dig_no (l := nats s) (q := q) (by omega) hd0 vv)
       have e1 : q - f = dn := by have a1 := h1.out; have a3 := a2.1; omega
       have HX12 := Lib.hid (num_exit HXX.out HDN.out e1 (h2.out.symm.trans a2.2) q0 (by omega))
       clear a2 e1
       by_cases hqf : q = f
       ·have hx0 := (HX12.out).1 hqf
        subst hqf
        have HX0 := Lib.hid hx0
        clear hx0 HX12
        go_wp2_with fail
        all_goals exact bodyPost_ret (v := gotV ⟨0, 0, 0, 2, q⟩) (by simp [results, Tryz.results29, go_sem, gotV]) rfl ⟨by rw [HX0.out], (Below.refl _ _).alloc (Nat.le_refl _) _⟩
       ·have jqf : ¬ (q : Int) = (f : Int) := by omega
        have HX0 := Lib.hid ((HX12.out).2 hqf)
        clear HX12
        go_wp2_with fail
        all_goals exact bodyPost_ret (v := gotV ⟨vv, f, q, 0, 0⟩) (by simp [results, Tryz.results29, go_sem, gotV]) rfl ⟨by rw [HX0.out], (Below.refl _ _).alloc (Nat.le_refl _) _⟩
    ·have jlt : ¬ (q : Int) < (s.size : Int) := by omega
     have a2 := (dig_end (l := nats s) (q := q) (by omega) vv)
     have e1 : q - f = dn := by have a1 := h1.out; have a3 := a2.1; omega
     have HX12 := Lib.hid (num_exit HXX.out HDN.out e1 (h2.out.symm.trans a2.2) q0 (by omega))
     clear a2 e1
     have hqf : q ≠ f := by omega
     have jqf : ¬ (q : Int) = (f : Int) := by omega
     have HX0 := Lib.hid ((HX12.out).2 hqf)
     clear HX12
     go_wp2_with fail
     all_goals exact bodyPost_ret (v := gotV ⟨vv, f, q, 0, 0⟩) (by simp [results, Tryz.results29, go_sem, gotV]) rfl ⟨by rw [HX0.out], (Below.refl _ _).alloc (Nat.le_refl _) _⟩
  exact hvx _ rfl
end Go.Proofs.YtgmgcfjllijhgaaGreat
namespace Go.Proofs.YtgmgcfjllijhgaaGreat
open Go.RowKit
set_option linter.unusedVariables false
set_option linter.unusedSimpArgs false

def T0 : Led := ⟨0, 0, 0, 100000, 0, 0, 0, 0, 0⟩
theorem T0.ok : T0.Ok := by constructor <;> decide
end Go.Proofs.YtgmgcfjllijhgaaGreat
