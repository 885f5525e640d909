/- The reader of tokens: Blank, end, wrong, Over. -/
import Derived.Test.YthljhebbblhakaaGreatDoorEBits
import Derived.Test.YthljhebbblhakaaGreatDoorEPnmHead
import Derived.WalkMore
import Derived.ScopeJumps
namespace Go.Proofs.YthljhebbblhakaaGreatDoor
open Go.RowKit
set_option linter.unusedVariables false

def Led.used (x : Led) (k : Nat) : Led := { x with steps := x.steps + k }
theorem Led.used_ok {x : Led} {k : Nat} (h : x.Ok) (hk : x.steps + k ≤ x.S) : (x.used k).Ok := ⟨h.w0, h.w1, h.h0, h.h1, h.b1, h.s1, h.y0, h.y1, h.p0, h.p1, by have := h.t0; simp only [Led.used]; omega, hk⟩
theorem Led.used_yes {x : Led} {k : Nat} (h : x.reason = 0) (hk : x.steps + k + 1 ≤ x.S) : (x.used k).work 1 = (x.used (k + 1), true) := by
  unfold Led.work
  rw [if_neg (by simp [Led.used, h]), if_neg (by simp [Led.used]; omega)]
  simp [Led.used]
  omega
theorem Led.used_no {x : Led} {k : Nat} (h : x.reason = 0) (hk : x.steps + k = x.S) : (x.used k).work 1 = ((x.used k).refused 3 1, false) := by
  unfold Led.work
  rw [if_neg (by simp [Led.used, h]), if_pos (by simp [Led.used]; omega)]
theorem Led.used_zero (x : Led) : x.used 0 = x := by simp [Led.used]
theorem blank_any (b : Nat) (w : World) : Calls Tryz.prog 72 #[.int .i64 (b : Int)] w fun e w' => e = .returned (.bool (isBlank b)) ∧ w = w' := by
  by_cases hc : b = 32 ∨ b = 9 ∨ b = 10 ∨ b = 11 ∨ b = 12 ∨ b = 13
  · rw [show isBlank b = true by unfold isBlank; simp; omega]
    rcases hc with rfl | rfl | rfl | rfl | rfl | rfl
    all_goals
      go_enter Tryz.func72, Tryz.ntmps72
      go_wp2_with fail
      go_ret
      exact ⟨rfl, rfl⟩
  · rw [show isBlank b = false by unfold isBlank; simp; omega]
    have n1 : ¬ (b : Int) = 32 := by omega
    have n2 : ¬ (b : Int) = 9 := by omega
    have n3 : ¬ (b : Int) = 10 := by omega
    have n4 : ¬ (b : Int) = 11 := by omega
    have n5 : ¬ (b : Int) = 12 := by omega
    have n6 : ¬ (b : Int) = 13 := by omega
    clear hc
    go_enter Tryz.func72, Tryz.ntmps72
    go_wp2_with fail
    go_ret
    exact ⟨rfl, rfl⟩
theorem tokEnd_any (b : Nat) (w : World) : Calls Tryz.prog 134 #[.int .i64 (b : Int)] w fun e w' => e = .returned (.bool (isEnd b)) ∧ w = w' := by
  by_cases h1 : b = 10
  · subst h1
    go_enter Tryz.func134, Tryz.ntmps134
    go_wp2_with fail
    go_ret
    exact ⟨rfl, rfl⟩
  · by_cases h2 : b = 13
    · subst h2
      go_enter Tryz.func134, Tryz.ntmps134
      go_wp2_with fail
      go_ret
      exact ⟨rfl, rfl⟩
    · rw [show isEnd b = false by unfold isEnd; simp; omega]
      have n3 : ¬ (b : Int) = 10 := by omega
      have n6 : ¬ (b : Int) = 13 := by omega
      go_enter Tryz.func134, Tryz.ntmps134
      go_wp2_with fail
      go_ret
      exact ⟨ret1 (vbool (by simp; omega)), rfl⟩
theorem wrong_any (a : Int) (w : World) : Calls Tryz.prog 73 #[.int .i64 a] w fun e w' => e = .returned (.agg #[.int .i64 2, .int .i64 3, .int .i64 a]) ∧ Below w.heap.size w w' := by
  go_enter Tryz.func73, Tryz.ntmps73
  go_wp2_with fail
  exact bodyPost_ret (v := .agg #[.int .i64 2, .int .i64 3, .int .i64 a]) (by simp [results, Tryz.results73, go_sem]) rfl ⟨rfl, (Below.refl _ _).alloc (Nat.le_refl _) _⟩

theorem bool_no {b : Bool} (h : ¬ b = true) : b = false := by cases b <;> simp_all
/-- a fault's cells -/
def fl (k f a : Int) : Array Value := #[.int .i64 k, .int .i64 f, .int .i64 a]
def FL (w : World) (b : Nat) (k f a : Int) : Prop := Blk w b 33 (fl k f a)
theorem FL.store {w : World} {b : Nat} {k f a k' f' a' : Int} (h : FL w b k f a) : FL (((w.setCell ⟨b, 0, none⟩ (.int .i64 k')).setCell ⟨b, 1, none⟩ (.int .i64 f')).setCell ⟨b, 2, none⟩ (.int .i64 a')) b k' f' a' := ((Blk.set_ (Blk.set_ (Blk.set_ h 0 _) 1 _) 2 _)).eq_ (by simp [fl])
theorem FL.c0 {w : World} {b : Nat} {k f a : Int} (h : FL w b k f a) : w.cell? ⟨b, 0, none⟩ = some (.int .i64 k) := Blk.cell h 0
theorem FL.c1 {w : World} {b : Nat} {k f a : Int} (h : FL w b k f a) : w.cell? ⟨b, 1, none⟩ = some (.int .i64 f) := Blk.cell h 1
theorem FL.c2 {w : World} {b : Nat} {k f a : Int} (h : FL w b k f a) : w.cell? ⟨b, 2, none⟩ = some (.int .i64 a) := Blk.cell h 2
theorem Turn.set3 {S : List Nat} {a w : World} {b : Nat} {u v x : Value} (h : Turn S a w) (hb : b ∈ S ∨ a.heap.size ≤ b) : Turn S a (((w.setCell ⟨b, 0, none⟩ u).setCell ⟨b, 1, none⟩ v).setCell ⟨b, 2, none⟩ x) := ((h.set_ 0 u hb).set_ 1 v hb).set_ 2 x hb
theorem SrcAt.set3 {w : World} {p g b : Nat} {s : ByteArray} {f t a : Nat} {u v x : Value} (h : SrcAt w p g s f t a) (hb : p ≠ b) : SrcAt (((w.setCell ⟨b, 0, none⟩ u).setCell ⟨b, 1, none⟩ v).setCell ⟨b, 2, none⟩ x) p g s f t a := Blk.far (Blk.far (Blk.far h (p := ⟨b, 0, none⟩) hb _) (p := ⟨b, 1, none⟩) hb _) (p := ⟨b, 2, none⟩) hb _
theorem LedAt.set3 {w : World} {g b : Nat} {y : Led} {u v x : Value} (h : LedAt w g y) (hb : g ≠ b) : LedAt (((w.setCell ⟨b, 0, none⟩ u).setCell ⟨b, 1, none⟩ v).setCell ⟨b, 2, none⟩ x) g y := Blk.far (Blk.far (Blk.far h (p := ⟨b, 0, none⟩) hb _) (p := ⟨b, 1, none⟩) hb _) (p := ⟨b, 2, none⟩) hb _
theorem FL.turn {S : List Nat} {w w' : World} {b : Nat} {k f a : Int} (h : FL w b k f a) (t : Turn S w w') (hb : b ∉ S) : FL w' b k f a := Blk.turn h t hb
theorem not_two {a b c : Nat} (h : a ≠ b) (k : a ≠ c) : a ∉ [b, c] := by simp [h, k]

set_option maxRecDepth 100000 in
set_option maxHeartbeats 1000000 in
theorem tokOver_yes {w : World} {p g : Nat} {s : ByteArray} {a k : Nat} {x : Led} (h : SrcAt w p g s 0 s.size a) (o : SrcOk s 0 s.size a) (hl : LedAt w g (x.used k)) (hx : x.reason = 0) (ok : x.Ok) (hs : x.steps + k + overN false ((nats s).drop a) + 1 ≤ x.S) :
    Calls Tryz.prog 122 #[.pointer (some ⟨p, 0, none⟩)] w fun e w' => e = .returned (.agg #[.int .i64 0, .int .i64 0, .int .i64 0]) ∧ SrcAt w' p g s 0 s.size (a + overN false ((nats s).drop a)) ∧ LedAt w' g (x.used (k + overN false ((nats s).drop a) + 1)) ∧ Turn [p, g] w w' := by
  have hpl := Blk.lt h
  have hgl := Blk.lt hl
  have hpg := h.ne hl
  have hal := o.at_
  have hsm := o.sm
  generalize hc : overN false ((nats s).drop a) = c at hs ⊢
  have HX := Lib.hid hx
  have HK := Lib.hid ok
  have HS := Lib.hid hs
  have HC := Lib.hid hc
  have S0 := Lib.hid h
  have L0 := Lib.hid hl
  have hlen := nats_len s
  clear h hl hx ok hs hc o
  go_enter Tryz.func122, Tryz.ntmps122
  go_wp2_with fail
  go_step3
  go_wp2_with fail
  go_step3
  go_wp2_with fail
  go_loopg [3] (s.size - a + 1) (fun n r wr => ∃ (q : Nat) (rm : Bool), q + n = s.size + 1 ∧ r = .bool rm ∧ a ≤ q ∧ q ≤ s.size ∧ (q - a) + overN rm ((nats s).drop q) = c ∧ SrcAt wr p g s 0 s.size q ∧ LedAt wr g (x.used (k + (q - a))) ∧ FL wr w.heap.size 0 0 0 ∧ Turn [p, g] w wr)
  case atStart => exact ⟨a, false, by omega, rfl, Nat.le_refl _, hal, by rw [HC.out]; omega, Blk.alloc S0.out _, by rw [Nat.sub_self]; exact Blk.alloc L0.out _, Blk.new _ _ _, (Turn.refl _ _).alloc _⟩
  case round =>
    obtain ⟨q, rm, hn, rfl, q0, q1, hcq, h, hl, hf, ht⟩ := hrel
    have ho : SrcOk s 0 s.size q := ⟨by omega, q1, Nat.le_refl _, hsm⟩
    have hov : (q - a) ≤ c := by omega
    have hok : (x.used (k + (q - a))).Ok := Led.used_ok HK.out (by have := HS.out; omega)
    have hwk : (x.used (k + (q - a))).work 1 = (x.used (k + (q - a) + 1), true) := Led.used_yes HX.out (by have := HS.out; omega)
    have hsz := ht.size
    have H := Lib.hid h
    have HL := Lib.hid hl
    have HF := Lib.hid hf
    have HT := Lib.hid ht
    have HO := Lib.hid ho
    have HOK := Lib.hid hok
    have HW := Lib.hid hwk
    have HQ := Lib.hid hcq
    clear h hl hf ht ho hok hwk hcq hov
    by_cases hq : q < s.size
    · cases rm
      · by_cases h35 : bat s q = 35
        · have i35 : ((bat s q : Nat) : Int) = 35 := by omega
          go_wp2_with (first
            | (go_at_call 52; refine (srcAt_at H.out).mono ?_; rintro e w1 ⟨rfl, rfl⟩)
            | (go_at_call 69; refine (srcU8_yes H.out HO.out HL.out HOK.out HW.out hq).mono ?_; rintro e w1 ⟨rfl, s1, l1, t1⟩))
          go_roundg (s.size - q)
          case measure => omega
          case rel => exact ⟨q + 1, true, by omega, rfl, by omega, by omega, by have := HQ.out; rw [over_hash (by omega) h35] at this; omega, s1, by rw [show q + 1 - a = q - a + 1 by omega]; exact l1, HF.out.turn t1 (not_two (by omega) (by omega)), HT.out.trans t1⟩
        · have i35 : ¬ ((bat s q : Nat) : Int) = 35 := by omega
          by_cases hb : isBlank (bat s q) = true
          · go_wp2_with (first
              | (go_at_call 52; refine (srcAt_at H.out).mono ?_; rintro e w1 ⟨rfl, rfl⟩)
              | (go_at_call 69; refine (srcU8_yes H.out HO.out HL.out HOK.out HW.out hq).mono ?_; rintro e w1 ⟨rfl, s1, l1, t1⟩)
              | (go_at_call 72; refine (blank_any (bat s q) _).mono ?_; rintro e w2 ⟨rfl, rfl⟩; rw [hb]))
            go_roundg (s.size - q)
            case measure => omega
            case rel => exact ⟨q + 1, false, by omega, rfl, by omega, by omega, by have := HQ.out; rw [over_blank (by omega) hb] at this; omega, s1, by rw [show q + 1 - a = q - a + 1 by omega]; exact l1, HF.out.turn t1 (not_two (by omega) (by omega)), HT.out.trans t1⟩
          · have hb' : isBlank (bat s q) = false := by simpa using hb
            go_wp2_with (first
              | (go_at_call 52; refine (srcAt_at H.out).mono ?_; rintro e w1 ⟨rfl, rfl⟩)
              | (go_at_call 69; refine (srcU8_yes H.out HO.out HL.out HOK.out HW.out hq).mono ?_; rintro e w1 ⟨rfl, s1, l1, t1⟩)
              | (go_at_call 72; refine (blank_any (bat s q) _).mono ?_; rintro e w2 ⟨rfl, rfl⟩; rw [hb'])
              | (go_at_call 124; refine (srcSeek_yes q s1 (by omega) (by omega)).mono ?_; rintro e w3 ⟨rfl, s2, t2⟩; have l2 := LedAt.turn l1 t2 (not_mem_one (fun e => hpg e.symm)); have f2 := (HF.out.turn t1 (not_two (by omega) (by omega))).turn t2 (not_mem_one (by omega)); have c0 := f2.c0; have c1 := f2.c1; have c2 := f2.c2; have z0 := Blk.frozen f2 0; have z1 := Blk.frozen f2 1; have z2 := Blk.frozen f2 2; have b3 := Blk.lt f2))
            have fz : FL (((w3.setCell ⟨w.heap.size, 0, none⟩ (.int .i64 0)).setCell ⟨w.heap.size, 1, none⟩ (.int .i64 0)).setCell ⟨w.heap.size, 2, none⟩ (.int .i64 0)) w.heap.size 0 0 0 := FL.store f2
            have sz := SrcAt.set3 (u := .int .i64 0) (v := .int .i64 0) (x := .int .i64 0) s2 (show p ≠ w.heap.size by omega)
            have lz := LedAt.set3 (u := .int .i64 0) (v := .int .i64 0) (x := .int .i64 0) l2 (show g ≠ w.heap.size by omega)
            have tz := Turn.set3 (b := w.heap.size) (u := .int .i64 0) (v := .int .i64 0) (x := .int .i64 0) ((HT.out.trans t1).trans (t2.mono (by simp))) (.inr (Nat.le_refl _))
            generalize (((w3.setCell ⟨w.heap.size, 0, none⟩ (.int .i64 0)).setCell ⟨w.heap.size, 1, none⟩ (.int .i64 0)).setCell ⟨w.heap.size, 2, none⟩ (.int .i64 0)) = we at fz sz lz tz ⊢
            have e0 := fz.c0
            have e1 := fz.c1
            have e2 := fz.c2
            rw [Exit.noGoto_ret]
            obtain rfl : q = a + c := by have := HQ.out; rw [over_stop (by omega) h35 hb'] at this; omega
            rw [show k + (a + c - a) + 1 = k + c + 1 by omega] at lz
            exact bodyPost_ret (v := .agg #[.int .i64 0, .int .i64 0, .int .i64 0]) (by simp [results, Tryz.results122, go_sem, e0, e1, e2]) rfl ⟨rfl, sz, lz, tz⟩
      · skip
        go_wp2_with (first
          | (go_at_call 52; refine (srcAt_at H.out).mono ?_; rintro e w1 ⟨rfl, rfl⟩)
          | (go_at_call 69; refine (srcU8_yes H.out HO.out HL.out HOK.out HW.out hq).mono ?_; rintro e w1 ⟨rfl, s1, l1, t1⟩)
          | (go_at_call 134; refine (tokEnd_any (bat s q) _).mono ?_; rintro e w2 ⟨rfl, rfl⟩))
        go_roundg (s.size - q)
        case measure => omega
        case rel => exact ⟨q + 1, !isEnd (bat s q), by omega, rfl, by omega, by omega, by have := HQ.out; rw [over_remark (by omega)] at this; unfold bat; omega, s1, by rw [show q + 1 - a = q - a + 1 by omega]; exact l1, HF.out.turn t1 (not_two (by omega) (by omega)), HT.out.trans t1⟩
    · obtain rfl : q = s.size := by omega
      have HD : Hid (decide ((x.used (k + (s.size - a) + 1)).reason ≠ 0) = false) := Lib.hid (by simp [Led.used, HX.out])
      go_wp2_with (first
        | (go_at_call 52; refine (srcAt_at H.out).mono ?_; rintro e w1 ⟨rfl, rfl⟩)
        | (go_at_call 69; refine (srcU8_short H.out HO.out HL.out HOK.out HW.out hq).mono ?_; rintro e w1 ⟨rfl, s1, l1, t1⟩; have f1 := HF.out.turn t1 (not_two (by omega) (by omega)); have c0 := f1.c0; have c1 := f1.c1; have c2 := f1.c2; have z0 := Blk.frozen f1 0; have z1 := Blk.frozen f1 1; have z2 := Blk.frozen f1 2; have b3 := Blk.lt f1)
        | (go_at_call 42; refine (srcLedger_at s1).mono ?_; rintro e w2 ⟨rfl, rfl⟩)
        | (go_at_call 65; refine (broken_at l1 HD.out).mono ?_; rintro e w2 ⟨rfl, rfl⟩))
      have fz : FL (((w1.setCell ⟨w.heap.size, 0, none⟩ (.int .i64 0)).setCell ⟨w.heap.size, 1, none⟩ (.int .i64 0)).setCell ⟨w.heap.size, 2, none⟩ (.int .i64 0)) w.heap.size 0 0 0 := FL.store f1
      have sz := SrcAt.set3 (u := .int .i64 0) (v := .int .i64 0) (x := .int .i64 0) s1 (show p ≠ w.heap.size by omega)
      have lz := LedAt.set3 (u := .int .i64 0) (v := .int .i64 0) (x := .int .i64 0) l1 (show g ≠ w.heap.size by omega)
      have tz := Turn.set3 (b := w.heap.size) (u := .int .i64 0) (v := .int .i64 0) (x := .int .i64 0) (HT.out.trans t1) (.inr (Nat.le_refl _))
      generalize (((w1.setCell ⟨w.heap.size, 0, none⟩ (.int .i64 0)).setCell ⟨w.heap.size, 1, none⟩ (.int .i64 0)).setCell ⟨w.heap.size, 2, none⟩ (.int .i64 0)) = we at fz sz lz tz ⊢
      have e0 := fz.c0
      have e1 := fz.c1
      have e2 := fz.c2
      rw [Exit.noGoto_ret]
      obtain rfl : c = s.size - a := by have := HQ.out; rw [over_end rm (by omega)] at this; omega
      have sz := (show SrcAt we p g s 0 s.size (a + (s.size - a)) by rw [show a + (s.size - a) = s.size by omega]; exact sz)
      exact bodyPost_ret (v := .agg #[.int .i64 0, .int .i64 0, .int .i64 0]) (by simp [results, Tryz.results122, go_sem, e0, e1, e2]) rfl ⟨rfl, sz, lz, tz⟩

set_option maxRecDepth 100000 in
set_option maxHeartbeats 1000000 in
theorem tokOver_spent {w : World} {p g : Nat} {s : ByteArray} {a k r : Nat} {x : Led} (h : SrcAt w p g s 0 s.size a) (o : SrcOk s 0 s.size a) (hl : LedAt w g (x.used k)) (hx : x.reason = 0) (ok : x.Ok) (hs : x.steps + k + r = x.S) (hr : r ≤ overN false ((nats s).drop a)) :
    Calls Tryz.prog 122 #[.pointer (some ⟨p, 0, none⟩)] w fun e w' => e = .returned (.agg #[.int .i64 4, .int .i64 3, .int .i64 ((a + r : Nat) : Int)]) ∧ a + r ≤ s.size ∧ SrcAt w' p g s 0 s.size (a + r) ∧ LedAt w' g ((x.used (k + r)).refused 3 1) ∧ Turn [p, g] w w' := by
  have hpl := Blk.lt h
  have hgl := Blk.lt hl
  have hpg := h.ne hl
  have hal := o.at_
  have hsm := o.sm
  generalize hc : overN false ((nats s).drop a) = c at hr
  have HX := Lib.hid hx
  have HK := Lib.hid ok
  have HS := Lib.hid hs
  have HC := Lib.hid hc
  have HR := Lib.hid hr
  have S0 := Lib.hid h
  have L0 := Lib.hid hl
  have hlen := nats_len s
  clear h hl hx ok hs hc hr o
  go_enter Tryz.func122, Tryz.ntmps122
  go_wp2_with fail
  go_step3
  go_wp2_with fail
  go_step3
  go_wp2_with fail
  go_loopg [3] (s.size - a + 1) (fun n rv wr => ∃ (q : Nat) (rm : Bool), q + n = s.size + 1 ∧ rv = .bool rm ∧ a ≤ q ∧ q ≤ s.size ∧ q - a ≤ r ∧ (q - a) + overN rm ((nats s).drop q) = c ∧ SrcAt wr p g s 0 s.size q ∧ LedAt wr g (x.used (k + (q - a))) ∧ FL wr w.heap.size 0 0 0 ∧ Turn [p, g] w wr)
  case atStart => exact ⟨a, false, by omega, rfl, Nat.le_refl _, hal, by omega, by rw [HC.out]; omega, Blk.alloc S0.out _, by rw [Nat.sub_self]; exact Blk.alloc L0.out _, Blk.new _ _ _, (Turn.refl _ _).alloc _⟩
  case round =>
    obtain ⟨q, rm, hn, rfl, q0, q1, q2, hcq, h, hl, hf, ht⟩ := hrel
    have ho : SrcOk s 0 s.size q := ⟨by omega, q1, Nat.le_refl _, hsm⟩
    have hok : (x.used (k + (q - a))).Ok := Led.used_ok HK.out (by have := HS.out; omega)
    have hsz := ht.size
    have H := Lib.hid h
    have HL := Lib.hid hl
    have HF := Lib.hid hf
    have HT := Lib.hid ht
    have HO := Lib.hid ho
    have HOK := Lib.hid hok
    have HQ := Lib.hid hcq
    clear h hl hf ht ho hok hcq
    by_cases hqr : q - a = r
    · have hsp : (x.used (k + (q - a))).work 1 = ((x.used (k + (q - a))).refused 3 1, false) := Led.used_no HX.out (by have := HS.out; omega)
      have HSP := Lib.hid hsp
      have HD : Hid (decide (((x.used (k + (q - a))).refused 3 1).reason ≠ 0) = true) := Lib.hid rfl
      have HE : Hid (((x.used (k + (q - a))).refused 3 1).reason ≠ 0) := Lib.hid (by simp [Led.refused])
      clear hsp
      go_wp2_with (first
        | (go_at_call 52; refine (srcAt_at H.out).mono ?_; rintro e w1 ⟨rfl, rfl⟩)
        | (go_at_call 69; refine (srcU8_spent H.out HL.out HOK.out HSP.out).mono ?_; rintro e w1 ⟨rfl, s1, l1, t1⟩; have f1 := HF.out.turn t1 (not_two (by omega) (by omega)))
        | (go_at_call 42; refine (srcLedger_at s1).mono ?_; rintro e w2 ⟨rfl, rfl⟩)
        | (go_at_call 65; refine (broken_at l1 HD.out).mono ?_; rintro e w2 ⟨rfl, rfl⟩)
        | (go_at_call 43; refine (srcFault_spent 3 s1 l1 HE.out).mono ?_; rintro e w4 ⟨rfl, b4⟩; have t4 : Turn [p, g] _ w4 := Turn.of_below b4; have s4 := Blk.below s1 b4 (Blk.lt s1); have l4 := Blk.below l1 b4 (Blk.lt l1); have f4 : FL w4 w.heap.size 0 0 0 := Blk.below f1 b4 (Blk.lt f1); have c0 := f4.c0; have c1 := f4.c1; have c2 := f4.c2; have z0 := Blk.frozen f4 0; have z1 := Blk.frozen f4 1; have z2 := Blk.frozen f4 2; have b3 := Blk.lt f4))
      have fz : FL (((w4.setCell ⟨w.heap.size, 0, none⟩ (.int .i64 4)).setCell ⟨w.heap.size, 1, none⟩ (.int .i64 3)).setCell ⟨w.heap.size, 2, none⟩ (.int .i64 (q : Int))) w.heap.size 4 3 (q : Int) := FL.store f4
      have sz := SrcAt.set3 (u := .int .i64 4) (v := .int .i64 3) (x := .int .i64 (q : Int)) s4 (show p ≠ w.heap.size by omega)
      have lz := LedAt.set3 (u := .int .i64 4) (v := .int .i64 3) (x := .int .i64 (q : Int)) l4 (show g ≠ w.heap.size by omega)
      have tz := Turn.set3 (b := w.heap.size) (u := .int .i64 4) (v := .int .i64 3) (x := .int .i64 (q : Int)) ((HT.out.trans t1).trans t4) (.inr (Nat.le_refl _))
      generalize (((w4.setCell ⟨w.heap.size, 0, none⟩ (.int .i64 4)).setCell ⟨w.heap.size, 1, none⟩ (.int .i64 3)).setCell ⟨w.heap.size, 2, none⟩ (.int .i64 (q : Int))) = we at fz sz lz tz ⊢
      have e0 := fz.c0
      have e1 := fz.c1
      have e2 := fz.c2
      rw [Exit.noGoto_ret]
      obtain rfl : q = a + r := by omega
      rw [show k + (a + r - a) = k + r by omega] at lz
      exact bodyPost_ret (v := .agg #[.int .i64 4, .int .i64 3, .int .i64 ((a + r : Nat) : Int)]) (by simp [results, Tryz.results122, go_sem, e0, e1, e2]) rfl ⟨rfl, q1, sz, lz, tz⟩
    · skip
      have hwk : (x.used (k + (q - a))).work 1 = (x.used (k + (q - a) + 1), true) := Led.used_yes HX.out (by have := HS.out; omega)
      have HW := Lib.hid hwk
      clear hwk
      by_cases hq : q < s.size
      · cases rm
        · by_cases h35 : bat s q = 35
          · have i35 : ((bat s q : Nat) : Int) = 35 := by omega
            go_wp2_with (first
              | (go_at_call 52; refine (srcAt_at H.out).mono ?_; rintro e w1 ⟨rfl, rfl⟩)
              | (go_at_call 69; refine (srcU8_yes H.out HO.out HL.out HOK.out HW.out hq).mono ?_; rintro e w1 ⟨rfl, s1, l1, t1⟩))
            go_roundg (s.size - q)
            case measure => omega
            case rel => exact ⟨q + 1, true, by omega, rfl, by omega, by omega, by omega, by have := HQ.out; rw [over_hash (by omega) h35] at this; omega, s1, by rw [show q + 1 - a = q - a + 1 by omega]; exact l1, HF.out.turn t1 (not_two (by omega) (by omega)), HT.out.trans t1⟩
          · have i35 : ¬ ((bat s q : Nat) : Int) = 35 := by omega
            by_cases hb : isBlank (bat s q) = true
            · go_wp2_with (first
                | (go_at_call 52; refine (srcAt_at H.out).mono ?_; rintro e w1 ⟨rfl, rfl⟩)
                | (go_at_call 69; refine (srcU8_yes H.out HO.out HL.out HOK.out HW.out hq).mono ?_; rintro e w1 ⟨rfl, s1, l1, t1⟩)
                | (go_at_call 72; refine (blank_any (bat s q) _).mono ?_; rintro e w2 ⟨rfl, rfl⟩; rw [hb]))
              go_roundg (s.size - q)
              case measure => omega
              case rel => exact ⟨q + 1, false, by omega, rfl, by omega, by omega, by omega, by have := HQ.out; rw [over_blank (by omega) hb] at this; omega, s1, by rw [show q + 1 - a = q - a + 1 by omega]; exact l1, HF.out.turn t1 (not_two (by omega) (by omega)), HT.out.trans t1⟩
            · exact absurd HQ.out (by rw [over_stop (by omega) h35 (bool_no hb)]; have := HR.out; omega)
        · skip
          go_wp2_with (first
            | (go_at_call 52; refine (srcAt_at H.out).mono ?_; rintro e w1 ⟨rfl, rfl⟩)
            | (go_at_call 69; refine (srcU8_yes H.out HO.out HL.out HOK.out HW.out hq).mono ?_; rintro e w1 ⟨rfl, s1, l1, t1⟩)
            | (go_at_call 134; refine (tokEnd_any (bat s q) _).mono ?_; rintro e w2 ⟨rfl, rfl⟩))
          go_roundg (s.size - q)
          case measure => omega
          case rel => exact ⟨q + 1, !isEnd (bat s q), by omega, rfl, by omega, by omega, by omega, by have := HQ.out; rw [over_remark (by omega)] at this; unfold bat; omega, s1, by rw [show q + 1 - a = q - a + 1 by omega]; exact l1, HF.out.turn t1 (not_two (by omega) (by omega)), HT.out.trans t1⟩
      · exact absurd HQ.out (by rw [over_end rm (by omega)]; have := HR.out; omega)
end Go.Proofs.YthljhebbblhakaaGreatDoor
