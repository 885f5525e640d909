/- The reader of tokens: digits. -/
import Derived.Test.YthljhebbblhakaaGreatDoorETok2
namespace Go.Proofs.YthljhebbblhakaaGreatDoor
open Go.RowKit
set_option linter.unusedVariables false
set_option linter.unusedSimpArgs false

theorem up_int {v b : Nat} (hv : v ≤ 1000000000) (h1 : 48 ≤ b) (h2 : b < 256) : min (10 * (v : Int) + (b : Int) - 48) 1000000000 = ((up v b : Nat) : Int) := by unfold up; omega
set_option maxRecDepth 100000 in
set_option maxHeartbeats 1000000 in
theorem tokDigits_yes {w : World} {p g : Nat} {s : ByteArray} {a k v dn dt : Nat} {x : Led} (h : SrcAt w p g s 0 s.size a) (o : SrcOk s 0 s.size a) (hl : LedAt w g (x.used k)) (hx : x.reason = 0) (ok : x.Ok) (hv : v ≤ 1000000000) (hdn : digN ((nats s).drop a) = dn) (hdt : dt = if a + dn < s.size then 1 else 0) (hs : x.steps + k + dn + dt ≤ x.S) :
    Calls Tryz.prog 97 #[.pointer (some ⟨p, 0, none⟩), .int .i64 (v : Int)] w fun e w' => e = .returned (.tuple #[.int .i64 (digV v ((nats s).drop a) : Int), .agg #[.int .i64 0, .int .i64 0, .int .i64 0]]) ∧ SrcAt w' p g s 0 s.size (a + dn) ∧ LedAt w' g (x.used (k + dn + dt)) ∧ Turn [p, g] w w' := by
  have hpl := Blk.lt h
  have hgl := Blk.lt hl
  have hpg := h.ne hl
  have hal := o.at_
  have hsm := o.sm
  have hlen := nats_len s
  have S1 : SrcAt (w.alloc (.cells #[.int .i64 0, .int .i64 0, .int .i64 0] 33)) p g s 0 s.size a := Blk.alloc h _
  have L1 : LedAt (w.alloc (.cells #[.int .i64 0, .int .i64 0, .int .i64 0] 33)) g (x.used k) := Blk.alloc hl _
  have F1 : FL (w.alloc (.cells #[.int .i64 0, .int .i64 0, .int .i64 0] 33)) w.heap.size 0 0 0 := Blk.new _ _ _
  have T1 : Turn [p, g] w (w.alloc (.cells #[.int .i64 0, .int .i64 0, .int .i64 0] 33)) := (Turn.refl _ _).alloc _
  have HX := Lib.hid hx
  have HK := Lib.hid ok
  have HS := Lib.hid hs
  have HDN := Lib.hid hdn
  have HDT := Lib.hid hdt
  generalize hdv : digV v ((nats s).drop a) = dv
  have HDV := Lib.hid hdv
  clear h hl hx ok hs hdn hdv o hdt
  go_enter Tryz.func97, Tryz.ntmps97
  go_wp2_with fail
  show Code.wp _ _ _ _ (w.alloc (.cells #[.int .i64 0, .int .i64 0, .int .i64 0] 33))
  generalize (w.alloc (.cells #[.int .i64 0, .int .i64 0, .int .i64 0] 33)) = wv at S1 L1 F1 T1 ⊢
  go_loopg [1] (s.size - a + 1) (fun n vt wr => ∃ (q vv : Nat), q + n = s.size + 1 ∧ vt = .int .i64 (vv : Int) ∧ a ≤ q ∧ q ≤ s.size ∧ vv ≤ 1000000000 ∧ (q - a) + digN ((nats s).drop q) = dn ∧ digV vv ((nats s).drop q) = dv ∧ SrcAt wr p g s 0 s.size q ∧ LedAt wr g (x.used (k + (q - a))) ∧ FL wr w.heap.size 0 0 0 ∧ Turn [p, g] w wr)
  case atStart => exact ⟨a, v, by omega, rfl, Nat.le_refl _, hal, hv, by rw [HDN.out]; omega, HDV.out, S1, by rw [Nat.sub_self]; exact L1, F1, T1⟩
  case round =>
    obtain ⟨q, vv, hn, rfl, q0, q1, v1, hcq, hvq, h, hl, hf, ht⟩ := hrel
    have ho : SrcOk s 0 s.size q := ⟨by omega, q1, Nat.le_refl _, hsm⟩
    have hok : (x.used (k + (q - a))).Ok := Led.used_ok HK.out (by have := HS.out; omega)
    have hsz := ht.size
    have H := Lib.hid h
    have HL := Lib.hid hl
    have HF := Lib.hid hf
    have HT := Lib.hid ht
    have HO := Lib.hid ho
    have HOK := Lib.hid hok
    have HQ := Lib.hid hcq
    have HV := Lib.hid hvq
    clear h hl hf ht ho hok hcq hvq
    by_cases hq : q < s.size
    · have iq : (0 : Int) < ((s.size - q : Nat) : Int) := by omega
      have hwk : (x.used (k + (q - a))).work 1 = (x.used (k + (q - a) + 1), true) := by
        refine Led.used_yes HX.out ?_
        have h1 := HS.out
        rw [HDT.out] at h1
        have h2 := HQ.out
        split at h1
        · omega
        · by_cases hd0 : digN ((nats s).drop q) = 0 <;> omega
      have HW := Lib.hid hwk
      clear hwk
      by_cases hd : isDigit (bat s q) = true
      · skip
        have hd' : 48 ≤ bat s q ∧ bat s q ≤ 57 := by unfold isDigit at hd; simpa using hd
        have j8 : ¬ ((bat s q : Nat) : Int) < 48 := by omega
        have j9 : ¬ (57 : Int) < ((bat s q : Nat) : Int) := by omega
        obtain ⟨d1, d2⟩ := dig_yes (l := nats s) (q := q) (by omega) hd vv
        have hnext : (q + 1 - a) + digN ((nats s).drop (q + 1)) = dn := by have := HQ.out; rw [d1] at this; omega
        have hvnext : digV (up vv (bat s q)) ((nats s).drop (q + 1)) = dv := by rw [← HV.out, d2]; rfl
        have HN1 := Lib.hid hnext
        have HN2 := Lib.hid hvnext
        have hb256 := bat_lt s q
        have hup := up_int v1 hd'.1 hb256
        have ha1 : IntKind.i64.wrap (10 * (vv : Int)) = 10 * (vv : Int) := IntWalk.i64_in _ (by omega)
        have hup2 := up_lt vv (bat s q)
        have HUP := Lib.hid hup
        clear d1 d2 hnext hvnext hup
        go_wp2_with (first
          | (go_at_call 123; refine (srcLeft_at H.out HO.out).mono ?_; rintro e w8 ⟨rfl, nn, rfl⟩; have s9 : SrcAt _ p g s 0 s.size q := Blk.drewN H.out nn; have l9 : LedAt _ g (x.used (k + (q - a))) := Blk.drewN HL.out nn; have f9 : FL _ w.heap.size 0 0 0 := Blk.drewN HF.out nn; have t9 : Turn [p, g] w _ := Turn.drewN HT.out nn)
          | (go_at_call 52; refine (srcAt_at s9).mono ?_; rintro e w7 ⟨rfl, rfl⟩)
          | (go_at_call 69; refine (srcU8_yes s9 HO.out l9 HOK.out HW.out hq).mono ?_; rintro e w1 ⟨rfl, s1, l1, t01⟩; have t1 := t9.trans t01; have f1 := FL.turn f9 t01 (not_two (by omega) (by omega)); have c0 := FL.c0 f1; have c1 := FL.c1 f1; have c2 := FL.c2 f1; have z0 := Blk.frozen f1 0; have z1 := Blk.frozen f1 1; have z2 := Blk.frozen f1 2; have b3 := Blk.lt f1))
        all_goals
          go_roundg (s.size - q)
          case measure => omega
          case rel => exact ⟨q + 1, up vv (bat s q), by omega, vint (by unfold up; omega), by omega, by omega, hup2, HN1.out, HN2.out, s1, by rw [show q + 1 - a = q - a + 1 by omega]; exact l1, f1, t1⟩
      · have hd0 : isDigit (bat s q) = false := bool_no hd
        obtain ⟨d1, d2⟩ := dig_no (l := nats s) (q := q) (by omega) hd0 vv
        have HVV : Hid (dv = vv) := Lib.hid (by rw [← HV.out, d2])
        have hqa : q = a + dn := by have := HQ.out; rw [d1] at this; omega
        have HQA := Lib.hid hqa
        have HLA : Hid (k + (q - a) + 1 = k + dn + dt) := Lib.hid (by rw [HDT.out, if_pos (by omega)]; omega)
        clear d1 d2 hqa
        by_cases h48 : bat s q < 48
        · have j8 : ((bat s q : Nat) : Int) < 48 := by omega
          go_wp2_with (first
            | (go_at_call 123; refine (srcLeft_at H.out HO.out).mono ?_; rintro e w8 ⟨rfl, nn, rfl⟩; have s9 : SrcAt _ p g s 0 s.size q := Blk.drewN H.out nn; have l9 : LedAt _ g (x.used (k + (q - a))) := Blk.drewN HL.out nn; have f9 : FL _ w.heap.size 0 0 0 := Blk.drewN HF.out nn; have t9 : Turn [p, g] w _ := Turn.drewN HT.out nn)
            | (go_at_call 52; refine (srcAt_at s9).mono ?_; rintro e w7 ⟨rfl, rfl⟩)
            | (go_at_call 69; refine (srcU8_yes s9 HO.out l9 HOK.out HW.out hq).mono ?_; rintro e w1 ⟨rfl, s1, l1, t01⟩; have t1 := t9.trans t01; have f1 := FL.turn f9 t01 (not_two (by omega) (by omega)))
            | (go_at_call 124; refine (srcSeek_yes q s1 (by omega) (by omega)).mono ?_; rintro e w3 ⟨rfl, s3, t03⟩; have l3 := LedAt.turn l1 t03 (not_mem_one (fun e => hpg e.symm)); have f3 := FL.turn f1 t03 (not_mem_one (by omega)); have t3 := t1.trans (t03.mono (by simp)); have c0 := FL.c0 f3; have c1 := FL.c1 f3; have c2 := FL.c2 f3; have z0 := Blk.frozen f3 0; have z1 := Blk.frozen f3 1; have z2 := Blk.frozen f3 2; have b3 := Blk.lt f3))
          have fz := FL.store (k' := 0) (f' := 0) (a' := 0) f3
          have sz := SrcAt.set3 (u := .int .i64 0) (v := .int .i64 0) (x := .int .i64 0) s3 (show p ≠ w.heap.size by omega)
          have lz := LedAt.set3 (u := .int .i64 0) (v := .int .i64 0) (x := .int .i64 0) l3 (show g ≠ w.heap.size by omega)
          have tz := Turn.set3 (b := w.heap.size) (u := .int .i64 0) (v := .int .i64 0) (x := .int .i64 0) t3 (.inr (Nat.le_refl _))
          generalize (((w3.setCell ⟨w.heap.size, 0, none⟩ (.int .i64 0)).setCell ⟨w.heap.size, 1, none⟩ (.int .i64 0)).setCell ⟨w.heap.size, 2, none⟩ (.int .i64 0)) = we at fz sz lz tz ⊢
          have e0 := fz.c0
          have e1 := fz.c1
          have e2 := fz.c2
          rw [HQA.out] at sz
          rw [HLA.out] at lz
          exact bodyPost_ret (v := .tuple #[.int .i64 (vv : Int), .agg #[.int .i64 0, .int .i64 0, .int .i64 0]]) (by simp [results, Tryz.results97, go_sem, e0, e1, e2]) rfl ⟨by rw [HVV.out], sz, lz, tz⟩
        · have j8 : ¬ ((bat s q : Nat) : Int) < 48 := by omega
          have j9 : (57 : Int) < ((bat s q : Nat) : Int) := by unfold isDigit at hd0; simp at hd0; omega
          go_wp2_with (first
            | (go_at_call 123; refine (srcLeft_at H.out HO.out).mono ?_; rintro e w8 ⟨rfl, nn, rfl⟩; have s9 : SrcAt _ p g s 0 s.size q := Blk.drewN H.out nn; have l9 : LedAt _ g (x.used (k + (q - a))) := Blk.drewN HL.out nn; have f9 : FL _ w.heap.size 0 0 0 := Blk.drewN HF.out nn; have t9 : Turn [p, g] w _ := Turn.drewN HT.out nn)
            | (go_at_call 52; refine (srcAt_at s9).mono ?_; rintro e w7 ⟨rfl, rfl⟩)
            | (go_at_call 69; refine (srcU8_yes s9 HO.out l9 HOK.out HW.out hq).mono ?_; rintro e w1 ⟨rfl, s1, l1, t01⟩; have t1 := t9.trans t01; have f1 := FL.turn f9 t01 (not_two (by omega) (by omega)))
            | (go_at_call 124; refine (srcSeek_yes q s1 (by omega) (by omega)).mono ?_; rintro e w3 ⟨rfl, s3, t03⟩; have l3 := LedAt.turn l1 t03 (not_mem_one (fun e => hpg e.symm)); have f3 := FL.turn f1 t03 (not_mem_one (by omega)); have t3 := t1.trans (t03.mono (by simp)); have c0 := FL.c0 f3; have c1 := FL.c1 f3; have c2 := FL.c2 f3; have z0 := Blk.frozen f3 0; have z1 := Blk.frozen f3 1; have z2 := Blk.frozen f3 2; have b3 := Blk.lt f3))
          have fz := FL.store (k' := 0) (f' := 0) (a' := 0) f3
          have sz := SrcAt.set3 (u := .int .i64 0) (v := .int .i64 0) (x := .int .i64 0) s3 (show p ≠ w.heap.size by omega)
          have lz := LedAt.set3 (u := .int .i64 0) (v := .int .i64 0) (x := .int .i64 0) l3 (show g ≠ w.heap.size by omega)
          have tz := Turn.set3 (b := w.heap.size) (u := .int .i64 0) (v := .int .i64 0) (x := .int .i64 0) t3 (.inr (Nat.le_refl _))
          generalize (((w3.setCell ⟨w.heap.size, 0, none⟩ (.int .i64 0)).setCell ⟨w.heap.size, 1, none⟩ (.int .i64 0)).setCell ⟨w.heap.size, 2, none⟩ (.int .i64 0)) = we at fz sz lz tz ⊢
          have e0 := fz.c0
          have e1 := fz.c1
          have e2 := fz.c2
          rw [HQA.out] at sz
          rw [HLA.out] at lz
          exact bodyPost_ret (v := .tuple #[.int .i64 (vv : Int), .agg #[.int .i64 0, .int .i64 0, .int .i64 0]]) (by simp [results, Tryz.results97, go_sem, e0, e1, e2]) rfl ⟨by rw [HVV.out], sz, lz, tz⟩
    · have iq : ¬ (0 : Int) < ((s.size - q : Nat) : Int) := by omega
      obtain ⟨d1, d2⟩ := dig_end (l := nats s) (q := q) (by omega) vv
      have HVV : Hid (dv = vv) := Lib.hid (by rw [← HV.out, d2])
      have hqa : q = a + dn := by have := HQ.out; rw [d1] at this; omega
      have HQA := Lib.hid hqa
      have HLA : Hid (k + (q - a) = k + dn + dt) := Lib.hid (by rw [HDT.out, if_neg (by omega)]; omega)
      clear d1 d2 hqa
      go_wp2_with (first
        | (go_at_call 123; refine (srcLeft_at H.out HO.out).mono ?_; rintro e w8 ⟨rfl, nn, rfl⟩; have s9 : SrcAt _ p g s 0 s.size q := Blk.drewN H.out nn; have l9 : LedAt _ g (x.used (k + (q - a))) := Blk.drewN HL.out nn; have f9 : FL _ w.heap.size 0 0 0 := Blk.drewN HF.out nn; have t9 : Turn [p, g] w _ := Turn.drewN HT.out nn; have k0 := FL.c0 HF.out; have k1 := FL.c1 HF.out; have k2 := FL.c2 HF.out; have y0 := Blk.frozen HF.out 0; have y1 := Blk.frozen HF.out 1; have y2 := Blk.frozen HF.out 2; have b4 := Blk.lt HF.out))
      have fz := FL.store (k' := 0) (f' := 0) (a' := 0) f9
      have sz := SrcAt.set3 (u := .int .i64 0) (v := .int .i64 0) (x := .int .i64 0) s9 (show p ≠ w.heap.size by omega)
      have lz := LedAt.set3 (u := .int .i64 0) (v := .int .i64 0) (x := .int .i64 0) l9 (show g ≠ w.heap.size by omega)
      have tz := Turn.set3 (b := w.heap.size) (u := .int .i64 0) (v := .int .i64 0) (x := .int .i64 0) t9 (.inr (Nat.le_refl _))
      generalize ((((wr.drewN nn).setCell ⟨w.heap.size, 0, none⟩ (.int .i64 0)).setCell ⟨w.heap.size, 1, none⟩ (.int .i64 0)).setCell ⟨w.heap.size, 2, none⟩ (.int .i64 0)) = we at fz sz lz tz ⊢
      have e0 := fz.c0
      have e1 := fz.c1
      have e2 := fz.c2
      rw [HQA.out] at sz
      rw [HLA.out] at lz
      exact bodyPost_ret (v := .tuple #[.int .i64 (vv : Int), .agg #[.int .i64 0, .int .i64 0, .int .i64 0]]) (by simp [results, Tryz.results97, go_sem, e0, e1, e2]) rfl ⟨by rw [HVV.out], sz, lz, tz⟩

set_option maxRecDepth 100000 in
set_option maxHeartbeats 1000000 in
theorem tokDigits_spent {w : World} {p g : Nat} {s : ByteArray} {a k v dn dt r : Nat} {x : Led} (h : SrcAt w p g s 0 s.size a) (o : SrcOk s 0 s.size a) (hl : LedAt w g (x.used k)) (hx : x.reason = 0) (ok : x.Ok) (hv : v ≤ 1000000000) (hdn : digN ((nats s).drop a) = dn) (hdt : dt = if a + dn < s.size then 1 else 0) (hs : x.steps + k + r = x.S) (hr : r < dn + dt) :
    Calls Tryz.prog 97 #[.pointer (some ⟨p, 0, none⟩), .int .i64 (v : Int)] w fun e w' => ∃ z : Nat, (z ≤ s.size ∧ z = a + r) ∧ e = .returned (.tuple #[.int .i64 0, .agg #[.int .i64 4, .int .i64 3, .int .i64 (z : Int)]]) ∧ SrcAt w' p g s 0 s.size z ∧ LedAt w' g ((x.used (k + r)).refused 3 1) ∧ Turn [p, g] w w' := by
  have hpl := Blk.lt h
  have hgl := Blk.lt hl
  have hpg := h.ne hl
  have hal := o.at_
  have hsm := o.sm
  have hlen := nats_len s
  have S1 : SrcAt (w.alloc (.cells #[.int .i64 0, .int .i64 0, .int .i64 0] 33)) p g s 0 s.size a := Blk.alloc h _
  have L1 : LedAt (w.alloc (.cells #[.int .i64 0, .int .i64 0, .int .i64 0] 33)) g (x.used k) := Blk.alloc hl _
  have F1 : FL (w.alloc (.cells #[.int .i64 0, .int .i64 0, .int .i64 0] 33)) w.heap.size 0 0 0 := Blk.new _ _ _
  have T1 : Turn [p, g] w (w.alloc (.cells #[.int .i64 0, .int .i64 0, .int .i64 0] 33)) := (Turn.refl _ _).alloc _
  have HX := Lib.hid hx
  have HK := Lib.hid ok
  have HS := Lib.hid hs
  have HDN := Lib.hid hdn
  have HDT := Lib.hid hdt
  have HR := Lib.hid hr
  clear h hl hx ok hs hdn o hr hdt
  go_enter Tryz.func97, Tryz.ntmps97
  go_wp2_with fail
  show Code.wp _ _ _ _ (w.alloc (.cells #[.int .i64 0, .int .i64 0, .int .i64 0] 33))
  generalize (w.alloc (.cells #[.int .i64 0, .int .i64 0, .int .i64 0] 33)) = wv at S1 L1 F1 T1 ⊢
  go_loopg [1] (s.size - a + 1) (fun n vt wr => ∃ (q vv : Nat), q + n = s.size + 1 ∧ vt = .int .i64 (vv : Int) ∧ a ≤ q ∧ q ≤ s.size ∧ vv ≤ 1000000000 ∧ q - a ≤ r ∧ (q - a) + digN ((nats s).drop q) = dn ∧ SrcAt wr p g s 0 s.size q ∧ LedAt wr g (x.used (k + (q - a))) ∧ FL wr w.heap.size 0 0 0 ∧ Turn [p, g] w wr)
  case atStart => exact ⟨a, v, by omega, rfl, Nat.le_refl _, hal, hv, by omega, by rw [HDN.out]; omega, S1, by rw [Nat.sub_self]; exact L1, F1, T1⟩
  case round =>
    obtain ⟨q, vv, hn, rfl, q0, q1, v1, q2, hcq, h, hl, hf, ht⟩ := hrel
    have ho : SrcOk s 0 s.size q := ⟨by omega, q1, Nat.le_refl _, hsm⟩
    have hok : (x.used (k + (q - a))).Ok := Led.used_ok HK.out (by have := HS.out; omega)
    have hsz := ht.size
    have H := Lib.hid h
    have HL := Lib.hid hl
    have HF := Lib.hid hf
    have HT := Lib.hid ht
    have HO := Lib.hid ho
    have HOK := Lib.hid hok
    have HQ := Lib.hid hcq
    clear h hl hf ht ho hok hcq
    have hq : q < s.size := by
      refine Nat.lt_of_not_le fun hge => ?_
      have h1 := HQ.out
      have h2 := HR.out
      rw [(dig_end (l := nats s) (q := q) (by omega) vv).1] at h1
      rw [HDT.out, if_neg (by omega)] at h2
      omega
    have iq : (0 : Int) < ((s.size - q : Nat) : Int) := by omega
    by_cases hqr : q - a = r
    · have hwk : (x.used (k + (q - a))).work 1 = ((x.used (k + (q - a))).refused 3 1, false) := Led.used_no HX.out (by have := HS.out; omega)
      have HW := Lib.hid hwk
      have HE : Hid (((x.used (k + (q - a))).refused 3 1).reason ≠ 0) := Lib.hid (by simp [Led.refused])
      have HLA : Hid (k + (q - a) = k + r) := Lib.hid (by omega)
      have HQE : Hid (q = a + r) := Lib.hid (by omega)
      clear hwk
      go_wp2_with (first
        | (go_at_call 123; refine (srcLeft_at H.out HO.out).mono ?_; rintro e w8 ⟨rfl, nn, rfl⟩; have s9 : SrcAt _ p g s 0 s.size q := Blk.drewN H.out nn; have l9 : LedAt _ g (x.used (k + (q - a))) := Blk.drewN HL.out nn; have f9 : FL _ w.heap.size 0 0 0 := Blk.drewN HF.out nn; have t9 : Turn [p, g] w _ := Turn.drewN HT.out nn)
        | (go_at_call 52; refine (srcAt_at s9).mono ?_; rintro e w7 ⟨rfl, rfl⟩)
        | (go_at_call 69; refine (srcU8_spent s9 l9 HOK.out HW.out).mono ?_; rintro e w1 ⟨rfl, s1, l1, t01⟩; have t1 := t9.trans t01; have f1 := FL.turn f9 t01 (not_two (by omega) (by omega)))
        | (go_at_call 43; refine (srcFault_spent 3 s1 l1 HE.out).mono ?_; rintro e w4 ⟨rfl, b4⟩; have t04 : Turn [p, g] _ w4 := Turn.of_below b4; have t4 := t1.trans t04; have s4 := Blk.below s1 b4 (Blk.lt s1); have l4 := Blk.below l1 b4 (Blk.lt l1); have f4 : FL w4 w.heap.size 0 0 0 := Blk.below f1 b4 (Blk.lt f1); have c0 := FL.c0 f4; have c1 := FL.c1 f4; have c2 := FL.c2 f4; have z0 := Blk.frozen f4 0; have z1 := Blk.frozen f4 1; have z2 := Blk.frozen f4 2; have b3 := Blk.lt f4))
      have fz := FL.store (k' := 4) (f' := 3) (a' := (q : Int)) f4
      have sz := SrcAt.set3 (u := .int .i64 4) (v := .int .i64 3) (x := .int .i64 (q : Int)) s4 (show p ≠ w.heap.size by omega)
      have lz := LedAt.set3 (u := .int .i64 4) (v := .int .i64 3) (x := .int .i64 (q : Int)) l4 (show g ≠ w.heap.size by omega)
      have tz := Turn.set3 (b := w.heap.size) (u := .int .i64 4) (v := .int .i64 3) (x := .int .i64 (q : Int)) t4 (.inr (Nat.le_refl _))
      generalize (((w4.setCell ⟨w.heap.size, 0, none⟩ (.int .i64 4)).setCell ⟨w.heap.size, 1, none⟩ (.int .i64 3)).setCell ⟨w.heap.size, 2, none⟩ (.int .i64 (q : Int))) = we at fz sz lz tz ⊢
      have e0 := fz.c0
      have e1 := fz.c1
      have e2 := fz.c2
      rw [HLA.out] at lz
      exact bodyPost_ret (v := .tuple #[.int .i64 0, .agg #[.int .i64 4, .int .i64 3, .int .i64 (q : Int)]]) (by simp [results, Tryz.results97, go_sem, e0, e1, e2]) rfl ⟨q, ⟨q1, HQE.out⟩, rfl, sz, lz, tz⟩
    · have hwk : (x.used (k + (q - a))).work 1 = (x.used (k + (q - a) + 1), true) := Led.used_yes HX.out (by have := HS.out; omega)
      have HW := Lib.hid hwk
      clear hwk
      by_cases hd : isDigit (bat s q) = true
      · skip
        have hd' : 48 ≤ bat s q ∧ bat s q ≤ 57 := by unfold isDigit at hd; simpa using hd
        have j8 : ¬ ((bat s q : Nat) : Int) < 48 := by omega
        have j9 : ¬ (57 : Int) < ((bat s q : Nat) : Int) := by omega
        obtain ⟨d1, d2⟩ := dig_yes (l := nats s) (q := q) (by omega) hd vv
        have hnext : (q + 1 - a) + digN ((nats s).drop (q + 1)) = dn := by have := HQ.out; rw [d1] at this; omega
        have HN1 := Lib.hid hnext
        have hb256 := bat_lt s q
        have hup := up_int v1 hd'.1 hb256
        have ha1 : IntKind.i64.wrap (10 * (vv : Int)) = 10 * (vv : Int) := IntWalk.i64_in _ (by omega)
        have hup2 := up_lt vv (bat s q)
        have HUP := Lib.hid hup
        clear d1 d2 hnext hup
        go_wp2_with (first
          | (go_at_call 123; refine (srcLeft_at H.out HO.out).mono ?_; rintro e w8 ⟨rfl, nn, rfl⟩; have s9 : SrcAt _ p g s 0 s.size q := Blk.drewN H.out nn; have l9 : LedAt _ g (x.used (k + (q - a))) := Blk.drewN HL.out nn; have f9 : FL _ w.heap.size 0 0 0 := Blk.drewN HF.out nn; have t9 : Turn [p, g] w _ := Turn.drewN HT.out nn)
          | (go_at_call 52; refine (srcAt_at s9).mono ?_; rintro e w7 ⟨rfl, rfl⟩)
          | (go_at_call 69; refine (srcU8_yes s9 HO.out l9 HOK.out HW.out hq).mono ?_; rintro e w1 ⟨rfl, s1, l1, t01⟩; have t1 := t9.trans t01; have f1 := FL.turn f9 t01 (not_two (by omega) (by omega)); have c0 := FL.c0 f1; have c1 := FL.c1 f1; have c2 := FL.c2 f1; have z0 := Blk.frozen f1 0; have z1 := Blk.frozen f1 1; have z2 := Blk.frozen f1 2; have b3 := Blk.lt f1))
        all_goals
          go_roundg (s.size - q)
          case measure => omega
          case rel => exact ⟨q + 1, up vv (bat s q), by omega, vint (by unfold up; omega), by omega, by omega, hup2, by omega, HN1.out, s1, by rw [show q + 1 - a = q - a + 1 by omega]; exact l1, f1, t1⟩
      · exfalso
        have h1 := HQ.out
        have h2 := HR.out
        have h3 : dt ≤ 1 := by rw [HDT.out]; split <;> omega
        rw [(dig_no (l := nats s) (q := q) (by omega) (bool_no hd) vv).1] at h1
        omega
end Go.Proofs.YthljhebbblhakaaGreatDoor
