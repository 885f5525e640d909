/- The ways of a number, of a digit, of one byte: what is read, or told, by whatever budget. -/
import Derived.Test.YtgmgcfjllijhgaaGreatVPnmD
import Derived.Test.YtgmgcfjllijhgaaGreatVTok4
import Derived.Test.YtgmgcfjllijhgaaGreatVTok5
import Derived.Test.YtgmgcfjllijhgaaGreatVWays
namespace Go.Proofs.YtgmgcfjllijhgaaGreat
open Go.RowKit
set_option linter.unusedVariables false
set_option linter.unusedSimpArgs false

/-- the ways of a step: a fault, or a result and the place behind it; and what it asks of the budget -/
def Ways {α : Type} (C : World → (Ending → World → Prop) → Prop) (p g : Nat) (s : ByteArray) (a : Nat) (x : Led) (D : Nat → (α → Dec) → Dec) (no : Nat → Nat → Value) (yes : α → Value) (nx : α → Nat) (good : α → Prop) : Prop :=
 (∃ (kk aa : Nat) (y : Led), kk ≠ 0 ∧ y.Ok ∧ y.bytes = x.bytes ∧ (∀ (z : Nat) k, (D z k).run x = ((y.give (z : Int)).1, .bad kk aa)) ∧
   ∀ w, SrcAt w p g s 0 s.size a → LedAt w g x → C w fun e w' => e = .returned (no kk aa) ∧ LedAt w' g y ∧ Turn [p, g] w w') ∨
 (∃ (r : α) (y : Led), good r ∧ y.Ok ∧ y.bytes = x.bytes ∧ y.reason = 0 ∧ (∀ (z : Nat) k, (D z k).run x = (k r).run y) ∧
   ∀ w, SrcAt w p g s 0 s.size a → LedAt w g x → C w fun e w' => e = .returned (yes r) ∧ SrcAt w' p g s 0 s.size (nx r) ∧ LedAt w' g y ∧ Turn [p, g] w w')
def ftV (kk aa : Nat) : Value := .agg #[.int .i64 (kk : Int), .int .i64 3, .int .i64 (aa : Int)]
def ft0 : Value := .agg #[.int .i64 0, .int .i64 0, .int .i64 0]
def tokNo (kk aa : Nat) : Value := .tuple #[.int .i64 0, .int .i64 0, ftV kk aa]
def tokYes (r : Nat × Nat × Nat) : Value := .tuple #[.int .i64 (r.1 : Int), .int .i64 (r.2.1 : Int), ft0]
section
variable {x : Led} {j : Nat}
theorem Led.used_refused (ok : x.Ok) (hx : x.reason = 0) (hj : x.steps + j = x.S) : ((x.used j).refused 3 1).Ok ∧ ((x.used j).refused 3 1).bytes = x.bytes := by
 have h := (Led.used_ok (k := j) ok (by omega)).work 1
 rw [Led.used_no hx hj] at h
 exact ⟨h, rfl⟩
end
set_option maxRecDepth 100000 in
set_option maxHeartbeats 1000000 in
theorem tokDigit_spent {w : World} {p g : Nat} {s : ByteArray} {a k f r : Nat} {x : Led} (h : SrcAt w p g s 0 s.size a) (o : SrcOk s 0 s.size a) (hl : LedAt w g (x.used k)) (hx : x.reason = 0) (ok : x.Ok) (hf : f = a + overN false ((nats s).drop a)) (hs : x.steps + k + r = x.S) (hr : r < f - a + 2) :
  Calls Tryz.prog 89 #[.pointer (some ⟨p, 0, none⟩)] w fun e w' => ∃ z : Nat, (z ≤ s.size ∧ z = a + min r (f - a)) ∧ e = .returned (.tuple #[.int .i64 0, .int .i64 0, .agg #[.int .i64 4, .int .i64 3, .int .i64 (z : Int)]]) ∧ LedAt w' g ((x.used (k + r)).refused 3 1) ∧ Turn [p, g] w w' := by
 have hpl := Blk.lt h
 have hgl := Blk.lt hl
 have hpg := h.ne hl
 have hal := o.at_
 have hsm := o.sm
 have hlen := nats_len s
 have S1 : SrcAt (w.alloc (.cells #[.int .i64 0, .int .i64 0, .int .i64 0] 34)) p g s 0 s.size a := Blk.alloc h _
 have L1 : LedAt (w.alloc (.cells #[.int .i64 0, .int .i64 0, .int .i64 0] 34)) g (x.used k) := Blk.alloc hl _
 have F1 : FL (w.alloc (.cells #[.int .i64 0, .int .i64 0, .int .i64 0] 34)) w.heap.size 0 0 0 := Blk.new _ _ _
 have T1 : Turn [p, g] w (w.alloc (.cells #[.int .i64 0, .int .i64 0, .int .i64 0] 34)) := (Turn.refl _ _).alloc _
 obtain ⟨c, hc⟩ : ∃ c, c = overN false ((nats s).drop a) := ⟨_, rfl⟩
 rw [← hc] at hf
 have HCF : Hid (c = f - a) := Lib.hid (by omega)
 have HF1 := Lib.hid (tokFirst_spent S1 o L1 hx ok hc.symm hs (by omega))
 clear h hl hx ok hs o S1 L1 hc hf
 go_enter Tryz.func89, Tryz.ntmps89
 go_wp2_with (first
  | (go_at_call 101; refine HF1.out.mono ?_; rintro e w1 ⟨z, hzs, rfl, s1, l1, t01⟩; have HZS := Lib.hid hzs; clear hzs; have t1 := T1.trans t01; have f1 : FL w1 w.heap.size 0 0 0 := FL.turn F1 t01 (not_two (by omega) (by omega)); have c0 := FL.c0 f1; have c1 := FL.c1 f1; have c2 := FL.c2 f1; have z0 := Blk.frozen f1 0; have z1 := Blk.frozen f1 1; have z2 := Blk.frozen f1 2; have b3 := Blk.lt f1; have s2 := SrcAt.set3 (u := .int .i64 4) (v := .int .i64 3) (x := .int .i64 (z : Int)) s1 (show p ≠ w.heap.size by omega); have l2 := LedAt.set3 (u := .int .i64 4) (v := .int .i64 3) (x := .int .i64 (z : Int)) l1 (show g ≠ w.heap.size by omega); have f2 := FL.store (k' := 4) (f' := 3) (a' := (z : Int)) f1; have t2 := Turn.set3 (b := w.heap.size) (u := .int .i64 4) (v := .int .i64 3) (x := .int .i64 (z : Int)) t1 (.inr (Nat.le_refl _))))
 have k0 := FL.c0 f2
 have k1 := FL.c1 f2
 have k2 := FL.c2 f2
 have y0 := Blk.frozen f2 0
 have y1 := Blk.frozen f2 1
 have y2 := Blk.frozen f2 2
 have b4 := Blk.lt f2
 clear c0 c1 c2 z0 z1 z2 b3
 generalize (((w1.setCell ⟨w.heap.size, 0, none⟩ (.int .i64 4)).setCell ⟨w.heap.size, 1, none⟩ (.int .i64 3)).setCell ⟨w.heap.size, 2, none⟩ (.int .i64 (z : Int))) = wv at s2 l2 f2 t2 k0 k1 k2 y0 y1 y2 b4 ⊢
 go_region
 all_goals go_wp2_with fail
 have fz := FL.store (k' := 4) (f' := 3) (a' := (z : Int)) f2
 have sz := SrcAt.set3 (u := .int .i64 4) (v := .int .i64 3) (x := .int .i64 (z : Int)) s2 (show p ≠ w.heap.size by omega)
 have lz := LedAt.set3 (u := .int .i64 4) (v := .int .i64 3) (x := .int .i64 (z : Int)) l2 (show g ≠ w.heap.size by omega)
 have tz := Turn.set3 (b := w.heap.size) (u := .int .i64 4) (v := .int .i64 3) (x := .int .i64 (z : Int)) t2 (.inr (Nat.le_refl _))
 replace fz := Blk.drew fz
 replace sz := Blk.drew sz
 replace lz := Blk.drew lz
 replace tz := Turn.drew tz
 generalize (((wv.setCell ⟨w.heap.size, 0, none⟩ (.int .i64 4)).setCell ⟨w.heap.size, 1, none⟩ (.int .i64 3)).setCell ⟨w.heap.size, 2, none⟩ (.int .i64 (z : Int))).drew = we at fz sz lz tz ⊢
 have e0 := FL.c0 fz
 have e1 := FL.c1 fz
 have e2 := FL.c2 fz
 exact bodyPost_ret (v := .tuple #[.int .i64 0, .int .i64 0, .agg #[.int .i64 4, .int .i64 3, .int .i64 (z : Int)]]) (by simp [results, Tryz.results89, go_sem, e0, e1, e2]) rfl ⟨z, ⟨HZS.out.1, by rw [← HCF.out]; exact HZS.out.2⟩, rfl, lz, tz⟩
section
variable {w : World} {p g a : Nat} {s : ByteArray} {x : Led}
/-- the steps of two stretches -/
theorem two_yes {z b n m : Nat} {k : Dec} (hx : x.reason = 0) (h : x.steps + (n + m : Nat) ≤ x.S) : (stepsD z a n (stepsD z b m k)).run x = k.run (x.used (n + m)) := by
 have h1 := stepsD_yes hx (z := z) (k := stepsD z b m k) n a 0 (by omega)
 rw [Led.used_zero] at h1
 rw [h1, stepsD_yes hx m b (0 + n) (by omega), Nat.zero_add]
theorem two_no1 {z b n m r : Nat} {k : Dec} (hx : x.reason = 0) (hs : x.steps + r = x.S) (hr : r < n) : (stepsD z a n (stepsD z b m k)).run x = ((((x.used r).refused 3 1).give (z : Int)).1, .bad 4 (a + r)) := by
 have h1 := stepsD_no hx (z := z) (k := stepsD z b m k) n a 0 r (by omega) hr
 rw [Led.used_zero, Nat.zero_add] at h1
 exact h1
theorem two_no2 {z b n m r : Nat} {k : Dec} (hx : x.reason = 0) (hs : x.steps + r = x.S) (hr : n ≤ r) (hm : r < n + m) : (stepsD z a n (stepsD z b m k)).run x = ((((x.used r).refused 3 1).give (z : Int)).1, .bad 4 (b + (r - n))) := by
 have h1 := stepsD_yes hx (z := z) (k := stepsD z b m k) n a 0 (by omega)
 rw [Led.used_zero] at h1
 rw [h1, stepsD_no hx m b (0 + n) (r - n) (by omega) (by omega), show 0 + n + (r - n) = r by omega]
theorem numC (o : SrcOk s 0 s.size a) (ok : x.Ok) (hx : x.reason = 0) :
  Ways (fun w Q => Calls Tryz.prog 81 #[.pointer (some ⟨p, 0, none⟩)] w Q) p g s a x (numD s a) tokNo tokYes (fun r => r.2.2) (fun r => numberAt (nats s) a = ⟨r.1, r.2.1, r.2.2, 0, 0⟩) := by
 have hal := o.at_
 obtain ⟨f1, f2⟩ := nFirst_le hal
 have hu : ∀ w, LedAt w g x → LedAt w g (x.used 0) := fun w hl => by rw [Led.used_zero]; exact hl
 obtain ⟨f, hf⟩ : ∃ f, nFirst (nats s) a = f := ⟨_, rfl⟩
 have hf' : f = a + overN false ((nats s).drop a) := hf.symm
 have hfs : f ≤ s.size := by omega
 have hlen := nats_len s
 obtain ⟨c, hc⟩ : ∃ c, overN false ((nats s).drop a) = c := ⟨_, rfl⟩
 have hfa : f - a = c := by omega
 have hD : ∀ z k, numD s a z k = stepsD z a (c + 1) (stepsD z f (nRest (nats s) f) (gotD z (numberAt (nats s) a) k)) := fun z k => by unfold numD; rw [hf, hc]
 obtain ⟨R, hR⟩ : ∃ R, nRest (nats s) f = R := ⟨_, rfl⟩
 have hD' : ∀ z k, numD s a z k = stepsD z a (c + 1) (stepsD z f R (gotD z (numberAt (nats s) a) k)) := fun z k => by rw [hD, hR]
 by_cases hen : x.steps + ((c + 1 + R : Nat) : Int) ≤ x.S
 ·have hyok : (x.used (c + 1 + R)).Ok := Led.used_ok ok hen
  have run : ∀ z k, (numD s a z k).run x = (gotD z (numberAt (nats s) a) k).run (x.used (c + 1 + R)) := fun z k => by rw [hD']; exact two_yes hx hen
  by_cases hlt : f < s.size
  ·by_cases hd : isDigit (bat s f) = true
   ·have hR1 : R = digN ((nats s).drop f) + (if f + digN ((nats s).drop f) < s.size then 1 else 0) := by
     rw [← hR]; unfold nRest; rw [hlen, if_pos hlt, if_pos (show isDigit ((nats s).getD f 0) = true from hd)]
    have hN : numberAt (nats s) a = ⟨digV 0 ((nats s).drop f), f, f + digN ((nats s).drop f), 0, 0⟩ := by
     unfold numberAt
     simp only
     rw [← hf', hlen, if_neg (by omega), if_pos (show isDigit ((nats s).getD f 0) = true from hd)]
    refine .inr ⟨(digV 0 ((nats s).drop f), f, f + digN ((nats s).drop f)), _, hN, hyok, rfl, hx, fun z k => by rw [run, hN]; rfl, fun w h hl => ?_⟩
    refine (tokNumber_yes (dn := digN ((nats s).drop f)) (dt := if f + digN ((nats s).drop f) < s.size then 1 else 0) h o (hu _ hl) hx ok hf' hlt hd rfl rfl (by omega)).mono ?_
    rintro e w' ⟨rfl, s1, l1, t1⟩
    rw [show 0 + (f - a + 1 + digN ((nats s).drop f) + (if f + digN ((nats s).drop f) < s.size then 1 else 0)) = c + 1 + R by omega] at l1
    exact ⟨rfl, s1, l1, t1⟩
   ·have hd' := bool_no hd
    have hR1 : R = 1 := by rw [← hR]; unfold nRest; rw [hlen, if_pos hlt, if_neg (show ¬ isDigit ((nats s).getD f 0) = true from hd)]
    have hN : numberAt (nats s) a = ⟨0, 0, 0, 2, f⟩ := by
     unfold numberAt
     simp only
     rw [← hf', hlen, if_neg (by omega), if_neg (show ¬ isDigit ((nats s).getD f 0) = true from hd)]
    refine .inl ⟨2, f, _, by decide, hyok, rfl, fun z k => by rw [run, hN]; rfl, fun w h hl => ?_⟩
    refine (tokNumber_none h o (hu _ hl) hx ok hf' (by omega) hlt hd').mono ?_
    rintro e w' ⟨rfl, s1, l1, t1⟩
    rw [show 0 + (f - a + 2) = c + 1 + R by omega] at l1
    exact ⟨rfl, l1, t1⟩
  ·have hR1 : R = 1 := by rw [← hR]; unfold nRest; rw [hlen, if_neg hlt]
   have hN : numberAt (nats s) a = ⟨0, 0, 0, 1, s.size⟩ := by
    unfold numberAt
    simp only
    rw [← hf', hlen, if_pos (by omega)]
   refine .inl ⟨1, s.size, _, by decide, hyok, rfl, fun z k => by rw [run, hN]; rfl, fun w h hl => ?_⟩
   refine (tokNumber_end h o (hu _ hl) hx ok hf' (by omega) (by omega)).mono ?_
   rintro e w' ⟨rfl, s1, l1, t1⟩
   rw [show 0 + (f - a + 2) = c + 1 + R by omega] at l1
   exact ⟨rfl, l1, t1⟩
 ·have ht := ok.t1
  obtain ⟨r, hr⟩ : ∃ r : Nat, x.steps + (r : Int) = x.S := ⟨(x.S - x.steps).toNat, by omega⟩
  obtain ⟨y1, y2⟩ := Led.used_refused ok hx hr
  have hrT : r < c + 1 + R := by omega
  by_cases h0 : r < c + 2
  ·obtain ⟨q, q2⟩ : ∃ q, q = a + min r (f - a) := ⟨_, rfl⟩
   refine .inl ⟨4, q, _, by decide, y1, y2, fun z k => ?_, fun w h hl => (tokNumber_spent1 (r := r) h o (hu _ hl) hx ok hf' (by omega) (by omega)).mono fun e w' ⟨q', ⟨_, hq⟩, he, l1, t1⟩ => ⟨by rw [he, hq, ← q2]; rfl, by rw [Nat.zero_add] at l1; exact l1, t1⟩⟩
   rw [hD']
   by_cases h1 : r < c + 1
   ·rw [two_no1 hx hr h1, q2, hfa, Nat.min_eq_left (by omega)]
   ·rw [two_no2 hx hr (by omega) hrT, q2, hfa, Nat.min_eq_right (by omega), show f + (r - (c + 1)) = a + c by omega]
  ·have hlt : f < s.size := by
    refine Nat.lt_of_not_le fun hge => ?_
    have : R = 1 := by rw [← hR]; unfold nRest; rw [hlen, if_neg (by omega)]
    omega
   have hd : isDigit (bat s f) = true := by
    cases hd : isDigit (bat s f) with
    | true => rfl
    | false =>
     have : R = 1 := by rw [← hR]; unfold nRest; rw [hlen, if_pos hlt, if_neg (show ¬ isDigit ((nats s).getD f 0) = true from by show ¬ isDigit (bat s f) = true; rw [hd]; decide)]
     omega
   have hR1 : R = digN ((nats s).drop f) + (if f + digN ((nats s).drop f) < s.size then 1 else 0) := by
    rw [← hR]; unfold nRest; rw [hlen, if_pos hlt, if_pos (show isDigit ((nats s).getD f 0) = true from hd)]
   obtain ⟨q, q2⟩ : ∃ q, q = f + 1 + (r - (f - a + 2)) := ⟨_, rfl⟩
   refine .inl ⟨4, q, _, by decide, y1, y2, fun z k => ?_, fun w h hl => (tokNumber_spent2 (r := r) (dn := digN ((nats s).drop f)) (dt := if f + digN ((nats s).drop f) < s.size then 1 else 0) h o (hu _ hl) hx ok hf' hlt hd rfl rfl (by omega) (by omega) (by omega)).mono fun e w' ⟨q', ⟨_, hq⟩, he, l1, t1⟩ => ⟨by rw [he, hq, ← q2]; rfl, by rw [Nat.zero_add] at l1; exact l1, t1⟩⟩
   rw [hD', two_no2 hx hr (by omega) hrT, q2, hfa, show f + (r - (c + 1)) = f + 1 + (r - (c + 2)) by omega]
theorem digC (o : SrcOk s 0 s.size a) (ok : x.Ok) (hx : x.reason = 0) :
  Ways (fun w Q => Calls Tryz.prog 89 #[.pointer (some ⟨p, 0, none⟩)] w Q) p g s a x (digD s a) tokNo tokYes (fun r => r.2.2) (fun r => digitAt (nats s) a = ⟨r.1, r.2.1, r.2.2, 0, 0⟩) := by
 have hal := o.at_
 obtain ⟨f1, f2⟩ := nFirst_le hal
 have hu : ∀ w, LedAt w g x → LedAt w g (x.used 0) := fun w hl => by rw [Led.used_zero]; exact hl
 obtain ⟨f, hf⟩ : ∃ f, nFirst (nats s) a = f := ⟨_, rfl⟩
 have hf' : f = a + overN false ((nats s).drop a) := hf.symm
 have hfs : f ≤ s.size := by omega
 have hlen := nats_len s
 obtain ⟨c, hc⟩ : ∃ c, overN false ((nats s).drop a) = c := ⟨_, rfl⟩
 have hfa : f - a = c := by omega
 have hD' : ∀ z k, digD s a z k = stepsD z a (c + 1) (stepsD z f 1 (gotD z (digitAt (nats s) a) k)) := fun z k => by unfold digD; rw [hf, hc]
 by_cases hen : x.steps + ((c + 1 + 1 : Nat) : Int) ≤ x.S
 ·have hyok : (x.used (c + 1 + 1)).Ok := Led.used_ok ok hen
  have run : ∀ z k, (digD s a z k).run x = (gotD z (digitAt (nats s) a) k).run (x.used (c + 1 + 1)) := fun z k => by rw [hD']; exact two_yes hx hen
  have h0e : 0 + (f - a + 2) = c + 1 + 1 := by omega
  by_cases hlt : f < s.size
  ·by_cases hd : bat s f = 48 ∨ bat s f = 49
   ·have hN : digitAt (nats s) a = ⟨bat s f - 48, f, f + 1, 0, 0⟩ := by
     unfold digitAt
     simp only
     rw [← hf', hlen, if_neg (by omega), if_pos (show (nats s).getD f 0 = 48 ∨ (nats s).getD f 0 = 49 from hd)]
     rfl
    rcases hd with hd | hd
    ·rw [hd] at hN
     refine .inr ⟨(0, f, f + 1), _, hN, hyok, rfl, hx, fun z k => by rw [run, hN]; rfl, fun w h hl => ?_⟩
     refine (tokDigit_yes48 h o (hu _ hl) hx ok hf' (by omega) hlt hd).mono ?_
     rintro e w' ⟨rfl, s1, l1, t1⟩
     rw [h0e] at l1
     exact ⟨rfl, s1, l1, t1⟩
    ·rw [hd] at hN
     refine .inr ⟨(1, f, f + 1), _, hN, hyok, rfl, hx, fun z k => by rw [run, hN]; rfl, fun w h hl => ?_⟩
     refine (tokDigit_yes49 h o (hu _ hl) hx ok hf' (by omega) hlt hd).mono ?_
     rintro e w' ⟨rfl, s1, l1, t1⟩
     rw [h0e] at l1
     exact ⟨rfl, s1, l1, t1⟩
   ·have hN : digitAt (nats s) a = ⟨0, 0, 0, 2, f⟩ := by
     unfold digitAt
     simp only
     rw [← hf', hlen, if_neg (by omega), if_neg (show ¬ ((nats s).getD f 0 = 48 ∨ (nats s).getD f 0 = 49) from hd)]
    refine .inl ⟨2, f, _, by decide, hyok, rfl, fun z k => by rw [run, hN]; rfl, fun w h hl => ?_⟩
    refine (tokDigit_none h o (hu _ hl) hx ok hf' (by omega) hlt hd).mono ?_
    rintro e w' ⟨rfl, s1, l1, t1⟩
    rw [h0e] at l1
    exact ⟨rfl, l1, t1⟩
  ·have hN : digitAt (nats s) a = ⟨0, 0, 0, 1, s.size⟩ := by
    unfold digitAt
    simp only
    rw [← hf', hlen, if_pos (by omega)]
   refine .inl ⟨1, s.size, _, by decide, hyok, rfl, fun z k => by rw [run, hN]; rfl, fun w h hl => ?_⟩
   refine (tokDigit_end h o (hu _ hl) hx ok hf' (by omega) (by omega)).mono ?_
   rintro e w' ⟨rfl, s1, l1, t1⟩
   rw [h0e] at l1
   exact ⟨rfl, l1, t1⟩
 ·have ht := ok.t1
  obtain ⟨r, hr⟩ : ∃ r : Nat, x.steps + (r : Int) = x.S := ⟨(x.S - x.steps).toNat, by omega⟩
  obtain ⟨y1, y2⟩ := Led.used_refused ok hx hr
  have hrT : r < c + 1 + 1 := by omega
  obtain ⟨q, q2⟩ : ∃ q, q = a + min r (f - a) := ⟨_, rfl⟩
  refine .inl ⟨4, q, _, by decide, y1, y2, fun z k => ?_, fun w h hl => (tokDigit_spent (r := r) h o (hu _ hl) hx ok hf' (by omega) (by omega)).mono fun e w' ⟨q', ⟨_, hq⟩, he, l1, t1⟩ => ⟨by rw [he, hq, ← q2]; rfl, by rw [Nat.zero_add] at l1; exact l1, t1⟩⟩
  rw [hD']
  by_cases h1 : r < c + 1
  ·rw [two_no1 hx hr h1, q2, hfa, Nat.min_eq_left (by omega)]
  ·rw [two_no2 hx hr (by omega) hrT, q2, hfa, Nat.min_eq_right (by omega), show f + (r - (c + 1)) = a + c by omega]
theorem byteD_yes {y : Led} (h : x.work 1 = (y, true)) (ha : a + 1 ≤ s.size) (z : Nat) (k : Nat → Dec) : (byteD s a z k).run x = (k (bat s a)).run y := by
 unfold byteD
 rw [run_work_yes h, if_pos (show a < s.size from ha)]
end
end Go.Proofs.YtgmgcfjllijhgaaGreat
