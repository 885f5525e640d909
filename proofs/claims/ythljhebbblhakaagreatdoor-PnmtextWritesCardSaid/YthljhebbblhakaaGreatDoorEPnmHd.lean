/- pnmhead.Read: what it asks and tells, by whatever budget. -/
import Derived.Test.YthljhebbblhakaaGreatDoorEPnmH
import Derived.Test.YthljhebbblhakaaGreatDoorEPnmR2
namespace Go.Proofs.YthljhebbblhakaaGreatDoor
open Go.RowKit
set_option linter.unusedVariables false
set_option linter.unusedSimpArgs false

def kindNo (kk aa : Nat) : Value := .tuple #[.int .i64 0, ftV kk aa]
def kindYes (K : Nat) : Value := .tuple #[.int .i64 (K : Int), ft0]
section
variable {p g a most above : Nat} {s : ByteArray} {x y : Led}
theorem byteD_short (h : x.work 1 = (y, true)) (ha : ¬ a < s.size) (z : Nat) (k : Nat → Dec) : (byteD s a z k).run x = ((y.give (z : Int)).1, .bad 1 s.size) := by
  unfold byteD
  rw [run_work_yes h, if_neg ha]
  rfl
theorem byteD_spent (h : x.work 1 = (y, false)) (z : Nat) (k : Nat → Dec) : (byteD s a z k).run x = ((y.give (z : Int)).1, .bad 4 a) := by
  unfold byteD
  rw [run_work_no h]
theorem work_used1 (hx : x.reason = 0) (h : x.steps + 1 ≤ x.S) : x.work 1 = (x.used 1, true) := by
  have := Led.used_yes (k := 0) hx (by omega)
  rw [Led.used_zero] at this
  exact this
theorem work_none (hx : x.reason = 0) (h : x.steps = x.S) : x.work 1 = ((x.used 0).refused 3 1, false) := by
  have := Led.used_no (k := 0) hx (by omega)
  rw [Led.used_zero] at this
  rw [Led.used_zero]
  exact this
theorem kindC (hsm : s.size ≤ 1099511627776) (ok : x.Ok) (hx : x.reason = 0) :
    Ways (fun w Q => Calls Tryz.prog 48 #[.pointer (some ⟨p, 0, none⟩)] w Q) p g s 0 x (kindD s) kindNo kindYes (fun _ => 2) (fun K => 1 < s.size ∧ bat s 0 = 80 ∧ (49 ≤ bat s 1 ∧ bat s 1 ≤ 54) ∧ bat s 1 - 48 = K) := by
  have ht := ok.t1
  by_cases h0 : x.steps + 1 ≤ x.S
  · have e1 := work_used1 hx h0
    have ok1 := Led.used_ok (k := 1) ok (by omega)
    by_cases z0 : 0 < s.size
    · by_cases h80 : bat s 0 = 80
      · by_cases h1 : x.steps + 2 ≤ x.S
        · have e2 : (x.used 1).work 1 = (x.used 2, true) := Led.used_yes (k := 1) hx (by omega)
          have ok2 := Led.used_ok (k := 2) ok (by omega)
          by_cases z1 : 1 < s.size
          · have run : ∀ z k, (kindD s z k).run x = (if 49 ≤ bat s 1 ∧ bat s 1 ≤ 54 then k (bat s 1 - 48) else badD z 2 1).run (x.used 2) := fun z k => by
              unfold kindD
              rw [byteD_yes e1 z0, if_pos h80, byteD_yes e2 z1]
            by_cases lo : bat s 1 < 49
            · exact .inl ⟨2, 1, _, by decide, ok2, rfl, fun z k => by rw [run, if_neg (by omega)]; rfl, fun w h hl => (kind_wrong1a h hsm hl hx ok (by omega) z0 z1 h80 lo).mono fun e w' h => ⟨h.1, h.2.2⟩⟩
            · by_cases hi : 54 < bat s 1
              · exact .inl ⟨2, 1, _, by decide, ok2, rfl, fun z k => by rw [run, if_neg (by omega)]; rfl, fun w h hl => (kind_wrong1b h hsm hl hx ok (by omega) z0 z1 h80 hi).mono fun e w' h => ⟨h.1, h.2.2⟩⟩
              · exact .inr ⟨bat s 1 - 48, _, ⟨z1, h80, ⟨by omega, by omega⟩, rfl⟩, ok2, rfl, hx, fun z k => by rw [run, if_pos ⟨by omega, by omega⟩], fun w h hl => kind_ok h hsm hl hx ok (by omega) z0 z1 h80 ⟨by omega, by omega⟩⟩
          · have hz1 : s.size = 1 := by omega
            exact .inl ⟨1, 1, _, by decide, ok2, rfl, fun z k => by
              unfold kindD
              rw [byteD_yes e1 z0, if_pos h80, byteD_short e2 z1, hz1], fun w h hl => (kind_end1 h hsm hl hx ok (by omega) z0 hz1 h80).mono fun e w' h => ⟨h.1, h.2.2⟩⟩
        · have hs1 : x.steps + ((1 : Nat) : Int) = x.S := by omega
          obtain ⟨r1, r2⟩ := Led.used_refused (j := 1) ok hx hs1
          exact .inl ⟨4, 1, _, by decide, r1, r2, fun z k => by
            unfold kindD
            rw [byteD_yes e1 z0, if_pos h80, byteD_spent (Led.used_no (k := 1) hx hs1)], fun w h hl => (kindS1 h hsm hl hx ok (by omega) z0 h80).mono fun e w' h => ⟨h.1, h.2.2⟩⟩
      · exact .inl ⟨2, 0, _, by decide, ok1, rfl, fun z k => by
          unfold kindD
          rw [byteD_yes e1 z0, if_neg h80]
          rfl, fun w h hl => (kindW0 h hsm hl hx ok h0 z0 h80).mono fun e w' h => ⟨h.1, h.2.2⟩⟩
    · have hz0 : s.size = 0 := by omega
      exact .inl ⟨1, 0, _, by decide, ok1, rfl, fun z k => by
        unfold kindD
        rw [byteD_short e1 z0, hz0], fun w h hl => (kindE0 h hsm hl hx ok h0 hz0).mono fun e w' h => ⟨h.1, h.2.2⟩⟩
  · have hs : x.steps = x.S := by omega
    obtain ⟨r1, r2⟩ := Led.used_refused (j := 0) ok hx (by omega)
    exact .inl ⟨4, 0, _, by decide, r1, r2, fun z k => by
      unfold kindD
      rw [byteD_spent (work_none hx hs)], fun w h hl => (kindS0 h hsm hl hx ok hs).mono fun e w' h => ⟨h.1, h.2.2⟩⟩
theorem oneC (o : SrcOk s 0 s.size a) (ok : x.Ok) (hx : x.reason = 0) :
    Ways (fun w Q => Calls Tryz.prog 51 #[.pointer (some ⟨p, 0, none⟩)] w Q) p g s a x (oneD s a) ftV (fun _ => ft0) (fun _ => a + 1) (fun n => n = a + 1 ∧ a < s.size ∧ isBlank (bat s a) = true) := by
  rcases led_work_ways 1 ok hx with ⟨y, e, yok, yr, yb⟩ | ⟨y, e, yok, yr, yb⟩
  · exact .inl ⟨4, a, y, by decide, yok, yb, fun z k => byteD_spent e z _, fun w h hl => oneS h o hl ok e yr⟩
  · by_cases ha : a < s.size
    · by_cases hb : isBlank (bat s a) = true
      · exact .inr ⟨a + 1, y, ⟨rfl, ha, hb⟩, yok, yb, yr, fun z k => by unfold oneD; rw [byteD_yes e ha, if_pos hb], fun w h hl => oneY h o hl ok e yr ha hb⟩
      · exact .inl ⟨2, a, y, by decide, yok, yb, fun z k => by unfold oneD; rw [byteD_yes e ha, if_neg hb]; rfl, fun w h hl => oneW h o hl ok e yr ha (bool_no hb)⟩
    · exact .inl ⟨1, s.size, y, by decide, yok, yb, fun z k => byteD_short e ha z _, fun w h hl => oneE h o hl ok e yr ha⟩
theorem hnumC (o : SrcOk s 0 s.size a) (ok : x.Ok) (hx : x.reason = 0) (hm : most ≤ 100000) (hab : above ≤ 4) (hab0 : above ≠ 0) :
    Ways (fun w Q => Calls Tryz.prog 49 #[.pointer (some ⟨p, 0, none⟩), .int .i64 (most : Int), .int .i64 (above : Int)] w Q) p g s a x (hnumD s a most above) kindNo (fun r => kindYes r.1) (fun r => r.2) (fun r => r.1 ≠ 0 ∧ r.1 ≤ most ∧ r.2 ≤ s.size ∧ hnum (nats s) a most above = ⟨r.1, 0, r.2, 0, 0⟩) := by
  rcases numC (p := p) (g := g) o ok hx with ⟨kk, aa, y, hk, yok, yb, run, c⟩ | ⟨⟨V, f, n⟩, y, hg, yok, yb, yr, run, c⟩
  · exact .inl ⟨kk, aa, y, hk, yok, yb, fun z k => run z _, fun w h hl => pnumB (V := 0) (f := 0) (n := 0) h hl hm hab c hk⟩
  · have hg' : numberAt (nats s) a = ⟨V, f, n, 0, 0⟩ := hg
    have hn : n ≤ s.size := by
      rcases numberAt_or (nats s) a (by rw [nats_len]; exact o.at_) with ⟨kd, pl, e, h0, _⟩ | ⟨V', f', n', e, hn, _⟩
      · rw [hg'] at e; injection e with _ _ _ e4; exact absurd e4.symm h0
      · rw [hg'] at e; injection e with _ _ e3; rw [nats_len] at hn; omega
    by_cases h0 : V = 0
    · subst h0
      exact .inl ⟨2, f, y, by decide, yok, yb, fun z k => by
        refine (run z _).trans ?_
        rfl, fun w h hl => pnumZ (kd := 0) (pl := 0) (V := 0) h hl hm hab c⟩
    · by_cases h1 : most < V
      · exact .inl ⟨above, f, y, hab0, yok, yb, fun z k => by
          refine (run z _).trans ?_
          show (if V = 0 then badD z 2 f else if most < V then badD z above f else k (V, n)).run y = _
          rw [if_neg h0, if_pos h1]
          rfl, fun w h hl => pnumA (kd := 0) (pl := 0) h hl hm hab c h0 h1⟩
      · exact .inr ⟨(V, n), y, ⟨h0, Nat.not_lt.1 h1, hn, by unfold hnum; simp only [hg']; rw [if_neg (by simp), if_neg h0, if_neg h1]⟩, yok, yb, yr, fun z k => by
          refine (run z _).trans ?_
          show (if V = 0 then badD z 2 f else if most < V then badD z above f else k (V, n)).run y = _
          rw [if_neg h0, if_neg h1], fun w h hl => pnumO (kd := 0) (pl := 0) h hl hm hab c h0 (Nat.not_lt.1 h1)⟩
end
def headV5 (h : HeadR) : Value := .agg #[.int .i64 (h.K : Int), .int .i64 (h.W : Int), .int .i64 (h.H : Int), .int .i64 (h.M : Int), .int .i64 (h.At : Int)]
def headNo (kk aa : Nat) : Value := .tuple #[.agg #[.int .i64 0, .int .i64 0, .int .i64 0, .int .i64 0, .int .i64 0], ftV kk aa]
def headYes (h : HeadR) : Value := .tuple #[headV5 h, ft0]
/-- a head within its limits -/
structure HeadOk (s : ByteArray) (h : HeadR) : Prop where
  is : headAt (nats s) = h
  kind : h.Kind = 0
  K : 1 ≤ h.K ∧ h.K ≤ 6
  W : 1 ≤ h.W ∧ h.W ≤ 16384
  H : 1 ≤ h.H ∧ h.H ≤ 16384
  M : 1 ≤ h.M ∧ h.M ≤ 65535
  At : h.At ≤ s.size
theorem headAt_step {s : ByteArray} {K W H n1 n2 : Nat} (h1 : 1 < s.size) (h80 : bat s 0 = 80) (hK : 49 ≤ bat s 1 ∧ bat s 1 ≤ 54) (hKe : bat s 1 - 48 = K) (q1 : hnum (nats s) 2 16384 3 = ⟨W, 0, n1, 0, 0⟩) (q2 : hnum (nats s) n1 16384 3 = ⟨H, 0, n2, 0, 0⟩) : headAt (nats s) = hmost (nats s) K W H n2 := by
  unfold headAt
  rw [nats_len, if_neg (by omega), if_neg (show ¬ (nats s).getD 0 0 ≠ 80 from fun h => h h80), if_neg (by omega), if_neg (show ¬ ((nats s).getD 1 0 < 49 ∨ 54 < (nats s).getD 1 0) from fun h => by have e : bat s 1 = (nats s).getD 1 0 := rfl; omega)]
  show hsides (nats s) (bat s 1 - 48) = _
  rw [hKe]
  unfold hsides hrest1
  simp only [q1]
  rw [if_neg (by simp)]
  unfold hrest2
  simp only [q2]
  rw [if_neg (by simp)]
theorem headC {p g : Nat} {s : ByteArray} {x : Led} (hsm : s.size ≤ 1099511627776) (ok : x.Ok) (hx : x.reason = 0) :
    Ways (fun w Q => Calls Tryz.prog 34 #[.pointer (some ⟨p, 0, none⟩)] w Q) p g s 0 x (headD s) headNo headYes (fun h => h.At) (HeadOk s) := by
  have src : ∀ a, a ≤ s.size → SrcOk s 0 s.size a := fun a ha => ⟨Nat.zero_le _, ha, Nat.le_refl _, hsm⟩
  rcases kindC (p := p) (g := g) hsm ok hx with ⟨kk, aa, y, hk, yok, yb, run0, c0⟩ | ⟨K, y0, ⟨z1, h80, hK, hKe⟩, ok0, yb0, yr0, run0, c0⟩
  · exact .inl ⟨kk, aa, y, hk, yok, yb, fun z k => run0 z _, fun w h hl => rdBad0 h hl c0 hk⟩
  have hK6 : 1 ≤ K ∧ K ≤ 6 := by omega
  rcases hnumC (p := p) (g := g) (a := 2) (most := 16384) (above := 3) (src 2 (by omega)) ok0 yr0 (by decide) (by decide) (by decide) with ⟨kk, aa, y, hk, yok, yb, run1, c1⟩ | ⟨⟨W, n1⟩, y1, ⟨w1, w2, hn1, q1⟩, ok1, yb1, yr1, run1, c1⟩
  · exact .inl ⟨kk, aa, y, hk, yok, yb.trans yb0, fun z k => (run0 z _).trans (run1 z _), fun w h hl => rdBad1 (y1 := x) (y2 := x) (y3 := x) h hl c0 c1 hk⟩
  rcases hnumC (p := p) (g := g) (a := n1) (most := 16384) (above := 3) (src n1 hn1) ok1 yr1 (by decide) (by decide) (by decide) with ⟨kk, aa, y, hk, yok, yb, run2, c2⟩ | ⟨⟨H, n2⟩, y2, ⟨g1, g2, hn2, q2⟩, ok2, yb2, yr2, run2, c2⟩
  · exact .inl ⟨kk, aa, y, hk, yok, (yb.trans yb1).trans yb0, fun z k => (run0 z _).trans ((run1 z _).trans (run2 z _)), fun w h hl => rdBad2 (y2 := x) (y3 := x) h hl c0 c1 c2 hk⟩
  have he := headAt_step z1 h80 hK hKe q1 q2
  have B2 : y2.bytes = x.bytes := (yb2.trans yb1).trans yb0
  by_cases hbm : K = 1 ∨ K = 4
  · have he1 : headAt (nats s) = hfin (nats s) K W H 1 n2 := by rw [he]; unfold hmost; rw [if_pos hbm]
    by_cases htx : 1 ≤ K ∧ K ≤ 3
    · have h4 : ¬ 4 ≤ K := by omega
      refine .inr ⟨⟨K, W, H, 1, n2, 0, 0⟩, y2, ⟨?_, rfl, hK6, ⟨Nat.pos_of_ne_zero w1, w2⟩, ⟨Nat.pos_of_ne_zero g1, g2⟩, ⟨Nat.le_refl 1, (by decide : 1 ≤ 65535)⟩, hn2⟩, ok2, B2, yr2, fun z k => (run0 z _).trans ((run1 z _).trans ((run2 z _).trans ?_)), fun w h hl => rdOkBt (y := x) (y3 := x) h hl c0 c1 c2 hbm htx⟩
      · rw [he1]; unfold hfin; rw [if_neg h4]
      · show (hmostD s K n2 z fun M => hendD s K M.2 z fun n => k ⟨K, W, H, M.1, n, 0, 0⟩).run y2 = _
        unfold hmostD
        rw [if_pos hbm]
        show (hendD s K n2 z fun n => k ⟨K, W, H, 1, n, 0, 0⟩).run y2 = _
        unfold hendD
        rw [if_neg h4]
    · have h4 : 4 ≤ K := by omega
      have runM : ∀ z k, (headD s z k).run x = (oneD s n2 z fun n => k ⟨K, W, H, 1, n, 0, 0⟩).run y2 := fun z k => by
        refine (run0 z _).trans ((run1 z _).trans ((run2 z _).trans ?_))
        show (hmostD s K n2 z fun M => hendD s K M.2 z fun n => k ⟨K, W, H, M.1, n, 0, 0⟩).run y2 = _
        unfold hmostD
        rw [if_pos hbm]
        show (hendD s K n2 z fun n => k ⟨K, W, H, 1, n, 0, 0⟩).run y2 = _
        unfold hendD
        rw [if_pos h4]
      rcases oneC (p := p) (g := g) (src n2 hn2) ok2 yr2 with ⟨kk, aa, y, hk, yok, yb, run3, c3⟩ | ⟨n, y, ⟨rfl, ha, hb⟩, yok, yb, yr, run3, c3⟩
      · exact .inl ⟨kk, aa, y, hk, yok, yb.trans B2, fun z k => (runM z k).trans (run3 z _), fun w h hl => rdOneB (y3 := x) h hl c0 c1 c2 hbm htx c3 hk⟩
      · refine .inr ⟨⟨K, W, H, 1, n2 + 1, 0, 0⟩, y, ⟨?_, rfl, hK6, ⟨Nat.pos_of_ne_zero w1, w2⟩, ⟨Nat.pos_of_ne_zero g1, g2⟩, ⟨Nat.le_refl 1, (by decide : 1 ≤ 65535)⟩, ha⟩, yok, yb.trans B2, yr, fun z k => (runM z k).trans (run3 z _), fun w h hl => rdOkBr (y3 := x) h hl c0 c1 c2 hbm htx c3⟩
        rw [he1]; unfold hfin; rw [if_pos h4, nats_len, if_neg (Nat.not_le.2 ha), if_pos (show isBlank ((nats s).getD n2 0) = true from hb)]
  · rcases hnumC (p := p) (g := g) (a := n2) (most := 65535) (above := 2) (src n2 hn2) ok2 yr2 (by decide) (by decide) (by decide) with ⟨kk, aa, y, hk, yok, yb, run3, c3⟩ | ⟨⟨M, n3⟩, y3, ⟨m1, m2, hn3, q3⟩, ok3, yb3, yr3, run3, c3⟩
    · exact .inl ⟨kk, aa, y, hk, yok, yb.trans B2, fun z k => by
        refine (run0 z _).trans ((run1 z _).trans ((run2 z _).trans ?_))
        show (hmostD s K n2 z fun M => hendD s K M.2 z fun n => k ⟨K, W, H, M.1, n, 0, 0⟩).run y2 = _
        unfold hmostD
        rw [if_neg hbm]
        exact run3 z _, fun w h hl => rdBad3 (y3 := x) h hl c0 c1 c2 hbm c3 hk⟩
    have B3 : y3.bytes = x.bytes := yb3.trans B2
    have he1 : headAt (nats s) = hfin (nats s) K W H M n3 := by rw [he]; unfold hmost; rw [if_neg hbm]; simp only [q3]; rw [if_neg (by simp)]
    have hM : 1 ≤ M ∧ M ≤ 65535 := ⟨Nat.pos_of_ne_zero m1, m2⟩
    have runM : ∀ z k, (headD s z k).run x = (hendD s K n3 z fun n => k ⟨K, W, H, M, n, 0, 0⟩).run y3 := fun z k => by
      refine (run0 z _).trans ((run1 z _).trans ((run2 z _).trans ?_))
      show (hmostD s K n2 z fun M => hendD s K M.2 z fun n => k ⟨K, W, H, M.1, n, 0, 0⟩).run y2 = _
      unfold hmostD
      rw [if_neg hbm]
      exact run3 z _
    by_cases htx : 1 ≤ K ∧ K ≤ 3
    · have h4 : ¬ 4 ≤ K := by omega
      refine .inr ⟨⟨K, W, H, M, n3, 0, 0⟩, y3, ⟨?_, rfl, hK6, ⟨Nat.pos_of_ne_zero w1, w2⟩, ⟨Nat.pos_of_ne_zero g1, g2⟩, hM, hn3⟩, ok3, B3, yr3, fun z k => (runM z k).trans ?_, fun w h hl => rdOkNt (y := x) h hl c0 c1 c2 hbm htx c3⟩
      · rw [he1]; unfold hfin; rw [if_neg h4]
      · unfold hendD
        rw [if_neg h4]
    · have h4 : 4 ≤ K := by omega
      have runN : ∀ z k, (headD s z k).run x = (oneD s n3 z fun n => k ⟨K, W, H, M, n, 0, 0⟩).run y3 := fun z k => by
        rw [runM]
        unfold hendD
        rw [if_pos h4]
      rcases oneC (p := p) (g := g) (src n3 hn3) ok3 yr3 with ⟨kk, aa, y, hk, yok, yb, run4, c4⟩ | ⟨n, y, ⟨rfl, ha, hb⟩, yok, yb, yr, run4, c4⟩
      · exact .inl ⟨kk, aa, y, hk, yok, yb.trans B3, fun z k => (runN z k).trans (run4 z _), fun w h hl => rdOneN h hl c0 c1 c2 hbm htx c3 c4 hk⟩
      · refine .inr ⟨⟨K, W, H, M, n3 + 1, 0, 0⟩, y, ⟨?_, rfl, hK6, ⟨Nat.pos_of_ne_zero w1, w2⟩, ⟨Nat.pos_of_ne_zero g1, g2⟩, hM, ha⟩, yok, yb.trans B3, yr, fun z k => (runN z k).trans (run4 z _), fun w h hl => rdOkNr h hl c0 c1 c2 hbm htx c3 c4⟩
        rw [he1]; unfold hfin; rw [if_pos h4, nats_len, if_neg (Nat.not_le.2 ha), if_pos (show isBlank ((nats s).getD n3 0) = true from hb)]
end Go.Proofs.YthljhebbblhakaaGreatDoor
