/- The reference's reader of tokens: Number. -/
import Derived.Test.YtgmgcfjllijhgaaGreatTokRef
namespace Go.Proofs.YtgmgcfjllijhgaaGreat
open Go.RowKit
set_option linter.unusedVariables false

theorem num_exit {l : List Nat} {f q dn dv vv : Nat} {x : Got} (hx : (if isDigit (l.getD f 0) then (⟨dv, f, f + dn, 0, 0⟩ : Got) else ⟨0, 0, 0, 2, f⟩) = x) (hdn : digN (l.drop f) = dn) (h1 : q - f = dn) (h2 : dv = vv) (hq : f ≤ q) (hf : f < l.length) :
    (q = f → x = ⟨0, 0, 0, 2, f⟩) ∧ (q ≠ f → x = ⟨vv, f, q, 0, 0⟩) := by
  by_cases hd : isDigit (l.getD f 0) = true
  · rw [if_pos hd] at hx
    have := (dig_yes hf hd 0).1
    refine ⟨fun h => by omega, fun _ => ?_⟩
    rw [← hx, h2, show f + dn = q by omega]
  · rw [if_neg hd] at hx
    have h0 := (dig_no hf (by cases h : isDigit (l.getD f 0) <;> simp_all) 0).1
    exact ⟨fun _ => hx.symm, fun h => by omega⟩

set_option maxRecDepth 100000 in
set_option maxHeartbeats 1000000 in
theorem refNumber_any (s : ByteArray) (a : Nat) (w : World) (ha : a ≤ s.size) (hs : s.size ≤ 1099511627776) :
    Calls Tryz.prog 29 #[.string s, .int .i64 (a : Int)] w fun e w' => e = .returned (gotV (numberAt (nats s) a)) ∧ Below w.heap.size w w' := by
  have hlen := nats_len s
  have hle := overN_le false ((nats s).drop a)
  rw [List.length_drop, hlen] at hle
  have HO := Lib.hid (fun w => refOver_any s a w ha hs)
  unfold numberAt
  generalize a + overN false ((nats s).drop a) = f at HO ⊢
  rw [hlen]
  by_cases hlt : s.size ≤ f
  · have i1 : (s.size : Int) ≤ (f : Int) := by omega
    simp only [if_pos hlt]
    go_enter Tryz.func29, Tryz.ntmps29
    go_wp2_with (go_at_call 54; refine (HO.out _).mono ?_; rintro e w1 ⟨rfl, rfl⟩)
    all_goals exact bodyPost_ret (v := gotV ⟨0, 0, 0, 1, s.size⟩) (by simp [results, Tryz.results29, go_sem, gotV]) rfl ⟨rfl, (Below.refl _ _).alloc (Nat.le_refl _) _⟩
  · have i1 : ¬ (s.size : Int) ≤ (f : Int) := by omega
    have hf : f < s.size := by omega
    simp only [if_neg hlt]
    have hvx : ∀ x : Got, (if isDigit ((nats s).getD f 0) then ⟨digV 0 ((nats s).drop f), f, f + digN ((nats s).drop f), 0, 0⟩ else ⟨0, 0, 0, 2, f⟩) = x → Calls Tryz.prog 29 #[.string s, .int .i64 (a : Int)] w fun e w' => e = .returned (gotV x) ∧ Below w.heap.size w w' := by
      intro x hx
      have HXX := Lib.hid hx
      clear hx
      generalize hdn : digN ((nats s).drop f) = dn at HXX
      generalize hdv : digV 0 ((nats s).drop f) = dv at HXX
      have HDN := Lib.hid hdn
      have hdl := digN_le ((nats s).drop f)
      rw [hdn, List.length_drop, hlen] at hdl
      go_enter Tryz.func29, Tryz.ntmps29
      go_wp2_with (go_at_call 54; refine (HO.out _).mono ?_; rintro e w1 ⟨rfl, rfl⟩)
      go_loopg [6, 7] (s.size + 1 - f) (fun n i v wr => ∃ (q vv : Nat), q + n = s.size + 1 ∧ i = .int .i64 (q : Int) ∧ v = .int .i64 (vv : Int) ∧ f ≤ q ∧ q ≤ s.size ∧ vv ≤ 1000000000 ∧ Hid ((q - f) + digN ((nats s).drop q) = dn) ∧ Hid (digV vv ((nats s).drop q) = dv) ∧ w.alloc (.cells #[.int .i64 0, .int .i64 0, .int .i64 0, .int .i64 0, .int .i64 0] 54) = wr)
      case atStart => exact ⟨f, 0, by omega, rfl, rfl, Nat.le_refl _, by omega, by omega, Lib.hid (by omega), Lib.hid hdv, rfl⟩
      case round =>
        obtain ⟨q, vv, hn, rfl, rfl, q0, q1, v1, h1, h2, rfl⟩ := hrel
        by_cases hq : q < s.size
        · have jlt : (q : Int) < (s.size : Int) := by omega
          have hb := bat_eq hq
          have hb2 := bat_lt s q
          by_cases hd : isDigit (bat s q) = true
          · have hd' : 48 ≤ bat s q ∧ bat s q ≤ 57 := by unfold isDigit at hd; simpa using hd
            have j8 : (48 : Int) ≤ ((s[q].toNat : Nat) : Int) := by omega
            have j9 : ((s[q].toNat : Nat) : Int) ≤ 57 := by omega
            obtain ⟨d1, d2⟩ := dig_yes (l := nats s) (q := q) (by omega) hd vv
            have h1' : Hid ((q + 1 - f) + digN ((nats s).drop (q + 1)) = dn) := Lib.hid (by have := h1.out; omega)
            have h2' : Hid (digV (up vv (bat s q)) ((nats s).drop (q + 1)) = dv) := Lib.hid (by rw [← h2.out, d2]; rfl)
            clear d1 d2
            by_cases hbig : 999999999 < 10 * (vv : Int) + ((s[q].toNat : Nat) : Int) - 48
            · go_wp2_with fail
              go_roundg (s.size + 1 - (q + 1))
              case measure => omega
              case rel => exact ⟨q + 1, up vv (bat s q), by omega, by go_num, vint (by unfold up; omega), by omega, by omega, up_lt _ _, h1', h2', rfl⟩
            · go_wp2_with fail
              go_roundg (s.size + 1 - (q + 1))
              case measure => omega
              case rel => exact ⟨q + 1, up vv (bat s q), by omega, by go_num, vint (by unfold up; omega), by omega, by omega, up_lt _ _, h1', h2', rfl⟩
          · have hd0 : isDigit (bat s q) = false := by cases h : isDigit (bat s q) <;> simp_all
            by_cases hd8 : 48 ≤ bat s q
            · have j8 : (48 : Int) ≤ ((s[q].toNat : Nat) : Int) := by omega
              have j9 : ¬ ((s[q].toNat : Nat) : Int) ≤ 57 := by unfold isDigit at hd0; simp at hd0; omega
              have a2 := (dig_no (l := nats s) (q := q) (by omega) hd0 vv)
              have e1 : q - f = dn := by have a1 := h1.out; have a3 := a2.1; omega
              have HX12 := Lib.hid (num_exit HXX.out HDN.out e1 (h2.out.symm.trans a2.2) q0 (by omega))
              clear a2 e1
              by_cases hqf : q = f
              · have hx0 := (HX12.out).1 hqf
                subst hqf
                have HX0 := Lib.hid hx0
                clear hx0 HX12
                go_wp2_with fail
                all_goals exact bodyPost_ret (v := gotV ⟨0, 0, 0, 2, q⟩) (by simp [results, Tryz.results29, go_sem, gotV]) rfl ⟨by rw [HX0.out], (Below.refl _ _).alloc (Nat.le_refl _) _⟩
              · have jqf : ¬ (q : Int) = (f : Int) := by omega
                have HX0 := Lib.hid ((HX12.out).2 hqf)
                clear HX12
                go_wp2_with fail
                all_goals exact bodyPost_ret (v := gotV ⟨vv, f, q, 0, 0⟩) (by simp [results, Tryz.results29, go_sem, gotV]) rfl ⟨by rw [HX0.out], (Below.refl _ _).alloc (Nat.le_refl _) _⟩
            · have j8 : ¬ (48 : Int) ≤ ((s[q].toNat : Nat) : Int) := by omega
              have a2 := (dig_no (l := nats s) (q := q) (by omega) hd0 vv)
              have e1 : q - f = dn := by have a1 := h1.out; have a3 := a2.1; omega
              have HX12 := Lib.hid (num_exit HXX.out HDN.out e1 (h2.out.symm.trans a2.2) q0 (by omega))
              clear a2 e1
              by_cases hqf : q = f
              · have hx0 := (HX12.out).1 hqf
                subst hqf
                have HX0 := Lib.hid hx0
                clear hx0 HX12
                go_wp2_with fail
                all_goals exact bodyPost_ret (v := gotV ⟨0, 0, 0, 2, q⟩) (by simp [results, Tryz.results29, go_sem, gotV]) rfl ⟨by rw [HX0.out], (Below.refl _ _).alloc (Nat.le_refl _) _⟩
              · have jqf : ¬ (q : Int) = (f : Int) := by omega
                have HX0 := Lib.hid ((HX12.out).2 hqf)
                clear HX12
                go_wp2_with fail
                all_goals exact bodyPost_ret (v := gotV ⟨vv, f, q, 0, 0⟩) (by simp [results, Tryz.results29, go_sem, gotV]) rfl ⟨by rw [HX0.out], (Below.refl _ _).alloc (Nat.le_refl _) _⟩
        · have jlt : ¬ (q : Int) < (s.size : Int) := by omega
          have a2 := (dig_end (l := nats s) (q := q) (by omega) vv)
          have e1 : q - f = dn := by have a1 := h1.out; have a3 := a2.1; omega
          have HX12 := Lib.hid (num_exit HXX.out HDN.out e1 (h2.out.symm.trans a2.2) q0 (by omega))
          clear a2 e1
          have hqf : q ≠ f := by omega
          have jqf : ¬ (q : Int) = (f : Int) := by omega
          have HX0 := Lib.hid ((HX12.out).2 hqf)
          clear HX12
          go_wp2_with fail
          all_goals exact bodyPost_ret (v := gotV ⟨vv, f, q, 0, 0⟩) (by simp [results, Tryz.results29, go_sem, gotV]) rfl ⟨by rw [HX0.out], (Below.refl _ _).alloc (Nat.le_refl _) _⟩
    exact hvx _ rfl
end Go.Proofs.YtgmgcfjllijhgaaGreat
