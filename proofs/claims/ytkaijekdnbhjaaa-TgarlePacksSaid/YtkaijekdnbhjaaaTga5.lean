/- tgarle.Packets: the walk. -/
import Derived.Test.YtkaijekdnbhjaaaTga4
import Derived.OwnWalk
namespace Go.Proofs.Ytkaijekdnbhjaaa
open Go.RowKit
set_option linter.unusedVariables false
set_option linter.unusedSimpArgs false

theorem packets_bad (s : ByteArray) {size n : Int} (w : World) (h : size < 1 ∨ 4 < size ∨ n < 0) :
    Calls Try.prog 22 #[.string s, .int .i64 size, .int .i64 n] w fun e w' => e = .returned (.tuple #[.slice none 0 0, .int .i64 0, .int .i64 1]) ∧ w = w' := by
  by_cases h1 : size < 1
  · go_enter Try.func22, Try.ntmps22
    go_wp2_with fail
    go_ret3
    exact ⟨rfl, rfl⟩
  by_cases h2 : 4 < size
  · go_enter Try.func22, Try.ntmps22
    go_wp2_with fail
    go_ret3
    exact ⟨rfl, rfl⟩
  have h3 : n < 0 := by omega
  go_enter Try.func22, Try.ntmps22
  go_wp2_with fail
  go_ret3
  exact ⟨rfl, rfl⟩

set_option maxRecDepth 100000 in
set_option maxHeartbeats 4000000 in
theorem packets_any {w : World} {s : ByteArray} {size n : Nat} (h1 : 1 ≤ size) (h2 : size ≤ 4) (hn : n ≤ 2000) (hs : s.size ≤ 10000000) :
    Calls Try.prog 22 #[.string s, .int .i64 (size : Int), .int .i64 (n : Int)] w fun e w' => PAns (unpackL size s.data.toList n) w.heap.size e w' ∧ Below w.heap.size w w' := by
  obtain ⟨R, hR⟩ : ∃ R, R = unpackL size s.data.toList n := ⟨_, rfl⟩
  rw [← hR]
  have HR := Lib.hid hR
  have i1 : ¬ (size : Int) < 1 := by omega
  have i2 : ¬ (4 : Int) < (size : Int) := by omega
  have i3 : ¬ (n : Int) < 0 := by omega
  clear hR
  go_enter Try.func22, Try.ntmps22
  go_wp2_with fail
  go_loopg [9, 10, 11, 12, 13, 14, 15, 47, 54] n (fun g out at_ s11 s12 s13 s14 s15 s47 s54 wr => ∃ (A : Nat) (L : List ByteArray), at_ = .int .i64 (A : Int) ∧ A ≤ s.size ∧ Hid (n = L.length + g) ∧ Owns1 wr w.heap.size 9 out (strs L) ∧ Hid (Rest size n s A L) ∧ Below w.heap.size w wr)
  case atStart => exact ⟨0, [], rfl, by omega, Lib.hid (by simp), Owns1.nil _ _ _, Lib.hid (by unfold Rest; rw [List.drop_zero]; simp only [List.length_nil, Nat.sub_zero]; cases unpackL size s.data.toList n <;> simp [PRes.push, BL]), Below.refl _ _⟩
  case round =>
    obtain ⟨A, L, rfl, hA, hG, hown, hrest, hb⟩ := hrel
    obtain ⟨G, hGe⟩ : ∃ G, G = gk := ⟨_, rfl⟩
    subst hGe
    obtain ⟨K, hK⟩ : ∃ K, K = L.length := ⟨_, rfl⟩
    obtain ⟨oa, oc, hv⟩ := hown.slice
    rw [strs_len, ← hK] at hv
    subst hv
    have HK := Lib.hid hK
    have HOWN := Lib.hid hown
    have HG : Hid (n = K + G) := Lib.hid (by rw [hK]; exact hG.out)
    have HRS : Hid (Rest size n s A L) := hrest
    clear hK hown hG hrest
    have hsz := hb.size
    by_cases h0 : K < n
    · have k0 : (K : Int) < (n : Int) := by omega
      by_cases hE : A = s.size
      · subst hE
        go_wp2_with fail
        go_ret3
        exact ⟨by rw [HR.out, HRS.out.short (Nat.le_refl _) (by rw [← HK.out]; exact h0)]; rfl, hb⟩
      · have hA2 : A < s.size := by omega
        have hA3 : (A : Int) < (s.size : Int) := by omega
        have hA4 : ((A : Int) == (s.size : Int)) = false := beq_eq_false_iff_ne.2 (by omega)
        have hA5 : ¬ (A : Int) = (s.size : Int) := by omega
        obtain ⟨B, hB⟩ : ∃ B, s[A].toNat = B := ⟨_, rfl⟩
        have hB2 : B < 256 := by rw [← hB]; exact UInt8.toNat_lt _
        obtain ⟨C, hC⟩ : ∃ C, C = B % 128 + 1 := ⟨_, rfl⟩
        have hC1 : 1 ≤ C := by omega
        have hC2 : C ≤ 128 := by omega
        have f1 : bits .and .i64 (B : Int) 127 = (C : Int) - 1 := by rw [and127 hB2]; omega
        have HC : Hid (cnt s[A] = C) := Lib.hid (by unfold cnt; rw [hB, hC])
        clear hC
        by_cases hlow : B < 128
        · have f2 := and128_low hlow
          have HT : Hid (thr s[A] = C) := Lib.hid (by unfold thr; rw [if_pos (by rw [hB]; exact hlow), HC.out])
          clear hlow
          by_cases hcnt : n - K < C
          · have c1 : (n : Int) - (K : Int) < (C : Int) := by omega
            go_wp2_with fail
            go_ret3
            exact ⟨by rw [HR.out, HRS.out.cons hA2 (by rw [← HK.out]; exact h0), if_pos (by rw [← HK.out, HC.out]; exact hcnt)]; rfl, hb⟩
          · have c1 : ¬ (n : Int) - (K : Int) < (C : Int) := by omega
            obtain ⟨q, hq⟩ : ∃ q, C * size = q := ⟨_, rfl⟩
            have hq1 : q ≤ 512 := by rw [← hq]; exact Nat.mul_le_mul (show C ≤ 128 by omega) h2
            have HW := prod_in hq (by omega)
            have HQ := Lib.hid hq
            by_cases hsh : s.size - (A + 1) < q
            · have c2 : (s.size : Int) - ((A : Int) + 1) < (q : Int) := by omega
              clear hq
              go_wp2_with fail
              go_ret3
              exact ⟨by rw [HR.out, HRS.out.cons hA2 (by rw [← HK.out]; exact h0), if_neg (by rw [← HK.out, HC.out]; exact hcnt), if_pos (by rw [HT.out, HQ.out]; exact hsh)]; rfl, hb⟩
            · have c2 : ¬ (s.size : Int) - ((A : Int) + 1) < (q : Int) := by omega
              have HNX := Lib.hid (HRS.out.next hA2 (by rw [← HK.out]; exact h0) (by rw [← HK.out, HC.out]; exact hcnt) (by rw [HT.out, HQ.out]; exact hsh))
              rw [HT.out, HQ.out, HC.out] at HNX
              have HCN := Lib.hid hcnt
              clear hq hcnt
              go_wp2_with fail
              go_loopg [9, 14, 15, 64] C (fun g v s14 s15 x w2 => ∃ j : Nat, x = .int .i64 (j : Int) ∧ Hid (C = j + g) ∧ j ≤ C ∧ Owns1 w2 w.heap.size 9 v (strs (L ++ pixS s (A + 1) C size j)) ∧ Below w.heap.size w w2)
              case atStart => exact ⟨0, rfl, Lib.hid (by omega), by omega, by simpa [pixS] using HOWN.out, hb⟩
              case round =>
                obtain ⟨j, rfl, hg3, hjC, own3, hb3⟩ := hrel
                by_cases hj : j < C
                · have j0 : (j : Int) < (C : Int) := by omega
                  obtain ⟨mj, hmj⟩ : ∃ mj, mj = min j (C - 1) := ⟨_, rfl⟩
                  obtain ⟨p, hp⟩ : ∃ p, mj * size = p := ⟨_, rfl⟩
                  have hpq : p + size ≤ q := by
                    rw [← hp, ← HQ.out, show mj * size + size = (mj + 1) * size by rw [Nat.add_mul, Nat.one_mul]]
                    exact Nat.mul_le_mul (by omega) (Nat.le_refl _)
                  have HWP := prod_in hp (by omega)
                  have t1 : (A : Int) + 1 + (p : Int) + (size : Int) ≤ (s.size : Int) := by omega
                  have t2 : A + 1 + p + size ≤ s.size := by omega
                  have hp9 : p ≤ 512 := by omega
                  have HX : Hid (pixS s (A + 1) C size (j + 1) = pixS s (A + 1) C size j ++ [s.extract (A + 1 + p) (A + 1 + p + size)]) := Lib.hid (by rw [pixS_succ, ← hmj, hp])
                  have HMJ := Lib.hid hmj
                  have hl3 : (strs (L ++ pixS s (A + 1) C size j)).length < 1099511627776 := by rw [strs_len, List.length_append, pixS_len, ← HK.out]; omega
                  have z3 := hb3.size
                  clear hmj hp
                  have hmj1 : j = mj := by have := HMJ.out; omega
                  subst hmj1
                  have j1 : (j : Int) ≤ (C : Int) - 1 := by omega
                  go_wp2_with (at_builtin; refine wpList_append_one rfl (.tmp 75) (.tmp 82) 45 9 rfl (.string ⟨#[]⟩) 16 Try.underlying45 infoStr rfl (by decide) w.heap.size _ _ rfl (own3.alloc _) _ rfl (.string (s.extract (A + 1 + p) (A + 1 + p + size))) ?_ rfl hl3 ?_ ?_; (exact cell_new _ _ _ 0 _ rfl); (simp; omega); intro v4 w4 own4 hb4 _; have hb4' := (hb3.alloc z3 _).trans hb4)
                  go_roundg (C - (j + 1))
                  case measure => have := hg3.out; omega
                  case rel => exact ⟨j + 1, by go_num, Lib.hid (by have := hg3.out; omega), by omega, by rw [HX.out, ← List.append_assoc]; simpa [strs] using own4, hb4'⟩
                · obtain rfl : j = C := by omega
                  go_wp2_with fail
                  go_roundg (G - j)
                  case measure => have := HG.out; have := HCN.out; omega
                  case rel => exact ⟨A + 1 + q, _, by go_num, by omega, Lib.hid (by rw [List.length_append, pixS_len, ← HK.out]; have := HG.out; have := HCN.out; omega), own3, HNX, hb3⟩
        · have f2 := and128_high (by omega) hB2
          have HT : Hid (thr s[A] = 1) := Lib.hid (by unfold thr; rw [if_neg (by rw [hB]; exact hlow)])
          clear hlow
          go_upto_if 43 with fail
          go_cut [13] (fun v wc => ∃ T : Nat, v = .int .i64 (T : Int) ∧ Hid (T = 1) ∧ T ≤ 128 ∧ 1 ≤ T ∧ wc = wr)
          case first =>
            go_wp2_with fail
            go_meet
            case rel => exact ⟨1, rfl, Lib.hid rfl, by omega, by omega, rfl⟩
          case rest =>
            obtain ⟨T, rfl, hT1, hT2, hT3, rfl⟩ := hcut
            have HWT : IntKind.i64.wrap ((T : Int) * (size : Int)) = (size : Int) := prod_in (by rw [hT1.out, Nat.one_mul]) (by omega)
            by_cases hcnt : n - K < C
            · have c1 : (n : Int) - (K : Int) < (C : Int) := by omega
              go_wp2_with fail
              go_ret3
              exact ⟨by rw [HR.out, HRS.out.cons hA2 (by rw [← HK.out]; exact h0), if_pos (by rw [← HK.out, HC.out]; exact hcnt)]; rfl, hb⟩
            · have c1 : ¬ (n : Int) - (K : Int) < (C : Int) := by omega
              obtain ⟨q, hq⟩ : ∃ q, 1 * size = q := ⟨_, rfl⟩
              have hq1 : q ≤ 512 := by rw [← hq]; exact Nat.mul_le_mul (show 1 ≤ 128 by omega) h2
              have HQ := Lib.hid hq
              have hqs : size = q := by omega
              subst hqs
              by_cases hsh : s.size - (A + 1) < size
              · have c2 : (s.size : Int) - ((A : Int) + 1) < (size : Int) := by omega
                clear hq
                go_wp2_with fail
                go_ret3
                exact ⟨by rw [HR.out, HRS.out.cons hA2 (by rw [← HK.out]; exact h0), if_neg (by rw [← HK.out, HC.out]; exact hcnt), if_pos (by rw [HT.out, HQ.out]; exact hsh)]; rfl, hb⟩
              · have c2 : ¬ (s.size : Int) - ((A : Int) + 1) < (size : Int) := by omega
                have HNX := Lib.hid (HRS.out.next hA2 (by rw [← HK.out]; exact h0) (by rw [← HK.out, HC.out]; exact hcnt) (by rw [HT.out, HQ.out]; exact hsh))
                rw [HT.out, HQ.out, HC.out] at HNX
                have HCN := Lib.hid hcnt
                clear hq hcnt
                go_wp2_with fail
                go_loopg [9, 14, 15, 64] C (fun g v s14 s15 x w2 => ∃ j : Nat, x = .int .i64 (j : Int) ∧ Hid (C = j + g) ∧ j ≤ C ∧ Owns1 w2 w.heap.size 9 v (strs (L ++ pixS s (A + 1) 1 size j)) ∧ Below w.heap.size w w2)
                case atStart => exact ⟨0, rfl, Lib.hid (by omega), by omega, by simpa [pixS] using HOWN.out, hb⟩
                case round =>
                  obtain ⟨j, rfl, hg3, hjC, own3, hb3⟩ := hrel
                  by_cases hj : j < C
                  · have j0 : (j : Int) < (C : Int) := by omega
                    obtain ⟨mj, hmj⟩ : ∃ mj, mj = min j (1 - 1) := ⟨_, rfl⟩
                    obtain ⟨p, hp⟩ : ∃ p, mj * size = p := ⟨_, rfl⟩
                    have hpq : p + size ≤ size := by
                      have e0 : mj = 0 := by omega
                      rw [← hp, e0]
                      omega
                    have HWP := prod_in hp (by omega)
                    have t1 : (A : Int) + 1 + (p : Int) + (size : Int) ≤ (s.size : Int) := by omega
                    have t2 : A + 1 + p + size ≤ s.size := by omega
                    have hp9 : p ≤ 512 := by omega
                    have HX : Hid (pixS s (A + 1) 1 size (j + 1) = pixS s (A + 1) 1 size j ++ [s.extract (A + 1 + p) (A + 1 + p + size)]) := Lib.hid (by rw [pixS_succ, ← hmj, hp])
                    have HMJ := Lib.hid hmj
                    have hl3 : (strs (L ++ pixS s (A + 1) 1 size j)).length < 1099511627776 := by rw [strs_len, List.length_append, pixS_len, ← HK.out]; omega
                    have z3 := hb3.size
                    clear hmj
                    clear HWP hpq
                    by_cases hjT : j ≤ T - 1
                    · have j1 : (j : Int) ≤ (T : Int) - 1 := by omega
                      have HWP := prod_in (m := j) (s := size) (p := p) (by have := HMJ.out; have := hT1.out; rw [← hp]; congr 1; omega) (by omega)
                      clear hp hjT
                      go_wp2_with (at_builtin; refine wpList_append_one rfl (.tmp 75) (.tmp 82) 45 9 rfl (.string ⟨#[]⟩) 16 Try.underlying45 infoStr rfl (by decide) w.heap.size _ _ rfl (own3.alloc _) _ rfl (.string (s.extract (A + 1 + p) (A + 1 + p + size))) ?_ rfl hl3 ?_ ?_; (exact cell_new _ _ _ 0 _ rfl); (simp; omega); intro v4 w4 own4 hb4 _; have hb4' := (hb3.alloc z3 _).trans hb4)
                      go_roundg (C - (j + 1))
                      case measure => have := hg3.out; omega
                      case rel => exact ⟨j + 1, by go_num, Lib.hid (by have := hg3.out; omega), by omega, by rw [HX.out, ← List.append_assoc]; simpa [strs] using own4, hb4'⟩
                    · have j1 : (T : Int) - 1 < (j : Int) := by omega
                      have HWP : IntKind.i64.wrap (((T : Int) - 1) * (size : Int)) = (p : Int) := by
                        have e1 : (T : Int) - 1 = 0 := by have := hT1.out; omega
                        have e2 : p = 0 := by have := HMJ.out; rw [← hp, show mj = 0 by omega, Nat.zero_mul]
                        rw [e1, e2, Int.zero_mul]
                        exact IntWalk.i64_in 0 (by omega)
                      clear hp hjT
                      go_wp2_with (at_builtin; refine wpList_append_one rfl (.tmp 75) (.tmp 82) 45 9 rfl (.string ⟨#[]⟩) 16 Try.underlying45 infoStr rfl (by decide) w.heap.size _ _ rfl (own3.alloc _) _ rfl (.string (s.extract (A + 1 + p) (A + 1 + p + size))) ?_ rfl hl3 ?_ ?_; (exact cell_new _ _ _ 0 _ rfl); (simp; omega); intro v4 w4 own4 hb4 _; have hb4' := (hb3.alloc z3 _).trans hb4)
                      go_roundg (C - (j + 1))
                      case measure => have := hg3.out; omega
                      case rel => exact ⟨j + 1, by go_num, Lib.hid (by have := hg3.out; omega), by omega, by rw [HX.out, ← List.append_assoc]; simpa [strs] using own4, hb4'⟩
                  · obtain rfl : j = C := by omega
                    go_wp2_with fail
                    go_roundg (G - j)
                    case measure => have := HG.out; have := HCN.out; omega
                    case rel => exact ⟨A + 1 + size, _, by go_num, by omega, Lib.hid (by rw [List.length_append, pixS_len, ← HK.out]; have := HG.out; have := HCN.out; omega), own3, HNX, hb3⟩
    · have k0 : ¬ (K : Int) < (n : Int) := by omega
      go_wp2_with fail
      go_ret3
      exact ⟨by rw [HR.out, HRS.out.end_ (by rw [← HK.out]; have := HG.out; omega)]; exact ⟨_, L, rfl, HOWN.out, rfl⟩, hb⟩
end Go.Proofs.Ytkaijekdnbhjaaa
