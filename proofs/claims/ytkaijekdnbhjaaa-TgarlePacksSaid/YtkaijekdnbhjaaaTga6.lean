/- The document's Packets. -/
import Derived.Test.YtkaijekdnbhjaaaTga4
import Derived.OwnWalk
namespace Go.Proofs.Ytkaijekdnbhjaaa
open Go.RowKit
set_option linter.unusedVariables false
set_option linter.unusedSimpArgs false

set_option maxRecDepth 100000 in
set_option maxHeartbeats 4000000 in
theorem refPackets_any {w : World} {s : ByteArray} {size n : Nat} (h1 : 1 ≤ size) (h2 : size ≤ 4) (hn : n ≤ 2000) (hs : s.size ≤ 10000000) :
    Calls Try.prog 23 #[.string s, .int .i64 (size : Int), .int .i64 (n : Int)] w fun e w' => PAns (unpackL size s.data.toList n) w.heap.size e w' ∧ Below w.heap.size w w' := by
  obtain ⟨R, hR⟩ : ∃ R, R = unpackL size s.data.toList n := ⟨_, rfl⟩
  rw [← hR]
  have HR := Lib.hid hR
  have HO : Hid (Owns1 (w.alloc (.cells #[] 9)) w.heap.size 9 (.slice (some ⟨w.heap.size, 0, none⟩) 0 0) []) := Lib.hid (World.ownsRow_made w #[] 0 (Nat.le_refl _) (Nat.zero_le _) rfl)
  have HB0 : Hid (Below w.heap.size w (w.alloc (.cells #[] 9))) := Lib.hid ((Below.refl _ _).alloc (Nat.le_refl _) _)
  have hst : Hid (Rest size n s 0 []) := Lib.hid (by unfold Rest; rw [List.drop_zero]; simp only [List.length_nil, Nat.sub_zero]; cases unpackL size s.data.toList n <;> simp [PRes.push, BL])
  clear hR
  go_enter Try.func23, Try.ntmps23
  go_wp2_with fail
  go_loopg [9, 10, 11, 12, 13] n (fun g out at_ s11 s12 s13 wr => ∃ (A : Nat) (L : List ByteArray), at_ = .int .i64 (A : Int) ∧ A ≤ s.size ∧ Hid (n = L.length + g) ∧ Owns1 wr w.heap.size 9 out (strs L) ∧ Hid (Rest size n s A L) ∧ Below w.heap.size w wr)
  case atStart => exact ⟨0, [], rfl, by omega, Lib.hid (by simp), HO.out, hst, HB0.out⟩
  case round =>
    obtain ⟨A, L, rfl, hA, hG, hown, hrest, hb⟩ := hrel
    obtain ⟨G, hGe⟩ : ∃ G, G = gk := ⟨_, rfl⟩
    subst hGe
    obtain ⟨K, hK⟩ : ∃ K, K = L.length := ⟨_, rfl⟩
    obtain ⟨oa, oc, hv⟩ := hown.slice
    rw [strs_len, ← hK] at hv
    subst hv
    have HK := Lib.hid hK
    have HOWN := Lib.hid hown
    have HG : Hid (n = K + G) := Lib.hid (by rw [hK]; exact hG.out)
    have HRS : Hid (Rest size n s A L) := hrest
    clear hK hown hG hrest HO HB0 hst
    have hsz := hb.size
    by_cases h0 : K < n
    · have k0 : (K : Int) < (n : Int) := by omega
      by_cases hE : s.size ≤ A
      · have hE' : (s.size : Int) ≤ (A : Int) := by omega
        go_wp2_with fail
        go_ret3
        exact ⟨by rw [HR.out, HRS.out.short hE (by rw [← HK.out]; exact h0)]; rfl, hb⟩
      · have hA2 : A < s.size := by omega
        have hA3 : (A : Int) < (s.size : Int) := by omega
        obtain ⟨B, hB⟩ : ∃ B, s[A].toNat = B := ⟨_, rfl⟩
        have hB2 : B < 256 := by rw [← hB]; exact UInt8.toNat_lt _
        obtain ⟨C, hC⟩ : ∃ C, C = B % 128 + 1 := ⟨_, rfl⟩
        have hC1 : 1 ≤ C := by omega
        have hC2 : C ≤ 128 := by omega
        have f1 : (B : Int) % 128 + 1 = (C : Int) := by omega
        have HC : Hid (cnt s[A] = C) := Lib.hid (by unfold cnt; rw [hB, hC])
        clear hC
        by_cases hlow : B < 128
        · have f2 : ¬ (128 : Int) ≤ (B : Int) := by omega
          have HT : Hid (thr s[A] = C) := Lib.hid (by unfold thr; rw [if_pos (by rw [hB]; exact hlow), HC.out])
          have HLOW := Lib.hid hlow
          clear hlow
          by_cases hcnt : n - K < C
          · have c1 : (n : Int) - (K : Int) < (C : Int) := by omega
            go_wp2_with fail
            go_ret3
            exact ⟨by rw [HR.out, HRS.out.cons hA2 (by rw [← HK.out]; exact h0), if_pos (by rw [← HK.out, HC.out]; exact hcnt)]; rfl, hb⟩
          · have c1 : ¬ (n : Int) - (K : Int) < (C : Int) := by omega
            have HCN := Lib.hid hcnt
            clear hcnt
            go_wp2_with fail
            go_loopg [9, 10, 13] C (fun g v at_ x w2 => ∃ (j a : Nat), x = .int .i64 (j : Int) ∧ at_ = .int .i64 (a : Int) ∧ Hid (C = j + g ∧ A + 1 + j * size = a) ∧ j ≤ C ∧ a ≤ s.size ∧ Owns1 w2 w.heap.size 9 v (strs (L ++ pixS s (A + 1) C size j)) ∧ Below w.heap.size w w2)
            case atStart => exact ⟨0, A + 1, rfl, by go_num, Lib.hid (by simp), by omega, by omega, by simpa [pixS] using HOWN.out, hb⟩
            case round =>
              obtain ⟨j, a, rfl, rfl, hg3, hjC, haz, own3, hb3⟩ := hrel
              by_cases hj : j < C
              · have j0 : (j : Int) < (C : Int) := by omega
                have hle : j * size + size ≤ C * size := by
                  rw [show j * size + size = (j + 1) * size by rw [Nat.add_mul, Nat.one_mul]]
                  exact Nat.mul_le_mul (by omega) (Nat.le_refl _)
                have HLE := Lib.hid hle
                clear hle
                by_cases hsh : s.size < a + size
                · have t1 : (s.size : Int) < (a : Int) + (size : Int) := by omega
                  go_wp2_with fail
                  go_ret3
                  exact ⟨by rw [HR.out, HRS.out.cons hA2 (by rw [← HK.out]; exact h0), if_neg (by rw [← HK.out, HC.out]; exact HCN.out), if_pos (by rw [HT.out]; have := hg3.out.2; have := HLE.out; omega)]; rfl, hb3⟩
                · have t1 : (a : Int) + (size : Int) ≤ (s.size : Int) := by omega
                  have t2 : a + size ≤ s.size := by omega
                  have HX : Hid (pixS s (A + 1) C size (j + 1) = pixS s (A + 1) C size j ++ [s.extract a (a + size)]) := Lib.hid (by rw [pixS_succ, show min j (C - 1) = j by omega, hg3.out.2])
                  have hl3 : (strs (L ++ pixS s (A + 1) C size j)).length < 1099511627776 := by rw [strs_len, List.length_append, pixS_len, ← HK.out]; omega
                  have z3 := hb3.size
                  go_wp2_with (at_builtin; refine wpList_append_one rfl (.tmp 52) (.tmp 59) 45 9 rfl (.string ⟨#[]⟩) 16 Try.underlying45 infoStr rfl (by decide) w.heap.size _ _ rfl (own3.alloc _) _ rfl (.string (s.extract a (a + size))) ?_ rfl hl3 ?_ ?_; (exact cell_new _ _ _ 0 _ rfl); (simp; omega); intro v4 w4 own4 hb4 _; have hb4' := (hb3.alloc z3 _).trans hb4)
                  go_roundg (C - (j + 1))
                  case measure => have := hg3.out.1; omega
                  case rel => exact ⟨j + 1, a + size, by go_num, by go_num, Lib.hid ⟨by have := hg3.out.1; omega, by rw [← hg3.out.2, Nat.add_mul, Nat.one_mul, Nat.add_assoc (A + 1)]⟩, by omega, t2, by rw [HX.out, ← List.append_assoc]; simpa [strs] using own4, hb4'⟩
              · obtain rfl : j = C := by omega
                have HNX := Lib.hid (HRS.out.next hA2 (by rw [← HK.out]; exact h0) (by rw [← HK.out, HC.out]; exact HCN.out) (by rw [HT.out]; have := hg3.out.2; omega))
                rw [HT.out, HC.out, hg3.out.2] at HNX
                go_wp2_with fail
                go_roundg (G - j)
                case measure => have := HG.out; have := HCN.out; omega
                case rel => exact ⟨a, _, rfl, haz, Lib.hid (by rw [List.length_append, pixS_len, ← HK.out]; have := HG.out; have := HCN.out; omega), own3, HNX, hb3⟩
        · have f2 : (128 : Int) ≤ (B : Int) := by omega
          have HT : Hid (thr s[A] = 1) := Lib.hid (by unfold thr; rw [if_neg (by rw [hB]; exact hlow)])
          clear hlow
          by_cases hcnt : n - K < C
          · have c1 : (n : Int) - (K : Int) < (C : Int) := by omega
            go_wp2_with fail
            go_ret3
            exact ⟨by rw [HR.out, HRS.out.cons hA2 (by rw [← HK.out]; exact h0), if_pos (by rw [← HK.out, HC.out]; exact hcnt)]; rfl, hb⟩
          · have c1 : ¬ (n : Int) - (K : Int) < (C : Int) := by omega
            have HCN := Lib.hid hcnt
            clear hcnt
            go_wp2_with fail
            go_loopg [9, 10, 13] C (fun g v at_ x w2 => ∃ (j a : Nat), x = .int .i64 (j : Int) ∧ at_ = .int .i64 (a : Int) ∧ Hid (C = j + g ∧ (j < C → A + 1 = a) ∧ (j = C → A + 1 + size = a)) ∧ j ≤ C ∧ a ≤ s.size ∧ Owns1 w2 w.heap.size 9 v (strs (L ++ pixS s (A + 1) 1 size j)) ∧ Below w.heap.size w w2)
            case atStart => exact ⟨0, A + 1, rfl, by go_num, Lib.hid ⟨by omega, fun _ => rfl, fun _ => by omega⟩, by omega, by omega, by simpa [pixS] using HOWN.out, hb⟩
            case round =>
              obtain ⟨j, a, rfl, rfl, hg3, hjC, haz, own3, hb3⟩ := hrel
              by_cases hj : j < C
              · have j0 : (j : Int) < (C : Int) := by omega
                have HA1 : Hid (A + 1 = a) := Lib.hid (hg3.out.2.1 hj)
                by_cases hsh : s.size < a + size
                · have t1 : (s.size : Int) < (a : Int) + (size : Int) := by omega
                  go_wp2_with fail
                  go_ret3
                  exact ⟨by rw [HR.out, HRS.out.cons hA2 (by rw [← HK.out]; exact h0), if_neg (by rw [← HK.out, HC.out]; exact HCN.out), if_pos (by rw [HT.out]; have := HA1.out; omega)]; rfl, hb3⟩
                · have t1 : (a : Int) + (size : Int) ≤ (s.size : Int) := by omega
                  have t2 : a + size ≤ s.size := by omega
                  have HX : Hid (pixS s (A + 1) 1 size (j + 1) = pixS s (A + 1) 1 size j ++ [s.extract a (a + size)]) := Lib.hid (by rw [pixS_succ, show min j (1 - 1) = 0 by omega, Nat.zero_mul, Nat.add_zero, HA1.out])
                  have hl3 : (strs (L ++ pixS s (A + 1) 1 size j)).length < 1099511627776 := by rw [strs_len, List.length_append, pixS_len, ← HK.out]; omega
                  have z3 := hb3.size
                  by_cases hlast : j + 1 = C
                  · have j1 : ((j : Int) == (C : Int) - 1) = true := beq_iff_eq.2 (by omega)
                    have j2 : (j : Int) = (C : Int) - 1 := by omega
                    have HLS := Lib.hid hlast
                    clear hlast
                    go_wp2_with (at_builtin; refine wpList_append_one rfl (.tmp 52) (.tmp 59) 45 9 rfl (.string ⟨#[]⟩) 16 Try.underlying45 infoStr rfl (by decide) w.heap.size _ _ rfl (own3.alloc _) _ rfl (.string (s.extract a (a + size))) ?_ rfl hl3 ?_ ?_; (exact cell_new _ _ _ 0 _ rfl); (simp; omega); intro v4 w4 own4 hb4 _; have hb4' := (hb3.alloc z3 _).trans hb4)
                    go_roundg (C - (j + 1))
                    case measure => have := hg3.out.1; omega
                    case rel => exact ⟨j + 1, a + size, by go_num, by go_num, Lib.hid ⟨by have := hg3.out.1; omega, fun q => by have := HLS.out; omega, fun _ => by rw [HA1.out]⟩, by omega, t2, by rw [HX.out, ← List.append_assoc]; simpa [strs] using own4, hb4'⟩
                  · have j1 : ((j : Int) == (C : Int) - 1) = false := beq_eq_false_iff_ne.2 (by omega)
                    have HLS := Lib.hid hlast
                    clear hlast
                    go_wp2_with (at_builtin; refine wpList_append_one rfl (.tmp 52) (.tmp 59) 45 9 rfl (.string ⟨#[]⟩) 16 Try.underlying45 infoStr rfl (by decide) w.heap.size _ _ rfl (own3.alloc _) _ rfl (.string (s.extract a (a + size))) ?_ rfl hl3 ?_ ?_; (exact cell_new _ _ _ 0 _ rfl); (simp; omega); intro v4 w4 own4 hb4 _; have hb4' := (hb3.alloc z3 _).trans hb4)
                    go_roundg (C - (j + 1))
                    case measure => have := hg3.out.1; omega
                    case rel => exact ⟨j + 1, a, by go_num, rfl, Lib.hid ⟨by have := hg3.out.1; omega, fun q => HA1.out, fun q => absurd q HLS.out⟩, by omega, haz, by rw [HX.out, ← List.append_assoc]; simpa [strs] using own4, hb4'⟩
              · obtain rfl : j = C := by omega
                have HAZ : Hid (A + 1 + size = a) := Lib.hid (hg3.out.2.2 rfl)
                have HNX := Lib.hid (HRS.out.next hA2 (by rw [← HK.out]; exact h0) (by rw [← HK.out, HC.out]; exact HCN.out) (by rw [HT.out]; have := HAZ.out; omega))
                rw [HT.out, HC.out, Nat.one_mul, HAZ.out] at HNX
                go_wp2_with fail
                go_roundg (G - j)
                case measure => have := HG.out; have := HCN.out; omega
                case rel => exact ⟨a, _, rfl, haz, Lib.hid (by rw [List.length_append, pixS_len, ← HK.out]; have := HG.out; have := HCN.out; omega), own3, HNX, hb3⟩
    · have k0 : ¬ (K : Int) < (n : Int) := by omega
      go_wp2_with fail
      go_ret3
      exact ⟨by rw [HR.out, HRS.out.end_ (by rw [← HK.out]; have := HG.out; omega)]; exact ⟨_, L, rfl, HOWN.out, rfl⟩, hb⟩
end Go.Proofs.Ytkaijekdnbhjaaa
