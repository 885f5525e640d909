/- A palette's Read. -/
import Derived.Test.YtccldalagbfmhaaPal1
namespace Go.Proofs.Ytccldalagbfmhaa
open Go.RowKit
set_option linter.unusedVariables false
set_option linter.unusedSimpArgs false

theorem srcTake_yes {w : World} {p g f t a : Nat} {s : ByteArray} {x y : Led} (n : Nat) (h : SrcAt w p g s f t a) (o : SrcOk s f t a) (k : LedAt w g x) (ok : x.Ok) (e : x.work 1 = (y, true)) (hn : a + n ≤ t) :
    Calls Try.prog 20 #[.pointer (some ⟨p, 0, none⟩), .int .i64 (n : Int)] w fun e w' => e = .returned (.tuple #[.string (s.extract a (a + n)), .bool true]) ∧ SrcAt w' p g s f t (a + n) ∧ LedAt w' g y ∧ Turn [p, g] w w' := by
  have HN := Lib.hid (srcNext_yes n h o k ok e hn)
  clear h o k ok e
  go_enter Try.func20, Try.ntmps20
  go_wp2_with (go_at_call 39; refine HN.out.mono ?_; rintro e w1 ⟨rfl, q1, q2, q3⟩)
  go_ret2
  exact ⟨rfl, q1, q2, q3⟩
theorem srcTake_short {w : World} {p g f t a : Nat} {s : ByteArray} {x y : Led} (n : Int) (h : SrcAt w p g s f t a) (o : SrcOk s f t a) (k : LedAt w g x) (ok : x.Ok) (e : x.work 1 = (y, true)) (hn : n < 0 ∨ (t : Int) - a < n) :
    Calls Try.prog 20 #[.pointer (some ⟨p, 0, none⟩), .int .i64 n] w fun e w' => e = .returned (.tuple #[.string ⟨#[]⟩, .bool false]) ∧ SrcAt w' p g s f t a ∧ LedAt w' g y ∧ Turn [p, g] w w' := by
  have HN := Lib.hid (srcNext_short n h o k ok e hn)
  clear h o k ok e hn
  go_enter Try.func20, Try.ntmps20
  go_wp2_with (go_at_call 39; refine HN.out.mono ?_; rintro e w1 ⟨rfl, q1, q2, q3⟩)
  go_ret2
  exact ⟨rfl, q1, q2, q3⟩
theorem palRead_arg (pa : Option Addr) (qa : Addr) (n k : Int) (w : World) (h : psize k = 0 ∨ n < 0) :
    Calls Try.prog 30 #[.pointer pa, .pointer (some qa), .int .i64 n, .int .i64 k] w fun e w' => e = .returned (.int .i64 1) ∧ Below w.heap.size w w' := by
  have HS := Lib.hid (fun w => size_any k w)
  obtain ⟨Z, hZ⟩ : ∃ Z, Z = psize k := ⟨_, rfl⟩
  rw [← hZ] at HS h
  clear hZ
  by_cases h0 : Z = 0
  · subst h0
    clear h
    go_enter Try.func30, Try.ntmps30
    go_wp2_with (go_at_call 25; refine (HS.out _).mono ?_; rintro e w1 ⟨rfl, b1⟩)
    go_ret
    exact ⟨rfl, b1⟩
  · have h1 : n < 0 := h.resolve_left h0
    have hb : (Z == 0) = false := beq_eq_false_iff_ne.2 h0
    clear h
    go_enter Try.func30, Try.ntmps30
    go_wp2_with (go_at_call 25; refine (HS.out _).mono ?_; rintro e w1 ⟨rfl, b1⟩)
    go_ret
    exact ⟨rfl, b1⟩
theorem palRead_full {w : World} {p b : Nat} {N m : Int} (h : PalAt w p b N m) (qa : Addr) (n k : Int) (hk : psize k ≠ 0) (hn : 0 ≤ n) (hN : 0 ≤ N ∧ N ≤ m ∧ m ≤ 65536) (hf : m - N < n) :
    Calls Try.prog 30 #[.pointer (some ⟨p, 0, none⟩), .pointer (some qa), .int .i64 n, .int .i64 k] w fun e w' => e = .returned (.int .i64 7) ∧ Below w.heap.size w w' := by
  have HS := Lib.hid (fun w => size_any k w)
  obtain ⟨Z, hZ⟩ : ∃ Z, Z = psize k := ⟨_, rfl⟩
  rw [← hZ] at HS hk
  clear hZ
  have hb : (Z == 0) = false := beq_eq_false_iff_ne.2 hk
  have h1 : ¬ n < 0 := by omega
  have HP := Lib.hid h
  have hpl := Blk.lt h
  clear h
  go_enter Try.func30, Try.ntmps30
  go_wp2_with (go_at_call 25; refine (HS.out _).mono ?_; rintro e w1 ⟨rfl, b1⟩; have P1 : PalAt w1 p b N m := Blk.below HP.out b1 hpl; have d1 := P1.n_; have d2 := P1.m_)
  go_quiet (fail)
  go_wp2_with fail
  go_ret
  exact ⟨rfl, below_drewN b1 _⟩
/-- the colours of the first j entries -/
def ents (k : Int) (z : Nat) (s : ByteArray) (j : Nat) : List Qc := (List.range j).map fun i => ecol k (s.data.toList.drop (i * z))
theorem ents_succ (k : Int) (z : Nat) (s : ByteArray) (j : Nat) : ents k z s (j + 1) = ents k z s j ++ [ecol k (s.data.toList.drop (j * z))] := by simp [ents, List.range_succ]
theorem ents_len (k : Int) (z : Nat) (s : ByteArray) (j : Nat) : (ents k z s j).length = j := by simp [ents]
theorem extract_list' (s : ByteArray) (a b : Nat) : (s.extract a b).data.toList = (s.data.toList.drop a).take (b - a) := by
  simp [ByteArray.data_extract, Array.toList_extract, List.extract_eq_take_drop]
/-- steps enough -/
def Works (Z : Nat → Led) (n : Nat) : Prop := ∀ j, j < n → (Z j).Ok ∧ (Z j).work 1 = (Z (j + 1), true)
theorem notFour {a p d q g : Nat} (h1 : a ≠ p) (h2 : a ≠ d) (h3 : a ≠ q) (h4 : a ≠ g) : a ∉ [p, d, q, g] := by simp [h1, h2, h3, h4]
set_option maxRecDepth 100000 in
set_option maxHeartbeats 2000000 in
theorem palRead_run {w : World} {p b g d m q z n : Nat} {L : List Qc} {s : ByteArray} {k : Int} {Z : Nat → Led} (h : PalHas w p b g d m L) (hm : m ≤ 65536) (hs : SrcAt w q g s 0 s.size 0) (hsz : s.size ≤ 1073741824) (hL : LedAt w g (Z 0)) (hw : Works Z n) (hk : psize k = (z : Int)) (hz : 1 ≤ z) (hf : n ≤ m - L.length) :
    Calls Try.prog 30 #[.pointer (some ⟨p, 0, none⟩), .pointer (some ⟨q, 0, none⟩), .int .i64 (n : Int), .int .i64 k] w fun e w' => ∃ c y, (e = .returned (.int .i64 0) ∧ c = n ∨ e = .returned (.int .i64 5) ∧ c < n ∧ s.size < (c + 1) * z) ∧ c * z ≤ s.size ∧ c ≤ n ∧ PalHas w' p b g d m (L ++ ents k z s c) ∧ LedAt w' g (Z y) ∧ y ≤ n ∧ Turn [p, d, q, g] w w' := by
  have hz4 : z ≤ 4 := by have := (psize_four (k := k)).2; omega
  have HS0 := fun w => size_any k w
  rw [hk] at HS0
  have HS := Lib.hid HS0
  have HK : Hid (psize k = (z : Int)) := Lib.hid hk
  have hzb : ((z : Int) == 0) = false := beq_eq_false_iff_ne.2 (by omega)
  have hz0 : ¬ (z : Int) = 0 := by omega
  have n0 : ¬ (n : Int) < 0 := by omega
  have hLm := h.2.1
  have n1 : ¬ (m : Int) - (L.length : Int) < (n : Int) := by omega
  obtain ⟨N, hN⟩ : ∃ N, N = L.length := ⟨_, rfl⟩
  rw [← hN] at n1 hf hLm
  have HN := Lib.hid hN
  have hlt := h.lt
  have hlg := Blk.lt hL
  have hlq := Blk.lt hs
  have hpbd := Lib.hid h.pbd
  have hled := Lib.hid (h.led hL)
  have hsrc := Lib.hid (h.src hs)
  have hqg := Lib.hid (SrcAt.ne hs hL)
  have HH := Lib.hid h
  have HQ := Lib.hid hs
  have HL := Lib.hid hL
  have HW := Lib.hid hw
  clear h hs hL hw hk HS0 hN
  go_enter Try.func30, Try.ntmps30
  go_wp2_with (go_at_call 25; refine (HS.out _).mono ?_; rintro e w1 ⟨rfl, b1⟩; have P1 := HH.out.below b1; have d1 := P1.1.n_; have d2 := P1.1.m_; rw [← HN.out] at d1)
  go_quiet (fail)
  have P2 : Hid (PalHas (w1.drewN nq) p b g d m L) := Lib.hid (P1.turn (S := []) ((Turn.refl _ _).drewN nq) (by simp) (by simp) (by simp))
  have Q2 : Hid (SrcAt (w1.drewN nq) q g s 0 s.size 0) := Lib.hid (Blk.drewN (Blk.below HQ.out b1 hlq) nq)
  have L2 : Hid (LedAt (w1.drewN nq) g (Z 0)) := Lib.hid (Blk.drewN (Blk.below HL.out b1 hlg) nq)
  have T2 : Hid (Turn [p, d, q, g] w (w1.drewN nq)) := Lib.hid ((Turn.of_below b1).drewN nq)
  clear P1 d1 d2 b1
  go_wp2_with fail
  go_loopg [10, 11, 12, 13, 40] n (fun gh s10 s11 s12 s13 x wr => ∃ j : Nat, x = .int .i64 (j : Int) ∧ Hid (n = j + gh) ∧ j ≤ n ∧ Hid (PalHas wr p b g d m (L ++ ents k z s j) ∧ SrcAt wr q g s 0 s.size (j * z) ∧ LedAt wr g (Z j) ∧ Turn [p, d, q, g] w wr ∧ j * z ≤ s.size))
  case atStart => exact ⟨0, rfl, Lib.hid (by omega), by omega, Lib.hid ⟨by simpa [ents] using P2.out, by rw [Nat.zero_mul]; exact Q2.out, L2.out, T2.out, by omega⟩⟩
  case round =>
    obtain ⟨j, rfl, hg, hj, hH⟩ := hrel
    obtain ⟨hp, hq, hl, ht, hjz⟩ := hH.out
    by_cases hlt' : j < n
    · have j0 : (j : Int) < (n : Int) := by omega
      obtain ⟨wok, we⟩ := HW.out j hlt'
      have hso : SrcOk s 0 s.size (j * z) := ⟨by omega, hjz, Nat.le_refl _, by omega⟩
      by_cases hsh : s.size < (j + 1) * z
      · have HT := Lib.hid (srcTake_short (z : Int) hq hso hl wok we (.inr (by rw [Nat.add_mul, Nat.one_mul] at hsh; omega)))
        have HP := Lib.hid hp
        have HTT := Lib.hid ht
        have HSH := Lib.hid hsh
        have HJZ := Lib.hid hjz
        clear hp hq hl ht hsh hH hso wok we hjz
        go_wp2_with (go_at_call 20; refine HT.out.mono ?_; rintro e w3 ⟨rfl, q3, l3, t3⟩)
        go_ret
        exact ⟨j, j + 1, .inr ⟨rfl, hlt', HSH.out⟩, HJZ.out, by omega, HP.out.turn t3 (by simp [hsrc.out.1, hled.out.1]) (by simp [hsrc.out.2.1, hled.out.2.1]) (by simp [hsrc.out.2.2, hled.out.2.2]), l3, by omega, HTT.out.trans (t3.mono (by simp))⟩
      · have hsh2 : j * z + z ≤ s.size := by rw [Nat.add_mul, Nat.one_mul] at hsh; omega
        have HT := Lib.hid (srcTake_yes z hq hso hl wok we hsh2)
        have HP := Lib.hid hp
        have HTT := Lib.hid ht
        have HSH := Lib.hid hsh2
        obtain ⟨x, hx⟩ : ∃ x, x = s.extract (j * z) (j * z + z) := ⟨_, rfl⟩
        rw [← hx] at HT
        have hxz : x.size = z := by rw [hx]; simp; omega
        have hxl : x.data.toList = (s.data.toList.drop (j * z)).take z := by rw [hx, extract_list', Nat.add_sub_cancel_left]
        obtain ⟨qc, hqc⟩ : ∃ qc, qc = ecol k (s.data.toList.drop (j * z)) := ⟨_, rfl⟩
        have HE0 := fun w => entry_any x k w (by rw [HK.out]; omega) (by rw [HK.out, hxz]; omega) (by omega)
        rw [hxl, ecol_take (by rw [HK.out]; omega) (by rw [HK.out]; omega), ← hqc] at HE0
        simp only [Qc.v] at HE0
        have HE := Lib.hid HE0
        have HX : Hid (ents k z s (j + 1) = ents k z s j ++ [qc]) := Lib.hid (by rw [ents_succ, hqc])
        have hroom : Hid ((L ++ ents k z s j).length < m) := Lib.hid (by rw [List.length_append, ents_len, ← HN.out]; omega)
        clear hp hq hl ht hsh hH hso wok we hjz hx hxz hxl hqc HE0 hsh2
        go_wp2_with (first
          | (go_at_call 20; refine HT.out.mono ?_; rintro e w3 ⟨rfl, q3, l3, t3⟩; have P3 := HP.out.turn t3 (by simp [hsrc.out.1, hled.out.1]) (by simp [hsrc.out.2.1, hled.out.2.1]) (by simp [hsrc.out.2.2, hled.out.2.2]))
          | (go_at_call 38; refine (HE.out _).mono ?_; rintro e w4 ⟨rfl, b4⟩; have P4 := (P3.below b4).below ((Below.refl _ _).alloc (Nat.le_refl _) (.cells #[.int .u8 (qc.r.toNat : Int), .int .u8 (qc.g.toNat : Int), .int .u8 (qc.b.toNat : Int), .int .u8 (qc.a.toNat : Int)] 49)); have HA := Lib.hid (has_add P4 hroom.out hm qc))
          | (go_at_call 49; refine HA.out.mono ?_; rintro e w5 ⟨rfl, p5, t5⟩))
        go_roundg (n - (j + 1))
        case measure => have := hg.out; omega
        case rel =>
          refine ⟨j + 1, by go_num, Lib.hid (by have := hg.out; omega), by omega, Lib.hid ⟨?_, ?_, ?_, ?_, ?_⟩⟩
          · rw [HX.out, ← List.append_assoc]; exact p5
          · rw [Nat.add_mul, Nat.one_mul]
            exact Blk.turn (Blk.alloc (Blk.below q3 b4 (Blk.lt q3)) _) t5 (by simp [hsrc.out.1.symm, hsrc.out.2.2.symm])
          · exact Blk.turn (Blk.alloc (Blk.below l3 b4 (Blk.lt l3)) _) t5 (by simp [hled.out.1.symm, hled.out.2.2.symm])
          · exact ((HTT.out.trans (t3.mono (by simp))).trans ((Turn.of_below b4).alloc _)).trans (t5.mono (by simp))
          · rw [Nat.add_mul, Nat.one_mul]; exact HSH.out
    · obtain rfl : j = n := by omega
      clear hp hq hl ht hjz
      go_wp2_with fail
      go_ret
      obtain ⟨hp, hq, hl, ht, hjz⟩ := hH.out
      exact ⟨j, j, .inl ⟨rfl, rfl⟩, hjz, by omega, hp, hl, by omega, ht⟩
end Go.Proofs.Ytccldalagbfmhaa
