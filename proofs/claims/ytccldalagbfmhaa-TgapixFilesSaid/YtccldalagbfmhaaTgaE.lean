/- A palette is read by any budget: as many entries as are wanted, or it is told what lacks. -/
import Derived.Test.YtccldalagbfmhaaTgaTold
import Derived.Test.YtccldalagbfmhaaTgaB
import Derived.Test.YtccldalagbfmhaaWays
import Derived.Test.YtccldalagbfmhaaPal3
namespace Go.Proofs.Ytccldalagbfmhaa
open Go.RowKit
set_option linter.unusedVariables false
set_option linter.unusedSimpArgs false

theorem tgaKind_size {e : Nat} (h : TgaCol e) : psize (tgaKind e : Int) = (tgaEntry e : Int) ∧ 1 ≤ tgaEntry e ∧ tgaEntry e ≤ 4 := by
  rcases h with rfl | rfl | rfl | rfl <;> decide
theorem flat_set : ∀ (L : List Qc) (i : Nat) (c : Qc), i < L.length → over (flat L) (4 * i) [c.r, c.g, c.b, c.a] = flat (L.set i c) := by
  intro L i c hi
  have e : L.set i c = L.take i ++ [c] ++ L.drop (i + 1) := by
    rw [List.set_eq_take_append_cons_drop, if_pos hi]
    simp
  have f : flat L = flat (L.take i) ++ flat (L.drop i) := by rw [← flat_append, List.take_append_drop]
  have l1 : (flat (L.take i)).length = 4 * i := by rw [flat_len, List.length_take]; omega
  have l2 : (flat (L.drop i)).length = 4 * (L.length - i) := by rw [flat_len, List.length_drop]
  have d : flat (L.drop i) = flat [L[i]] ++ flat (L.drop (i + 1)) := by
    rw [← flat_append, List.singleton_append, List.getElem_cons_drop]
  rw [e, f, over_at l1 _ (by rw [l2]; simp; omega), flat_append, flat_append]
  congr 1
  rw [d]
  show List.drop 4 (flat [L[i]] ++ flat (L.drop (i + 1))) = _
  rw [show (4 : Nat) = (flat [L[i]]).length by rw [flat_len]; rfl, List.drop_left]
theorem tgaPerm_nil (h : TgaHd) : tgaPerm h [] = List.replicate (h.W * h.H) ⟨0, 0, 0, 0⟩ := rfl
theorem tgaPerm_next (h : TgaHd) (L : List Qc) (q : Qc) : tgaPerm h (L ++ [q]) = (tgaPerm h L).set (h.place L.length) q := by
  unfold tgaPerm
  rw [List.length_append, List.length_singleton, List.range_succ, List.foldl_append, List.foldl_cons, List.foldl_nil]
  have e1 : (L ++ [q]).getD L.length ⟨0, 0, 0, 0⟩ = q := by simp
  rw [e1]
  congr 1
  have key : ∀ (ks : List Nat) (acc : List Qc), (∀ k ∈ ks, k < L.length) → ks.foldl (fun acc k => acc.set (h.place k) ((L ++ [q]).getD k ⟨0, 0, 0, 0⟩)) acc = ks.foldl (fun acc k => acc.set (h.place k) (L.getD k ⟨0, 0, 0, 0⟩)) acc := by
    intro ks
    induction ks with
    | nil => intro acc _; rfl
    | cons k ks ih =>
      intro acc hk
      have hkl := hk k (by simp)
      rw [List.foldl_cons, List.foldl_cons, ih _ fun x hx => hk x (by simp [hx])]
      congr 2
      rw [List.getD_eq_getElem?_getD, List.getD_eq_getElem?_getD, List.getElem?_append_left hkl]
  exact key _ _ fun k hk => by simpa using hk
theorem tgaPerm_over (h : TgaHd) (L : List Qc) (q : Qc) (w1 : 1 ≤ h.W) (hL : L.length < h.W * h.H) : over (flat (tgaPerm h L)) (4 * h.place L.length) [q.r, q.g, q.b, q.a] = flat (tgaPerm h (L ++ [q])) := by
  rw [tgaPerm_next, flat_set _ _ _ (by rw [tgaPerm_len]; exact h.place_lt w1 hL)]
theorem flat_zero (n : Nat) : flat (List.replicate n ⟨0, 0, 0, 0⟩) = List.replicate (4 * n) 0 := by
  induction n with
  | zero => rfl
  | succ n ih =>
    rw [List.replicate_succ, ← List.singleton_append, flat_append, ih]
    rfl
def PalReadPost (w w' : World) (p b g d q m a0 : Nat) (s : ByteArray) (h : TgaHd) (y : Led) (e : Ending) : Prop :=
  ∃ (y' : Led) (M : List Qc) (a' : Nat) (rc : Int), e = .returned (.int .i64 rc) ∧ PalHas w' p b g d m M ∧ LedAt w' g y' ∧ y'.Ok ∧ y'.bytes = y.bytes ∧ Turn [p, d, q, g] w w' ∧ SrcAt w' q g s 0 s.size a' ∧ a' ≤ s.size ∧
    ((rc = 0 ∧ M.length = m ∧ y'.reason = 0 ∧ ∀ z k, (tgaPal s h z m a0 [] k).run y = (k a' M).run y') ∨
     (rc = 5 ∧ ∃ kk aa, NoRead y' a' s.size kk aa ∧ ∀ z k, (tgaPal s h z m a0 [] k).run y = ((y'.give (z : Int)).1, .bad kk aa)))
set_option maxRecDepth 100000 in
set_option maxHeartbeats 2000000 in
theorem palRead_ways {w : World} {p b g d m q a0 : Nat} {s : ByteArray} {h : TgaHd} {y : Led} (hcol : TgaCol h.entry) (P0 : PalHas w p b g d m []) (hm : m ≤ 65535) (S0 : SrcAt w q g s 0 s.size a0) (ha0 : a0 ≤ s.size) (hsz : s.size ≤ 1099511627776) (L0 : LedAt w g y) (ok : y.Ok) (hr : y.reason = 0) :
    Calls Try.prog 30 #[.pointer (some ⟨p, 0, none⟩), .pointer (some ⟨q, 0, none⟩), .int .i64 (m : Int), .int .i64 (tgaKind h.entry : Int)] w fun e w' => PalReadPost w w' p b g d q m a0 s h y e := by
  obtain ⟨hk, hz, hz4⟩ := tgaKind_size hcol
  obtain ⟨k, hkk⟩ : ∃ k : Int, (tgaKind h.entry : Int) = k := ⟨_, rfl⟩
  obtain ⟨z, hzz⟩ : ∃ z, tgaEntry h.entry = z := ⟨_, rfl⟩
  have HKK := Lib.hid hkk
  have HZZ := Lib.hid hzz
  rw [hkk, hzz] at hk
  rw [hzz] at hz hz4
  rw [hkk]
  have HS0 := fun w => size_any k w
  rw [hk] at HS0
  have HS := Lib.hid HS0
  have HK : Hid (psize k = (z : Int)) := Lib.hid hk
  have hzb : ((z : Int) == 0) = false := beq_eq_false_iff_ne.2 (by omega)
  have hz0 : ¬ (z : Int) = 0 := by omega
  have n0 : ¬ (m : Int) < 0 := by omega
  have n1 : ¬ (m : Int) - (0 : Int) < (m : Int) := by omega
  have hlg := Blk.lt L0
  have hlq := Blk.lt S0
  have hpbd := Lib.hid P0.pbd
  have hled := Lib.hid (P0.led L0)
  have hsrc := Lib.hid (P0.src S0)
  have hqg := Lib.hid (SrcAt.ne S0 L0)
  have HH := Lib.hid P0
  have HQ := Lib.hid S0
  have HL := Lib.hid L0
  have HY := Lib.hid (And.intro ok hr)
  have HA0 := Lib.hid (And.intro ha0 hsz)
  clear P0 S0 L0 hk HS0 ok hr hkk hzz hcol ha0 hsz
  go_enter Try.func30, Try.ntmps30
  go_wp2_with (go_at_call 25; refine (HS.out _).mono ?_; rintro e w1 ⟨rfl, b1⟩; have P1 := HH.out.below b1; have d1 : w1.cell? ⟨p, 1, none⟩ = some (.int .i64 0) := P1.1.n_; have d2 := P1.1.m_)
  go_quiet (fail)
  have HI : Hid (PalHas (w1.drewN nq) p b g d m [] ∧ SrcAt (w1.drewN nq) q g s 0 s.size a0 ∧ LedAt (w1.drewN nq) g y ∧ Turn [p, d, q, g] w (w1.drewN nq)) := Lib.hid ⟨P1.turn (S := []) ((Turn.refl _ _).drewN nq) (by simp) (by simp) (by simp), Blk.drewN (Blk.below HQ.out b1 hlq) nq, Blk.drewN (Blk.below HL.out b1 hlg) nq, (Turn.of_below b1).drewN nq⟩
  clear P1 d1 d2 b1
  go_wp2_with fail
  go_loopg [10, 11, 12, 13, 40] m (fun gh s10 s11 s12 s13 x wr => ∃ (j gk a : Nat) (y' : Led) (M : List Qc), gk = gh ∧ x = .int .i64 (j : Int) ∧ Hid (m = j + gk) ∧ j ≤ m ∧ Hid (M.length = j) ∧ Hid (PalHas wr p b g d m M ∧ SrcAt wr q g s 0 s.size a ∧ LedAt wr g y' ∧ Turn [p, d, q, g] w wr) ∧ Hid (a ≤ s.size ∧ y'.Ok ∧ y'.reason = 0 ∧ y'.bytes = y.bytes ∧ ∀ zz k, (tgaPal s h zz m a0 [] k).run y = (tgaPal s h zz gk a M k).run y'))
  case atStart => exact ⟨0, m, a0, y, [], rfl, rfl, Lib.hid (by omega), by omega, Lib.hid rfl, HI, Lib.hid ⟨HA0.out.1, HY.out.1, HY.out.2, rfl, fun _ _ => rfl⟩⟩
  case round =>
    obtain ⟨j, gh, a, y', M, rfl, rfl, hg, hj, hM, hH, hR⟩ := hrel
    obtain ⟨hp, hq, hl, ht⟩ := hH.out
    obtain ⟨ha, yok, yr, yb, hrun⟩ := hR.out
    by_cases hlt' : j < m
    · have j0 : (j : Int) < (m : Int) := by omega
      have hso : SrcOk s 0 s.size a := ⟨by omega, ha, Nat.le_refl _, HA0.out.2⟩
      have HT := Lib.hid (srcTake_ways z hq hso hl yok yr)
      have HP := Lib.hid hp
      have HTT := Lib.hid ht
      have HRUN := Lib.hid hrun
      have HYB := Lib.hid yb
      have HAA := Lib.hid ha
      obtain ⟨x, hx⟩ : ∃ x, x = s.extract a (a + z) := ⟨_, rfl⟩
      rw [← hx] at HT
      have HXX := Lib.hid hx
      obtain ⟨qc, hqc⟩ : ∃ qc, qc = ecol k (s.data.toList.drop a) := ⟨_, rfl⟩
      have HQC := Lib.hid hqc
      have hroom : Hid (M.length < m) := Lib.hid (by rw [hM.out]; exact hlt')
      have gh1 : gh = (gh - 1) + 1 := by have := hg.out; omega
      have HGH := Lib.hid gh1
      clear hp hq hl ht hH hR hso hx hqc ha yok yr yb hrun gh1
      go_wp2_with (first
        | (go_at_call 20; refine HT.out.mono ?_; rintro e w3 ⟨y3, l3, ok3, b3, t3, hor⟩; have P3 := HP.out.turn t3 (by simp [hsrc.out.1, hled.out.1]) (by simp [hsrc.out.2.1, hled.out.2.1]) (by simp [hsrc.out.2.2, hled.out.2.2]); have T3 := HTT.out.trans (t3.mono (S' := [p, d, q, g]) (by simp)); rcases hor with ⟨kk, aa, rfl, q3, nr, nrun⟩ | ⟨rfl, q3, yr3, hle, hw3⟩)
        | (go_at_call 38; have hxz : x.size = z := (by rw [HXX.out]; simp; omega); have hxl : x.data.toList = (s.data.toList.drop a).take z := (by rw [HXX.out, extract_list', Nat.add_sub_cancel_left]); have HE0 := entry_any x k w3 (by rw [HK.out]; omega) (by rw [HK.out, hxz]; omega) (by omega); rw [hxl, ecol_take (by rw [HK.out]; omega) (by rw [HK.out]; omega), ← HQC.out] at HE0; simp only [Qc.v] at HE0; refine HE0.mono ?_; clear HE0 hxz hxl; rintro e w4 ⟨rfl, b4⟩; have P4 := (P3.below b4).below ((Below.refl _ _).alloc (Nat.le_refl _) (.cells #[.int .u8 (qc.r.toNat : Int), .int .u8 (qc.g.toNat : Int), .int .u8 (qc.b.toNat : Int), .int .u8 (qc.a.toNat : Int)] 49)); have HA := Lib.hid (has_add P4 hroom.out (by omega) qc))
        | (go_at_call 49; refine HA.out.mono ?_; rintro e w5 ⟨rfl, p5, t5⟩))
      · go_ret
        exact ⟨y3, M, a, 5, rfl, P3, l3, ok3, b3.trans HYB.out, T3, q3, HAA.out, .inr ⟨rfl, kk, aa, nr, fun zz k => by
          rw [HRUN.out, HGH.out]
          unfold tgaPal
          rw [HZZ.out]
          exact nrun zz _⟩⟩
      · go_roundg (m - (j + 1))
        case measure => have := hg.out; omega
        case rel =>
          refine ⟨j + 1, m - (j + 1), a + z, y3, M ++ [qc], rfl, by go_num, Lib.hid (by have := hg.out; omega), by omega, Lib.hid (by rw [List.length_append, hM.out]; rfl), Lib.hid ⟨p5, ?_, ?_, ?_⟩, Lib.hid ⟨hle, ok3, yr3, b3.trans HYB.out, fun zz k => ?_⟩⟩
          · exact Blk.turn (Blk.alloc (Blk.below q3 b4 (Blk.lt q3)) _) t5 (by simp [hsrc.out.1.symm, hsrc.out.2.2.symm])
          · exact Blk.turn (Blk.alloc (Blk.below l3 b4 (Blk.lt l3)) _) t5 (by simp [hled.out.1.symm, hled.out.2.2.symm])
          · exact (T3.trans ((Turn.of_below b4).alloc _)).trans (t5.mono (by simp))
          · have e : gh = m - (j + 1) + 1 := by have := hg.out; omega
            rw [HRUN.out, e]
            show (Dec.work 1 zz a _).run y' = _
            rw [run_work_yes hw3, HZZ.out, if_pos hle, HKK.out, ← HQC.out]
    · obtain rfl : j = m := by omega
      clear hp hq hl ht ha yok yr yb hrun
      go_wp2_with fail
      go_ret
      obtain ⟨hp, hq, hl, ht⟩ := hH.out
      obtain ⟨ha, yok, yr, yb, hrun⟩ := hR.out
      have e : gh = 0 := by have := hg.out; omega
      subst e
      exact ⟨y', M, a, 0, rfl, hp, hl, yok, yb, ht, hq, ha, .inl ⟨rfl, hM.out, yr, fun z k => hrun z k⟩⟩
end Go.Proofs.Ytccldalagbfmhaa
