/- The law BufMany. -/
import Derived.Test.YtncdchaecbndlaaBufMadeL
import Derived.Test.YtncdchaecbndlaaBits
namespace Go.Proofs.Ytncdchaecbndlaa
open Go.RowKit
set_option linter.unusedVariables false

theorem keptN_succ (Z : Nat → Nat) (q : Nat) : keptN Z (fun _ => false) (q + 1) = keptN Z (fun _ => false) q + Z q := rfl
theorem nt2 {a b c : Nat} (h : a ≠ b) (k : a ≠ c) : a ∉ [b, c] := by simp [h, k]
theorem Made.store {w : World} {g B gb : Nat} {Z : Nat → Nat} {gn : Nat → Bool} {L : List (Nat × Nat)} {t : TypeId} {cs : Array Value} (h : Made w g B Z gn L) (k : Blk w gb t cs) (i : Nat) (u : Value) (h1 : t ≠ 111) (h2 : t ≠ 5) : Made (w.setCell ⟨gb, i, none⟩ u) g B Z gn L :=
  h.step ((Turn.refl [gb] w).set_ i u (by simp)) fun j hj => by
    have e := List.mem_singleton.1 hj
    subst e
    exact ⟨t, cs, k, h1, h2⟩
theorem small_wrap {z : Nat} (h : z ≤ 100000) : wrap64 (z : Int) = (z : Int) := wrap64_id _ (by omega) (by omega)
theorem small_sum {K z : Nat} (h : K ≤ 5100) (h2 : z ≤ 255) : wrap64 ((K : Int) + (z : Int)) = ((K + z : Nat) : Int) := by rw [wrap64_id _ (by omega) (by omega)]; omega
theorem lm_takeN (K z K1 : Nat) (hk : K1 = K + z) (h : K ≤ 5100) (h2 : z ≤ 255) : (LM (K : Int) (K : Int)).take (z : Int) = (LM (K1 : Int) (K1 : Int), true) := by
  have := lm_take (k := (K : Int)) (n := (z : Int)) (by omega) (by omega) (by omega)
  rw [this, hk, Int.natCast_add]
theorem lm_okN (K : Nat) (h : K ≤ 5100) : (LM (K : Int) (K : Int)).Ok := LM.ok (by omega) (by omega) (by omega)
set_option maxRecDepth 100000 in
set_option maxHeartbeats 4000000 in
theorem bufMany_walk (w : World) (A1 : Option Addr) (n1 cap1 : Nat) (l1 : List Int) (h1 : n1 ≤ 20) (hl1 : SliceInts .u8 w A1 n1 l1) (A2 : Option Addr) (n2 cap2 : Nat) (l2 : List Int) (h2 : n2 ≤ 40) (hl2 : SliceInts .u8 w A2 n2 l2) :
    Calls Try.prog 6 #[.slice A1 n1 cap1, .slice A2 n2 cap2] w fun e w' => e = .returned (.bool true) ∧ Below w.heap.size w w' := by
  have i1 : ¬ (20 : Int) < (n1 : Int) := by omega
  have i2 : ¬ (40 : Int) < (n2 : Int) := by omega
  obtain ⟨Z, hZ⟩ : ∃ Z : Nat → Nat, ∀ j, j < n1 → (l1.getD j 0) = (Z j : Int) ∧ Z j ≤ 255 := by
    refine ⟨fun j => (l1.getD j 0).toNat, fun j hj => ?_⟩
    rcases hl1 with h0 | ⟨b, off, rfl, hmax, hll, hcell⟩
    · omega
    · obtain ⟨hwf, hc⟩ := hcell j hj
      obtain ⟨z0, z1⟩ := bounds_u8 hwf
      show (l1.getD j 0) = (((l1.getD j 0).toNat : Nat) : Int) ∧ (l1.getD j 0).toNat ≤ 255
      omega
  have HZ := Lib.hid hZ
  have HL1 := Lib.hid hl1
  have HL2 := Lib.hid hl2
  clear hl1 hl2 hZ
  go_enter Try.func6, Try.ntmps6
  go_wp2_with (go_at_call 10; refine (ledNew_at lm0 _).mono ?_; rintro e w0 ⟨g, rfl, hgB, h0, b0⟩)
  have B0 := Lib.hid b0
  have H0 := Lib.hid h0
  clear b0 h0
  go_loopg [6, 7, 29] n1 (fun k av kv iv wr => ∃ (q : Nat) (L : List (Nat × Nat)), q + k = n1 ∧ iv = .int .i64 (q : Int) ∧ kv = .int .i64 (keptN Z (fun _ => false) q : Int) ∧ L.length = q ∧ Owns1 wr w.heap.size 56 av (ptrs L) ∧ Made wr g w.heap.size Z (fun _ => false) L ∧ LedAt wr g (LM (keptN Z (fun _ => false) q) (keptN Z (fun _ => false) q)) ∧ Below w.heap.size w wr)
  case atStart =>
    refine ⟨0, [], by omega, rfl, rfl, rfl, Owns1.nil _ _ _, ⟨?_, ?_⟩, H0.out, B0.out⟩
    · intro j b d h; simp at h
    · intro i j b d b' d' h; simp at h
  case round =>
    obtain ⟨q, L, hq, rfl, rfl, hL, ho, hm, hl, hb⟩ := hrel
    have HO := Lib.hid ho
    have HM := Lib.hid hm
    have HLd := Lib.hid hl
    have HB := Lib.hid hb
    have hkn := keptN_none Z q (fun j hj => ((HZ.out) j (by omega)).2)
    clear ho hm hl hb
    by_cases hlt : q < n1
    · have hltI : (q : Int) < n1 := by omega
      obtain h0 | ⟨b, off, rfl, hmax, hll, hcell⟩ := HL1.out
      · omega
      obtain ⟨hwf, hc⟩ := hcell q hlt
      obtain ⟨hz, hz2⟩ := HZ.out q hlt
      rw [hz] at hc
      have hbB : b < w.heap.size := World.block_lt_of_cell? w _ hc
      have x0 := (HB.out.cell (p := ⟨b, off + q, none⟩) hbB).trans hc
      have hks : keptN Z (fun _ => false) (q + 1) = keptN Z (fun _ => false) q + Z q := keptN_succ Z q
      generalize hK1 : keptN Z (fun _ => false) (q + 1) = K1 at hks
      generalize hK0 : keptN Z (fun _ => false) q = K at hks HLd hkn
      have HK1 := Lib.hid hK1
      have HK0 := Lib.hid hK0
      have HKS := Lib.hid hks
      clear hK1 hK0
      have hkq : K ≤ 5100 := by omega
      have hpl : (ptrs L).length < 1099511627776 := by rw [ptrs_len]; omega
      have ET := Lib.hid (lm_takeN K (Z q) K1 hks hkq hz2)
      clear hks
      have EK := Lib.hid (lm_okN K hkq)
      have hS : ∀ i ∈ [g], ∃ t cs, Blk _ i t cs ∧ t ≠ 56 := fun i hi => by have e := List.mem_singleton.1 hi; subst e; exact ⟨94, _, HLd.out, by decide⟩
      have hsz := HB.out.size
      clear hcell hc hwf hz
      go_wp2_with (first
        | (go_at_call 29; refine (bufMake_yes HLd.out EK.out ET.out (Nat.le_trans hz2 (by decide))).mono ?_; rintro e w1 ⟨b', d', rfl, m1, m2, m3, m4, m5⟩; have s1 := m5.size; have o1 := Owns1.turn HO.out m5 hS; have o2 : Owns1 (w1.alloc (.cells #[.pointer (some ⟨b', 0, none⟩)] 56)) w.heap.size 56 _ (ptrs L) := Owns1.alloc o1 _; have hc2 : (w1.alloc (.cells #[.pointer (some ⟨b', 0, none⟩)] 56)).cell? ⟨w1.heap.size, 0, none⟩ = some (.pointer (some ⟨b', 0, none⟩)) := cell_new _ _ _ 0 _ rfl; have hbs : w.heap.size ≤ (w1.alloc (.cells #[.pointer (some ⟨b', 0, none⟩)] 56)).heap.size := Nat.le_trans (Nat.le_trans hsz s1) (by simp))
        | (refine wpList_append_one rfl (.tmp 46) (.tmp 48) 55 56 rfl (.pointer none) 8 Try.underlying55 infoP rfl (by decide) w.heap.size _ (ptrs L) rfl o2 ⟨w1.heap.size, 0, none⟩ rfl (.pointer (some ⟨b', 0, none⟩)) hc2 rfl hpl hbs ?_; intro v' w2 o3 b2 g2))
      have hS2 : ∀ i ∈ [g], ∃ t cs, Blk _ i t cs ∧ t ≠ 111 ∧ t ≠ 5 := fun i hi => by have e := List.mem_singleton.1 hi; subst e; exact ⟨94, _, HLd.out, by decide, by decide⟩
      have hM1 := (HM.out).step m5 hS2
      have hM2 := Made.below (w' := w1.alloc (.cells #[.pointer (some ⟨b', 0, none⟩)] 56)) hM1 ((Below.refl w1.heap.size w1).alloc (Nat.le_refl _) _) (Nat.le_refl _)
      have hM3 := Made.grown hM2 o2 g2
      have m1a : BufAt (w1.alloc (.cells #[.pointer (some ⟨b', 0, none⟩)] 56)) b' g d' (List.replicate (Z q) 0) := ⟨m1.blk.alloc _, m1.row.alloc _⟩
      have m1b : BufAt w2 b' g d' (List.replicate (Z q) 0) := ⟨Blk.grownOwn m1a.blk o2 (by decide) g2, Blk.grownOwn m1a.row o2 (by decide) g2⟩
      have m2a : LedAt (w1.alloc (.cells #[.pointer (some ⟨b', 0, none⟩)] 56)) g (LM (K1 : Int) (K1 : Int)) := Blk.alloc m2 _
      have m2b : LedAt w2 g (LM (K1 : Int) (K1 : Int)) := Blk.grownOwn m2a o2 (by decide) g2
      have hadd := Made.add hM3 hL (show w.heap.size ≤ b' by omega) (show w.heap.size ≤ d' by omega) m1b (fun j b2 d2 hj => by
        obtain ⟨cs, hbk⟩ := Made.blk HM.out hj
        have := Blk.lt hbk
        omega)
      have hbw := (Turn.belowNext HB.out m5 (by simp; omega) HB.out.size)
      have hbw2 := (hbw.alloc hbw.size (.cells #[.pointer (some ⟨b', 0, none⟩)] 56)).trans b2
      have o3' : Owns1 w2 w.heap.size 56 v' (ptrs (L ++ [(b', d')])) := by
        rw [show ptrs (L ++ [(b', d')]) = ptrs L ++ [.pointer (some ⟨b', 0, none⟩)] by simp [ptrs]]
        exact o3
      clear hM1 hM2 hM3 m1a m1b m2a hS2 o1 o2 o3 hc2 hbs
      go_roundg (n1 - (q + 1))
      case measure => omega
      case rel => exact ⟨q + 1, L ++ [(b', d')], by omega, by go_num, vint (by rw [HK1.out, HKS.out]; omega), by simp [hL], o3', hadd, by rw [HK1.out]; exact m2b, hbw2⟩
    · obtain rfl : q = n1 := by omega
      have hnl : ¬ (q : Int) < (q : Int) := by omega
      have hPle : keptN Z (fun _ => false) q ≤ 5100 := by omega
      rcases Owns1.blk HO.out with ⟨rfl, hnil⟩ | ⟨r, cap, cur, rfl, hrb, hrB, hrc, hrm, hcur⟩
      · have hq0 : q = 0 := by
          have := congrArg List.length hnil
          rw [ptrs_len] at this
          simpa [hL] using this
        subst hq0
        have hmk0 := run_make_row' (P := Try.prog) 59 4 (.bool false) 1 Try.underlying59 infoB rfl .i64 .i64 0 (by decide) (by decide)
        have hmk1 : ∀ w : World, (Instr.makeSlice 59 (.int .i64 0) (.int .i64 0)).run Try.prog w = .ok (.slice (some ⟨w.heap.size, 0, none⟩) 0 0) (w.alloc (.cells (madeCells #[.bool false] 0) 4)) := hmk0
        clear hmk0
        generalize keptN Z (fun _ => false) 0 = K0 at HLd hPle hkn ⊢
        go_wp2_with fail
        have LB : LedAt (wr.alloc (.cells (madeCells #[.bool false] 0) 4)) g (LM (K0 : Int) (K0 : Int)) := Blk.alloc HLd.out _
        have BB := HB.out.alloc HB.out.size (.cells (madeCells #[.bool false] 0) 4)
        generalize wr.alloc (.cells (madeCells #[.bool false] 0) 4) = w3 at LB BB ⊢
        clear hmk1
        go_loopg [7, 60] n2 (fun k kv iv wz => ∃ (t : Nat), t + k = n2 ∧ iv = .int .i64 (t : Int) ∧ kv = .int .i64 (K0 : Int) ∧ LedAt wz g (LM (K0 : Int) (K0 : Int)) ∧ Below w.heap.size w wz)
        case atStart => exact ⟨0, by omega, rfl, rfl, LB, BB⟩
        case round =>
          obtain ⟨t, ht, rfl, rfl, hl, hb⟩ := hrel
          have HL3 := Lib.hid hl
          have HB2 := Lib.hid hb
          clear hl hb
          by_cases htn : t < n2
          · have htI : (t : Int) < (n2 : Int) := by omega
            obtain h0 | ⟨b, off, rfl, hmax, hll, hcell⟩ := HL2.out
            · omega
            obtain ⟨hwf, hc⟩ := hcell t htn
            have hbB : b < w.heap.size := World.block_lt_of_cell? w _ hc
            have x0 := (HB2.out.cell (p := ⟨b, off + t, none⟩) hbB).trans hc
            generalize l2.getD t 0 = xx at x0
            clear hcell hc hwf hmax
            go_wp2_with (first
              | (go_at_call 14; refine (bytes_at HL3.out lm_bytes).mono ?_; rintro e w6 ⟨rfl, rfl⟩)
              | (go_at_call 28; refine (awake04_any _).mono ?_; rintro e w9 ⟨rfl, ba⟩))
            go_ret
            exact ⟨rfl, below_next HB2.out ba⟩
          · have htI : ¬ (t : Int) < (n2 : Int) := by omega
            go_wp2_with (first
              | (go_at_call 14; refine (bytes_at HL3.out lm_bytes).mono ?_; rintro e w6 ⟨rfl, rfl⟩)
              | (go_at_call 28; refine (awake04_any _).mono ?_; rintro e w9 ⟨rfl, ba⟩))
            go_ret
            exact ⟨rfl, below_next HB2.out ba⟩
      · rw [ptrs_len, hL] at hcur hrc
        have hlq : (ptrs L).length = q := by rw [ptrs_len, hL]
        have hmk := run_make_row' (P := Try.prog) 59 4 (.bool false) 1 Try.underlying59 infoB rfl .i64 .i64 q (by omega) (by omega)
        have hszw := HB.out.size
        have hrlt := Blk.lt hrB
        have HRB := Lib.hid hrB
        have HCUR := Lib.hid hcur
        clear hcur hrB
        go_wp2_with fail
        have GB : Blk (wr.alloc (.cells (madeCells #[.bool false] q) 4)) wr.heap.size 4 (goneC q (fun _ => false)) := (Blk.new _ _ _).eq_ (goneC_zero q)
        have RB : Blk (wr.alloc (.cells (madeCells #[.bool false] q) 4)) r 56 cur := HRB.out.alloc _
        have MB := Made.below (w' := wr.alloc (.cells (madeCells #[.bool false] q) 4)) HM.out ((Below.refl wr.heap.size wr).alloc (Nat.le_refl _) _) (Nat.le_refl _)
        have LB : LedAt (wr.alloc (.cells (madeCells #[.bool false] q) 4)) g (LM (keptN Z (fun _ => false) q) (keptN Z (fun _ => false) q)) := Blk.alloc HLd.out _
        have BB := HB.out.alloc HB.out.size (.cells (madeCells #[.bool false] q) 4)
        obtain ⟨gb, hgb⟩ : ∃ gb, gb = wr.heap.size := ⟨_, rfl⟩
        rw [← hgb] at GB
        have hgbB : w.heap.size ≤ gb := by omega
        generalize wr.alloc (.cells (madeCells #[.bool false] q) 4) = w3 at GB RB MB LB BB ⊢
        rw [← hgb]
        have hrg : r ≠ gb := by omega
        clear hmk hgb
        obtain ⟨P, hP⟩ : ∃ P, P = keptN Z (fun _ => false) q := ⟨_, rfl⟩
        have HP := Lib.hid hP
        go_loopg [7, 60] n2 (fun k kv iv wz => ∃ (t : Nat) (gn : Nat → Bool), t + k = n2 ∧ iv = .int .i64 (t : Int) ∧ kv = .int .i64 (keptN Z gn q : Int) ∧ Made wz g w.heap.size Z gn L ∧ Blk wz gb 4 (goneC q gn) ∧ Blk wz r 56 cur ∧ LedAt wz g (LM (keptN Z gn q) (keptN Z (fun _ => false) q)) ∧ Below w.heap.size w wz)
        case atStart => exact ⟨0, fun _ => false, by omega, rfl, rfl, MB, GB, RB, LB, BB⟩
        case round =>
          obtain ⟨t, gn, ht, rfl, rfl, hm, hgn, hr, hl, hb⟩ := hrel
          have HM2 := Lib.hid hm
          have HG2 := Lib.hid hgn
          have HR2 := Lib.hid hr
          have HL3 := Lib.hid hl
          have HB2 := Lib.hid hb
          have hkl := keptN_le Z gn q
          clear hm hgn hr hl hb
          by_cases htn : t < n2
          · have htI : (t : Int) < (n2 : Int) := by omega
            obtain h0 | ⟨b, off, rfl, hmax, hll, hcell⟩ := HL2.out
            · omega
            obtain ⟨hwf, hc⟩ := hcell t htn
            obtain ⟨z0, z1⟩ := bounds_u8 hwf
            have hbB : b < w.heap.size := World.block_lt_of_cell? w _ hc
            have x0 := (HB2.out.cell (p := ⟨b, off + t, none⟩) hbB).trans hc
            obtain ⟨X, hX⟩ : ∃ X : Nat, l2.getD t 0 = (X : Int) := ⟨(l2.getD t 0).toNat, by omega⟩
            rw [hX] at x0 z1
            have hX2 : X ≤ 255 := by omega
            clear hcell hc hwf hX z0 z1 hmax
            by_cases hqz : q = 0
            · subst hqz
              go_wp2_with (first
                | (go_at_call 14; refine (bytes_at HL3.out lm_bytes).mono ?_; rintro e w6 ⟨rfl, rfl⟩)
                | (go_at_call 28; refine (awake04_any _).mono ?_; rintro e w9 ⟨rfl, ba⟩))
              go_ret
              exact ⟨rfl, below_next HB2.out ba⟩
            · have hqI : ¬ (q : Int) = 0 := by omega
              obtain ⟨i, hidef⟩ : ∃ i, i = X % q := ⟨_, rfl⟩
              have hiq : i < q := by rw [hidef]; exact Nat.mod_lt _ (by omega)
              have hxi : (X : Int) % (q : Int) = (i : Int) := by rw [hidef]; omega
              have hiI0 : (0 : Int) ≤ (i : Int) := by omega
              have hiI : (i : Int) < (q : Int) := by omega
              obtain ⟨bd, hLi⟩ : ∃ bd, L[i]? = some bd := ⟨_, List.getElem?_eq_getElem (by omega)⟩
              obtain ⟨b2, d2⟩ := bd
              have HLi := Lib.hid hLi
              have cR : wr.cell? ⟨r, i, none⟩ = some (.pointer (some ⟨b2, 0, none⟩)) := (HR2.out.cell i).trans ((HCUR.out i hiq).trans (by simp [ptrs, hLi]))
              have cG : wr.cell? ⟨gb, i, none⟩ = some (.bool (gn i)) := (HG2.out.cell i).trans (goneC_at hiq)
              have zG := HG2.out.frozen i
              obtain h01 | ⟨ba, offa, rfl, hmaxa, hlla, hcella⟩ := HL1.out
              · omega
              obtain ⟨_, hca⟩ := hcella i hiq
              obtain ⟨hzi, hzi2⟩ := HZ.out i hiq
              rw [hzi] at hca
              have hbaB : ba < w.heap.size := World.block_lt_of_cell? w _ hca
              have xa := (HB2.out.cell (p := ⟨ba, offa + i, none⟩) hbaB).trans hca
              have XA := Lib.hid hca
              obtain ⟨hm1, hm2, hm3⟩ := HM2.out.1 i b2 d2 hLi
              obtain ⟨csb, hbk⟩ := Made.blk HM2.out hLi
              have ngb : gb ≠ b2 := Blk.ne_ HG2.out hbk (by decide)
              have ngg : gb ≠ g := Blk.ne_ HG2.out HL3.out (by decide)
              have nrb : r ≠ b2 := Blk.ne_ HR2.out hbk (by decide)
              have nrg : r ≠ g := Blk.ne_ HR2.out HL3.out (by decide)
              clear hidef hcella hca hzi hmaxa hLi hbk
              cases hgi : gn i
              · rw [hgi] at hm3 cG
                have hkg := keptN_gone Z gn i q hiq hgi
                have hgl : i < gb ∨ True := .inr trivial
                have HGV : Hid ((LM (keptN Z gn q : Int) (keptN Z (fun _ => false) q : Int)).give ((List.replicate (Z i) (0 : UInt8)).length : Int) = (LM (keptN Z (updB gn i) q : Int) (keptN Z (fun _ => false) q : Int), true)) := Lib.hid (by rw [List.length_replicate]; exact lm_giveN (keptN Z gn q) (Z i) (keptN Z (updB gn i) q) (keptN Z (fun _ => false) q) hkg)
                have HOKP := Lib.hid (lm_okP (keptN Z gn q) (keptN Z (fun _ => false) q) hkl hPle)
                have hsub : ((keptN Z gn q : Nat) : Int) - (Z i : Int) = ((keptN Z (updB gn i) q : Nat) : Int) := by omega
                have HM3 : Hid (BufAt wr.drew b2 g d2 (List.replicate (Z i) 0)) := Lib.hid ⟨hm3.blk.drew, hm3.row.drew⟩
                have HLD := Lib.hid (show LedAt wr.drew g (LM (keptN Z gn q) (keptN Z (fun _ => false) q)) from Blk.drew HL3.out)
                have HGI := Lib.hid hgi
                have hkb : keptN Z gn q ≤ 5100 := by omega
                clear hm3 hkg hgi
                generalize hK1e : keptN Z (updB gn i) q = K1 at HGV hsub
                have HK1E := Lib.hid hK1e
                clear hK1e
                generalize keptN Z gn q = K at HGV hsub HOKP HL3 HLD hkb hkl
                go_wp2_with fail
                go_region_with (go_at_call 30; refine (bufFree_first HM3.out HLD.out HOKP.out HGV.out).mono ?_; rintro e w1 ⟨rfl, f1, f2, f30⟩; have f3 : Turn [b2, g] wr w1 := ((Turn.refl _ _).drew).trans f30; have cG1 : w1.cell? ⟨gb, i, none⟩ = some (.bool false) := (f3.cell (Blk.lt HG2.out) (nt2 ngb ngg) i).trans cG; have zG1 : w1.frozen? ⟨gb, i, none⟩ = false := Blk.frozen (HG2.out.turn f3 (nt2 ngb ngg)) i; have xa1 : w1.cell? ⟨ba, offa + i, none⟩ = some (.int .u8 (Z i : Int)) := ((Turn.belowNext HB2.out f3 (by simp; omega) HB2.out.size).cell (p := ⟨ba, offa + i, none⟩) hbaB).trans XA.out)
                all_goals have ngg' : g ≠ gb := fun e => ngg e.symm
                all_goals have lz : LedAt (w1.setCell ⟨gb, i, none⟩ (.bool true)) g (LM (K1 : Int) (keptN Z (fun _ => false) q : Int)) := Blk.far f2 (p := ⟨gb, i, none⟩) ngg' _
                all_goals go_wp2_with (go_at_call 14; refine (bytes_at (x := LM (K1 : Int) (keptN Z (fun _ => false) q : Int)) (p := (K1 : Int)) (by first | exact lz | exact Blk.drew lz) rfl).mono ?_; rintro e w6 ⟨rfl, rfl⟩)
                all_goals
                  go_roundg (n2 - (t + 1))
                  case measure => omega
                  case rel =>
                    have g1 := HG2.out.turn f3 (nt2 ngb ngg)
                    have r1 := (HR2.out.turn f3 (nt2 nrb nrg)).far (p := ⟨gb, i, none⟩) hrg (.bool true)
                    have m1' := Made.free HM2.out HLi.out HL3.out f3 f1
                    have m2' := Made.store m1' g1 i (.bool true) (by decide) (by decide)
                    have bz := below_set (i := i) (u := .bool true) (Turn.belowNext HB2.out f3 (by simp; omega) HB2.out.size) hgbB
                    exact ⟨t + 1, updB gn i, by omega, by go_num, by rw [HK1E.out], m2', (g1.set_ i (.bool true)).eq_ (goneC_upd hiq), r1, by rw [HK1E.out]; exact lz, bz⟩
              · rw [hgi] at hm3 cG
                have HM3 : Hid (BufOff wr.drew b2 g) := Lib.hid (Blk.drew hm3)
                have HGI := Lib.hid hgi
                have hkb : keptN Z gn q ≤ 5100 := by omega
                clear hm3 hgi
                generalize hKe : keptN Z gn q = K at HL3 hkb hkl
                have HKE := Lib.hid hKe
                clear hKe
                go_wp2_with fail
                go_region_with (go_at_call 30; refine (bufFree_done HM3.out).mono ?_; rintro e w1 ⟨rfl, f1⟩; have bw : Below wr.heap.size wr w1 := ⟨f1.os, f1.tape, f1.output, f1.size, f1.block⟩; have cG1 : w1.cell? ⟨gb, i, none⟩ = some (.bool true) := (bw.cell (p := ⟨gb, i, none⟩) (Blk.lt HG2.out)).trans cG; have zG1 : w1.frozen? ⟨gb, i, none⟩ = false := Blk.frozen (Blk.below HG2.out bw (Blk.lt HG2.out)) i)
                all_goals have ngg' : g ≠ gb := fun e => ngg e.symm
                all_goals have lz : LedAt (w1.setCell ⟨gb, i, none⟩ (.bool true)) g (LM (K : Int) (keptN Z (fun _ => false) q : Int)) := Blk.far (Blk.below HL3.out bw (Blk.lt HL3.out)) (p := ⟨gb, i, none⟩) ngg' _
                all_goals go_wp2_with (go_at_call 14; refine (bytes_at (x := LM (K : Int) (keptN Z (fun _ => false) q : Int)) (p := (K : Int)) (by first | exact lz | exact Blk.drew lz) rfl).mono ?_; rintro e w6 ⟨rfl, rfl⟩)
                all_goals
                  go_roundg (n2 - (t + 1))
                  case measure => omega
                  case rel =>
                    have g1 := Blk.below HG2.out bw (Blk.lt HG2.out)
                    have r1 := (Blk.below HR2.out bw (Blk.lt HR2.out)).far (p := ⟨gb, i, none⟩) hrg (.bool true)
                    have m1' := Made.below HM2.out bw (Nat.le_refl _)
                    have m2' := Made.store m1' g1 i (.bool true) (by decide) (by decide)
                    have bz := below_set (i := i) (u := .bool true) (below_next HB2.out bw) hgbB
                    have gg := (g1.set_ i (.bool true)).eq_ (goneC_upd hiq)
                    rw [updB_same gn i HGI.out] at gg
                    exact ⟨t + 1, gn, by omega, by go_num, by rw [HKE.out], m2', gg, r1, by rw [HKE.out]; exact lz, bz⟩
          · have htI : ¬ (t : Int) < (n2 : Int) := by omega
            go_wp2_with (first
              | (go_at_call 14; refine (bytes_at HL3.out lm_bytes).mono ?_; rintro e w6 ⟨rfl, rfl⟩)
              | (go_at_call 28; refine (awake04_any _).mono ?_; rintro e w9 ⟨rfl, ba⟩))
            go_ret
            exact ⟨rfl, below_next HB2.out ba⟩
theorem bufMany_said (w : World) (A1 : Option Addr) (n1 cap1 : Nat) (l1 : List Int) (hl1 : SliceInts .u8 w A1 n1 l1) (A2 : Option Addr) (n2 cap2 : Nat) (l2 : List Int) (hl2 : SliceInts .u8 w A2 n2 l2) :
    Calls Try.prog 6 #[.slice A1 n1 cap1, .slice A2 n2 cap2] w fun e w' => e = .returned (.bool true) ∧ Below w.heap.size w w' := by
  by_cases h1 : n1 ≤ 20
  · by_cases h2 : n2 ≤ 40
    · exact bufMany_walk w A1 n1 cap1 l1 h1 hl1 A2 n2 cap2 l2 h2 hl2
    · have i1 : ¬ (20 : Int) < (n1 : Int) := by omega
      have i2 : (40 : Int) < (n2 : Int) := by omega
      clear hl1 hl2
      go_enter Try.func6, Try.ntmps6
      go_wp2_with (go_at_call 28; refine (awake04_any _).mono ?_; rintro e w9 ⟨rfl, ba⟩)
      go_ret
      exact ⟨rfl, ba⟩
  · have i1 : (20 : Int) < (n1 : Int) := by omega
    clear hl1 hl2
    go_enter Try.func6, Try.ntmps6
    go_wp2_with (go_at_call 28; refine (awake04_any _).mono ?_; rintro e w9 ⟨rfl, ba⟩)
    go_ret
    exact ⟨rfl, ba⟩
end Go.Proofs.Ytncdchaecbndlaa
