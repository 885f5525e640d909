/- The law TgarlePacks. -/
import Derived.Test.YtkaijekdnbhjaaaTga3
import Derived.Test.YtkaijekdnbhjaaaTga8
import Derived.Test.YtkaijekdnbhjaaaOpenStrs
namespace Go.Proofs.Ytkaijekdnbhjaaa
open Go.RowKit
set_option linter.unusedVariables false
set_option linter.unusedSimpArgs false

theorem RowIn.t {w : World} {a : Option Addr} {n c : Nat} {l : List ByteArray} (h : RowIn w a n c l) : RowT w a n l := ⟨h.1, h.2.2⟩
theorem RowIn.below {w w' : World} {a : Option Addr} {n c : Nat} {l : List ByteArray} (h : RowIn w a n c l) (hb : Below w.heap.size w w') : RowIn w' a n c l := ⟨h.1, h.2.1, (h.t.below hb).2⟩
/-- are the first j texts of one size? -/
def OneSize (l : List ByteArray) (j : Nat) : Prop := ∀ i, i < j → (l[i]?.map ByteArray.size) = (l[0]?.map ByteArray.size)
instance (l : List ByteArray) (j : Nat) : Decidable (OneSize l j) := by unfold OneSize; infer_instance
theorem oneSize_succ {l : List ByteArray} {j : Nat} {s t : ByteArray} (hj : l[j]? = some s) (h0 : l[0]? = some t) : decide (OneSize l (j + 1)) = (decide (OneSize l j) && decide (s.size = t.size)) := by
  rw [← Bool.decide_and]
  refine decide_eq_decide.2 ⟨fun h => ⟨fun i hi => h i (by omega), by have := h j (by omega); rw [hj, h0] at this; simpa using this⟩, fun ⟨h1, h2⟩ i hi => ?_⟩
  rcases Nat.lt_succ_iff_lt_or_eq.1 hi with h | rfl
  · exact h1 i h
  · rw [hj, h0]; simp [h2]
theorem snoc_size {P : ByteArray} (h : P.size ≤ 2100000) : (P ++ ⟨#[120]⟩).size ≤ 10000000 := by
  rw [ByteArray.size_append]
  have : (⟨#[120]⟩ : ByteArray).size = 1 := rfl
  omega
set_option maxRecDepth 100000 in
set_option maxHeartbeats 2000000 in
theorem tgarlePacks_said (w : World) (a : Option Addr) (n c : Nat) (l : List ByteArray) (h : RowIn w a n c l) :
    Calls Try.prog 5 #[.slice a n c] w fun e w' => e = .returned (.bool true) ∧ Below w.heap.size w w' := by
  by_cases h1 : 300 < n
  · have i1 : (300 : Int) < (n : Int) := by omega
    clear h
    go_enter Try.func5, Try.ntmps5
    go_wp2_with (go_at_call 21; refine (awake18_any _).mono ?_; rintro e w6 ⟨rfl, hb6⟩)
    go_ret
    exact ⟨rfl, hb6⟩
  have i1 : ¬ (300 : Int) < (n : Int) := by omega
  have hn : n ≤ 300 := by omega
  have H := Lib.hid h
  have HL := Lib.hid h.1
  have HS := Lib.hid h.2.2
  clear h h1
  go_enter Try.func5, Try.ntmps5
  go_wp2_with fail
  go_loopg [3, 5, 16] n (fun g x s5 i wr => ∃ j : Nat, i = .int .i64 (j : Int) ∧ x = .bool (decide (OneSize l j)) ∧ Hid (n = j + g) ∧ j ≤ n ∧ Hid (∀ i s, i < j → l[i]? = some s → s.size ≤ 20) ∧ wr = w)
  case atStart => exact ⟨0, rfl, by rw [decide_eq_true (show OneSize l 0 from fun i hi => by omega)], Lib.hid (by omega), by omega, Lib.hid (fun i s hi => by omega), rfl⟩
  case round =>
    obtain ⟨j, rfl, rfl, hg, hjn, hsm, hwr⟩ := hrel
    subst hwr
    by_cases hj : j < n
    · have j0 : (j : Int) < (n : Int) := by omega
      obtain ⟨b, off, rfl, ht⟩ := HS.out.resolve_left (by omega)
      obtain ⟨x, hx, cx⟩ := ht.at_ (j := j) (by rw [← HL.out]; exact hj)
      obtain ⟨s0, hs0, c0⟩ := ht.at_ (j := 0) (by rw [← HL.out]; omega)
      rw [Nat.add_zero] at c0
      have HX := Lib.hid hx
      have HX0 := Lib.hid hs0
      have n0 : (0 : Int) < (n : Int) := by omega
      have n0' : 0 < n := by omega
      clear ht hx hs0
      by_cases hbig : 20 < x.size
      · have x0 : (20 : Int) < (x.size : Int) := by omega
        go_wp2_with (go_at_call 21; refine (awake18_any _).mono ?_; rintro e w6 ⟨rfl, hb6⟩)
        go_ret
        exact ⟨rfl, hb6⟩
      · have x0 : ¬ (20 : Int) < (x.size : Int) := by omega
        obtain ⟨q, hq⟩ : ∃ q, q = decide (OneSize l j) := ⟨_, rfl⟩
        have HQ := Lib.hid (oneSize_succ HX.out HX0.out)
        rw [← hq] at HQ ⊢
        clear hq
        cases q
        · go_wp2_with fail
          go_roundg (n - (j + 1))
          case measure => have := hg.out; omega
          case rel => exact ⟨j + 1, by go_num, by rw [HQ.out]; rfl, Lib.hid (by have := hg.out; omega), by omega, Lib.hid (fun i s hi hs => by
              rcases Nat.lt_succ_iff_lt_or_eq.1 hi with h | rfl
              · exact hsm.out i s h hs
              · rw [HX.out] at hs; obtain rfl := Option.some.inj hs; omega), rfl⟩
        · go_wp2_with fail
          go_roundg (n - (j + 1))
          case measure => have := hg.out; omega
          case rel => exact ⟨j + 1, by go_num, by rw [HQ.out]; first | rfl | (simp; done) | (simp; rw [Bool.eq_iff_iff]; simp; omega), Lib.hid (by have := hg.out; omega), by omega, Lib.hid (fun i s hi hs => by
              rcases Nat.lt_succ_iff_lt_or_eq.1 hi with h | rfl
              · exact hsm.out i s h hs
              · rw [HX.out] at hs; obtain rfl := Option.some.inj hs; omega), rfl⟩
    · obtain rfl : j = n := by omega
      have hsz : ∀ s ∈ l, s.size ≤ 20 := fun s hs => by
        obtain ⟨i, hi⟩ := List.mem_iff_getElem?.1 hs
        have hil : i < l.length := by
          rw [List.getElem?_eq_some_iff] at hi
          exact hi.1
        exact hsm.out i s (by rw [HL.out]; exact hil) hi
      have HSZ := Lib.hid hsz
      have HP := Lib.hid (pack_any H.out (by omega) hsz)
      clear hsz hg hsm
      by_cases hz0 : j = 0
      · subst hz0
        go_wp2_with (first
          | (go_at_call 25; refine HP.out.mono ?_; rintro e w1 ⟨rfl, hpl, b1⟩; have HQ := Lib.hid (refPack_any (H.out.below b1) (by omega) HSZ.out))
          | (go_at_call 26; refine HQ.out.mono ?_; rintro e w2 ⟨rfl, b2⟩)
          | (go_at_call 21; refine (awake18_any _).mono ?_; rintro e w6 ⟨rfl, hb6⟩))
        go_ret
        exact ⟨rfl, below_next (below_next b1 b2) hb6⟩
      obtain ⟨b, off, rfl, ht⟩ := HS.out.resolve_left hz0
      obtain ⟨s0, hs0, c0⟩ := ht.at_ (j := 0) (by rw [← HL.out]; omega)
      rw [Nat.add_zero] at c0
      have hbw := World.block_lt_of_cell? _ _ c0
      have HX0 := Lib.hid hs0
      have n0 : (0 : Int) < (j : Int) := by omega
      have n0' : 0 < j := by omega
      have n1 : ¬ (j : Int) = 0 := by omega
      have n2 : ((j : Int) == 0) = false := beq_eq_false_iff_ne.2 n1
      have hs20 : s0.size ≤ 20 := HSZ.out s0 (List.mem_of_getElem? hs0)
      clear ht hs0
      by_cases hone : OneSize l j
      · rw [decide_eq_true hone]
        by_cases z1 : s0.size < 1
        · have z1' : (s0.size : Int) < 1 := by omega
          clear hone
          go_wp2_with (first
            | (go_at_call 25; refine HP.out.mono ?_; rintro e w1 ⟨rfl, hpl, b1⟩; have HQ := Lib.hid (refPack_any (H.out.below b1) (by omega) HSZ.out))
            | (go_at_call 26; refine HQ.out.mono ?_; rintro e w2 ⟨rfl, b2⟩; have cc := ((below_next b1 b2).cell (p := ⟨b, off, none⟩) hbw).trans c0)
            | (go_at_call 21; refine (awake18_any _).mono ?_; rintro e w6 ⟨rfl, hb6⟩))
          go_ret
          exact ⟨rfl, below_next (below_next b1 b2) hb6⟩
        by_cases z2 : 4 < s0.size
        · have z1' : ¬ (s0.size : Int) < 1 := by omega
          have z2' : (4 : Int) < (s0.size : Int) := by omega
          clear hone
          go_wp2_with (first
            | (go_at_call 25; refine HP.out.mono ?_; rintro e w1 ⟨rfl, hpl, b1⟩; have HQ := Lib.hid (refPack_any (H.out.below b1) (by omega) HSZ.out))
            | (go_at_call 26; refine HQ.out.mono ?_; rintro e w2 ⟨rfl, b2⟩; have cc := ((below_next b1 b2).cell (p := ⟨b, off, none⟩) hbw).trans c0)
            | (go_at_call 21; refine (awake18_any _).mono ?_; rintro e w6 ⟨rfl, hb6⟩))
          go_ret
          exact ⟨rfl, below_next (below_next b1 b2) hb6⟩
        have z1' : ¬ (s0.size : Int) < 1 := by omega
        have z2' : ¬ (4 : Int) < (s0.size : Int) := by omega
        have hBL : ∀ x ∈ BL l, x.length = s0.size := fun x hx => by
          obtain ⟨i, hi⟩ := List.mem_iff_getElem?.1 hx
          simp only [BL, List.getElem?_map, Option.map_eq_some_iff] at hi
          obtain ⟨y, hy, rfl⟩ := hi
          have hil : i < l.length := by
            rw [List.getElem?_eq_some_iff] at hy
            exact hy.1
          have := hone i (by rw [HL.out]; exact hil)
          rw [hy, HX0.out] at this
          rw [list_len]
          simpa using this
        have HU := Lib.hid (unpack_pack s0.size (by omega) (BL l).length (BL l) rfl hBL [120])
        obtain ⟨P, hP⟩ : ∃ P, P = strOf (packL (BL l)) := ⟨_, rfl⟩
        have HPS : Hid (P.size = (packL (BL l)).length) := Lib.hid (by rw [hP, strOf_size])
        have HPL : Hid ((P ++ ⟨#[120]⟩).data.toList = packL (BL l) ++ [120]) := Lib.hid (by rw [hP]; simp [strOf, ByteArray.data_append])
        have HU2 : Hid (unpackL s0.size (P ++ ⟨#[120]⟩).data.toList j = .ok (BL l) P.size) := Lib.hid (by rw [HPL.out, HPS.out, ← HU.out, BL_len, HL.out])
        rw [← hP] at HP
        have HPE := Lib.hid hP
        have Z1 := Lib.hid z1
        have Z2 := Lib.hid z2
        clear hBL hone hP HU HPL z1 z2
        go_wp2_with (first
          | (go_at_call 25; (refine HP.out.mono ?_; rintro e w1 ⟨rfl, hpl, b1⟩; have HQ0 := refPack_any (H.out.below b1) (by omega) HSZ.out; rw [← HPE.out] at HQ0; have HQ := Lib.hid HQ0; clear HQ0; have hpz : P.size ≤ 2100000 := Nat.le_trans (Nat.le_of_eq HPS.out) hpl; have HPK := Lib.hid (fun w => packets_is_ok (w := w) (s := P ++ ⟨#[120]⟩) (n := j) (show 1 ≤ s0.size from (by have := Z1.out; omega)) (by have := Z2.out; omega) (by omega) (snoc_size hpz) HU2.out); clear hpl))
          | (go_at_call 26; refine HQ.out.mono ?_; rintro e w2 ⟨rfl, b2⟩; have cc := ((below_next b1 b2).cell (p := ⟨b, off, none⟩) hbw).trans c0)
          | (go_at_call 22; refine (HPK.out _).mono ?_; rintro e w3 ⟨L, a3, q3, rfl, t3, l3, b3⟩; have hLl : L = l := BL_inj l3; subst hLl; have HSM := Lib.hid (sameRow_any (c := q3) (c' := c) t3 (H.out.t.below (below_next (below_next b1 b2) b3)) (by (rw [← HL.out]; omega)) (by omega)); rw [show decide (L = L) = true from decide_eq_true rfl] at HSM; clear t3 l3)
          | (go_at_call 24; refine HSM.out.mono ?_; rintro e w4 ⟨rfl, b4⟩)
          | (go_at_call 21; refine (awake18_any _).mono ?_; rintro e w6 ⟨rfl, hb6⟩))
        go_ret
        exact ⟨rfl, below_next (below_next (below_next (below_next b1 b2) b3) b4) hb6⟩
      · rw [decide_eq_false hone]
        clear hone
        go_wp2_with (first
          | (go_at_call 25; refine HP.out.mono ?_; rintro e w1 ⟨rfl, hpl, b1⟩; have HQ := Lib.hid (refPack_any (H.out.below b1) (by omega) HSZ.out))
          | (go_at_call 26; refine HQ.out.mono ?_; rintro e w2 ⟨rfl, b2⟩; have cc := ((below_next b1 b2).cell (p := ⟨b, off, none⟩) hbw).trans c0)
          | (go_at_call 21; refine (awake18_any _).mono ?_; rintro e w6 ⟨rfl, hb6⟩))
        go_ret
        exact ⟨rfl, below_next (below_next b1 b2) hb6⟩
end Go.Proofs.Ytkaijekdnbhjaaa
