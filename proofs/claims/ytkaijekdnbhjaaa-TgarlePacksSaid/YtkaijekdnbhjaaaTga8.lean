/- The law TgarlePackets. -/
import Derived.Test.YtkaijekdnbhjaaaTga5
import Derived.Test.YtkaijekdnbhjaaaTga6
import Derived.Test.YtkaijekdnbhjaaaTga7
import Derived.ShutString
import Derived.Test.YtkaijekdnbhjaaaOpen
namespace Go.Proofs.Ytkaijekdnbhjaaa
open Go.RowKit
set_option linter.unusedVariables false
set_option linter.unusedSimpArgs false

theorem BL_inj {L M : List ByteArray} (h : BL L = BL M) : L = M := by
  refine List.ext_getElem? fun i => ?_
  have hi : (BL L)[i]? = (BL M)[i]? := by rw [h]
  simp only [BL, List.getElem?_map] at hi
  cases hl : L[i]? <;> cases hm : M[i]? <;> simp_all
  exact toList_inj (by rw [hi])
theorem packets_is_bad {w : World} {s : ByteArray} {size n k : Nat} (h1 : 1 ≤ size) (h2 : size ≤ 4) (hn : n ≤ 2000) (hs : s.size ≤ 10000000) (h : unpackL size s.data.toList n = .bad k) :
    Calls Try.prog 22 #[.string s, .int .i64 (size : Int), .int .i64 (n : Int)] w fun e w' => e = .returned (.tuple #[.slice none 0 0, .int .i64 0, .int .i64 (k : Int)]) ∧ Below w.heap.size w w' := by
  have := packets_any (w := w) h1 h2 hn hs
  rw [h] at this
  exact this
theorem refPackets_is_bad {w : World} {s : ByteArray} {size n k : Nat} (h1 : 1 ≤ size) (h2 : size ≤ 4) (hn : n ≤ 2000) (hs : s.size ≤ 10000000) (h : unpackL size s.data.toList n = .bad k) :
    Calls Try.prog 23 #[.string s, .int .i64 (size : Int), .int .i64 (n : Int)] w fun e w' => e = .returned (.tuple #[.slice none 0 0, .int .i64 0, .int .i64 (k : Int)]) ∧ Below w.heap.size w w' := by
  have := refPackets_any (w := w) h1 h2 hn hs
  rw [h] at this
  exact this
theorem packets_is_ok {w : World} {s : ByteArray} {size n c : Nat} {l : List Bytes} (h1 : 1 ≤ size) (h2 : size ≤ 4) (hn : n ≤ 2000) (hs : s.size ≤ 10000000) (h : unpackL size s.data.toList n = .ok l c) :
    Calls Try.prog 22 #[.string s, .int .i64 (size : Int), .int .i64 (n : Int)] w fun e w' => ∃ (L : List ByteArray) (a : Option Addr) (q : Nat), e = .returned (.tuple #[.slice a L.length q, .int .i64 (c : Int), .int .i64 0]) ∧ RowT w' a L.length L ∧ BL L = l ∧ Below w.heap.size w w' := by
  refine (packets_any (w := w) h1 h2 hn hs).mono ?_
  rintro e w' ⟨hp, hb⟩
  rw [h] at hp
  obtain ⟨v, L, rfl, hown, hl⟩ := hp
  obtain ⟨a, q, rfl, ht⟩ := hown.texts
  exact ⟨L, a, q, rfl, ht, hl, hb⟩
theorem refPackets_is_ok {w : World} {s : ByteArray} {size n c : Nat} {l : List Bytes} (h1 : 1 ≤ size) (h2 : size ≤ 4) (hn : n ≤ 2000) (hs : s.size ≤ 10000000) (h : unpackL size s.data.toList n = .ok l c) :
    Calls Try.prog 23 #[.string s, .int .i64 (size : Int), .int .i64 (n : Int)] w fun e w' => ∃ (L : List ByteArray) (a : Option Addr) (q : Nat), e = .returned (.tuple #[.slice a L.length q, .int .i64 (c : Int), .int .i64 0]) ∧ RowT w' a L.length L ∧ BL L = l ∧ Below w.heap.size w w' := by
  refine (refPackets_any (w := w) h1 h2 hn hs).mono ?_
  rintro e w' ⟨hp, hb⟩
  rw [h] at hp
  obtain ⟨v, L, rfl, hown, hl⟩ := hp
  obtain ⟨a, q, rfl, ht⟩ := hown.texts
  exact ⟨L, a, q, rfl, ht, hl, hb⟩
theorem unpack_len (size f : Nat) (s : Bytes) (need : Nat) (l : List Bytes) (c : Nat) (hf : need ≤ f) (h : unpack size f s need = .ok l c) : l.length = need := by
  induction f generalizing s need l c with
  | zero =>
    obtain rfl : need = 0 := by omega
    simp [unpack] at h
    rw [h.1]; rfl
  | succ f ih =>
    simp only [unpack] at h
    by_cases hn : need = 0
    · rw [if_pos hn] at h
      simp at h
      rw [h.1, hn]; rfl
    · rw [if_neg hn] at h
      cases s with
      | nil => simp at h
      | cons b s =>
        simp only at h
        by_cases h1 : need < cnt b
        · rw [if_pos h1] at h; simp at h
        · rw [if_neg h1] at h
          by_cases h2 : s.length < thr b * size
          · rw [if_pos h2] at h; simp at h
          · rw [if_neg h2] at h
            have hc : 1 ≤ cnt b := by unfold cnt; omega
            cases hu : unpack size f (s.drop (thr b * size)) (need - cnt b) with
            | bad e => rw [hu] at h; simp [PRes.push] at h
            | ok l' c' =>
              rw [hu] at h
              simp only [PRes.push, PRes.ok.injEq] at h
              have := ih _ _ _ _ (by omega) hu
              rw [← h.1, List.length_append, this]
              simp [pixelsOf]
              omega
set_option maxRecDepth 100000 in
set_option maxHeartbeats 2000000 in
theorem tgarlePackets_said (w : World) (s : ByteArray) (hs : s.size ≤ maxLen) (size : Int) (hz : (Lit.int .i64 size).wf = true) (n : Int) (hn : (Lit.int .i64 n).wf = true) :
    Calls Try.prog 4 #[.string s, .int .i64 size, .int .i64 n] w fun e w' => e = .returned (.bool true) ∧ Below w.heap.size w w' := by
  obtain ⟨z0, z1⟩ := bounds_i64 hz
  obtain ⟨n0, n1⟩ := bounds_i64 hn
  clear hz hn
  by_cases h1 : 300 < s.size
  · have i1 : (300 : Int) < (s.size : Int) := by omega
    go_enter Try.func4, Try.ntmps4
    go_wp2_with (go_at_call 21; refine (awake18_any _).mono ?_; rintro e w6 ⟨rfl, hb6⟩)
    go_ret
    exact ⟨rfl, hb6⟩
  by_cases h2 : 2000 < n
  · have i1 : ¬ (300 : Int) < (s.size : Int) := by omega
    go_enter Try.func4, Try.ntmps4
    go_wp2_with (go_at_call 21; refine (awake18_any _).mono ?_; rintro e w6 ⟨rfl, hb6⟩)
    go_ret
    exact ⟨rfl, hb6⟩
  have i1 : ¬ (300 : Int) < (s.size : Int) := by omega
  by_cases hbad : size < 1 ∨ 4 < size ∨ n < 0
  · have HB := Lib.hid (fun w => packets_bad s w hbad)
    by_cases b1 : size < 1
    · go_enter Try.func4, Try.ntmps4
      go_wp2_with (first
        | (go_at_call 22; refine (HB.out _).mono ?_; rintro e w9 ⟨rfl, rfl⟩)
        | (go_at_call 21; refine (awake18_any _).mono ?_; rintro e w6 ⟨rfl, hb6⟩))
      go_ret
      exact ⟨rfl, hb6⟩
    by_cases b2 : 4 < size
    · go_enter Try.func4, Try.ntmps4
      go_wp2_with (first
        | (go_at_call 22; refine (HB.out _).mono ?_; rintro e w9 ⟨rfl, rfl⟩)
        | (go_at_call 21; refine (awake18_any _).mono ?_; rintro e w6 ⟨rfl, hb6⟩))
      go_ret
      exact ⟨rfl, hb6⟩
    have b3 : n < 0 := by omega
    clear hbad
    go_enter Try.func4, Try.ntmps4
    go_wp2_with (first
      | (go_at_call 22; refine (HB.out _).mono ?_; rintro e w9 ⟨rfl, rfl⟩)
      | (go_at_call 21; refine (awake18_any _).mono ?_; rintro e w6 ⟨rfl, hb6⟩))
    go_ret
    exact ⟨rfl, hb6⟩
  obtain ⟨Z, rfl⟩ := Int.eq_ofNat_of_zero_le (show 0 ≤ size by omega)
  obtain ⟨N, rfl⟩ := Int.eq_ofNat_of_zero_le (show 0 ≤ n by omega)
  have b1 : ¬ (Z : Int) < 1 := by omega
  have b2 : ¬ (4 : Int) < (Z : Int) := by omega
  have b3 : ¬ (N : Int) < 0 := by omega
  have g1 : 1 ≤ Z := by omega
  have g2 : Z ≤ 4 := by omega
  have g3 : N ≤ 2000 := by omega
  have g4 : s.size ≤ 10000000 := by omega
  cases hR : unpackL Z s.data.toList N with
  | bad k =>
    have HP := Lib.hid (fun w => packets_is_bad (w := w) g1 g2 g3 g4 hR)
    have HQ := Lib.hid (fun w => refPackets_is_bad (w := w) g1 g2 g3 g4 hR)
    have HS := Lib.hid (fun w => sameRow_any (w := w) (a := none) (a' := none) (n := 0) (n' := 0) (c := 0) (c' := 0) (l := []) (m := []) ⟨rfl, .inl rfl⟩ ⟨rfl, .inl rfl⟩ (by omega) (by omega))
    rw [show decide (([] : List ByteArray) = []) = true from rfl] at HS
    clear hR hbad
    go_enter Try.func4, Try.ntmps4
    go_wp2_with (first
      | (go_at_call 22; refine (HP.out _).mono ?_; rintro e w1 ⟨rfl, b1'⟩)
      | (go_at_call 23; refine (HQ.out _).mono ?_; rintro e w2 ⟨rfl, b2'⟩)
      | (go_at_call 24; refine (HS.out _).mono ?_; rintro e w3 ⟨rfl, b3'⟩)
      | (go_at_call 21; refine (awake18_any _).mono ?_; rintro e w6 ⟨rfl, hb6⟩))
    go_ret
    exact ⟨rfl, below_next (below_next (below_next b1' b2') b3') hb6⟩
  | ok l c =>
    have HP := Lib.hid (fun w => packets_is_ok (w := w) g1 g2 g3 g4 hR)
    have HQ := Lib.hid (fun w => refPackets_is_ok (w := w) g1 g2 g3 g4 hR)
    have hlen : l.length = N := unpack_len Z N _ N l c (Nat.le_refl _) hR
    have HLN := Lib.hid hlen
    clear hR hbad hlen
    go_enter Try.func4, Try.ntmps4
    go_wp2_with (first
      | (go_at_call 22; refine (HP.out _).mono ?_; rintro e w1 ⟨L, a1, q1, rfl, t1, l1, b1'⟩; have T1 := Lib.hid t1; have L1 := Lib.hid l1; clear t1 l1)
      | (go_at_call 23; refine (HQ.out _).mono ?_; rintro e w2 ⟨M, a2, q2, rfl, t2, l2, b2'⟩; have hLM : M = L := BL_inj (l2.trans L1.out.symm); subst hLM; have HS := Lib.hid (sameRow_any (c := q1) (c' := q2) (T1.out.below b2') t2 (by rw [← BL_len, L1.out, HLN.out]; omega) (by rw [← BL_len, L1.out, HLN.out]; omega)); rw [show decide (M = M) = true from decide_eq_true rfl] at HS; clear t2 l2)
      | (go_at_call 24; refine HS.out.mono ?_; rintro e w3 ⟨rfl, b3'⟩)
      | (go_at_call 21; refine (awake18_any _).mono ?_; rintro e w6 ⟨rfl, hb6⟩))
    go_ret
    exact ⟨rfl, below_next (below_next (below_next b1' b2') b3') hb6⟩
end Go.Proofs.Ytkaijekdnbhjaaa
