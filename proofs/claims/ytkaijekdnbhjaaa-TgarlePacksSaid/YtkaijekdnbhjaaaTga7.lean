/- Are two rows of texts one? The chapter's example. -/
import Derived.Test.YtkaijekdnbhjaaaTga2
import Derived.Test.YtkaijekdnbhjaaaTga4
import Derived.Test.YtkaijekdnbhjaaaLedWalk
namespace Go.Proofs.Ytkaijekdnbhjaaa
open Go.RowKit
set_option linter.unusedVariables false
set_option linter.unusedSimpArgs false

def RowT (w : World) (a : Option Addr) (n : Nat) (l : List ByteArray) : Prop := n = l.length ∧ (n = 0 ∨ ∃ b off, a = some ⟨b, off, none⟩ ∧ Texts w b off l)
theorem Texts.below {w w' : World} {b off : Nat} {l : List ByteArray} (h : Texts w b off l) (hb : Below w.heap.size w w') : Texts w' b off l := fun j hj =>
  (hb.cell (p := ⟨b, off + j, none⟩) (World.block_lt_of_cell? w _ (h j hj))).trans (h j hj)
theorem RowT.below {w w' : World} {a : Option Addr} {n : Nat} {l : List ByteArray} (h : RowT w a n l) (hb : Below w.heap.size w w') : RowT w' a n l := by
  obtain ⟨h1, h0 | ⟨b, off, rfl, ht⟩⟩ := h
  · exact ⟨h1, .inl h0⟩
  · exact ⟨h1, .inr ⟨b, off, rfl, ht.below hb⟩⟩
theorem Owns1.texts {w : World} {base : Nat} {e : TypeId} {v : Value} {L : List ByteArray} (h : Owns1 w base e v (strs L)) : ∃ a c, v = .slice a L.length c ∧ RowT w a L.length L := by
  rcases h.form with ⟨rfl, h0⟩ | ⟨g, cap, rfl, _, _, _, _, hc⟩
  · have : L = [] := by cases L <;> simp_all [strs]
    subst this
    exact ⟨none, 0, rfl, rfl, .inl rfl⟩
  · refine ⟨_, _, by rw [strs_len], rfl, .inr ⟨g, 0, rfl, fun j hj => ?_⟩⟩
    rw [Nat.zero_add, hc j (by rw [strs_len]; exact hj)]
    simp [strs, List.getElem?_eq_getElem hj]

set_option maxHeartbeats 1000000 in
set_option maxRecDepth 100000 in
theorem sameRow_any {w : World} {a a' : Option Addr} {n n' c c' : Nat} {l m : List ByteArray} (hA : RowT w a n l) (hB : RowT w a' n' m) (hn : n ≤ 1048576) (hn' : n' ≤ 1048576) :
    Calls Try.prog 24 #[.slice a n c, .slice a' n' c'] w fun e w' => e = .returned (.bool (decide (l = m))) ∧ Below w.heap.size w w' := by
  by_cases hlen : n = n'
  · have HL := Lib.hid (And.intro hA.1 (show n = m.length by rw [hlen]; exact hB.1))
    obtain ⟨R, hR⟩ : ∃ R, R = decide (l = m) := ⟨_, rfl⟩
    rw [← hR]
    have HR := Lib.hid hR
    have HA := Lib.hid hA.2
    have HB : Hid (n = 0 ∨ ∃ b off, a' = some ⟨b, off, none⟩ ∧ Texts w b off m) := Lib.hid (by rw [hlen]; exact hB.2)
    subst hlen
    clear hA hB hR
    go_enter Try.func24, Try.ntmps24
    go_wp2_with fail
    go_loopg [5] n (fun g x w2 => ∃ j k : Nat, Hid (n = j + g) ∧ j ≤ n ∧ x = .int .i64 (j : Int) ∧ Hid (∀ i, i < j → l[i]? = m[i]?) ∧ w2 = w.drewN k)
    case atStart => exact ⟨0, 0, Lib.hid (by omega), by omega, rfl, Lib.hid (fun i hi => by omega), rfl⟩
    case round =>
      obtain ⟨j, k, hg, hj, rfl, hsame, rfl⟩ := hrel
      by_cases hlt : j < n
      · obtain ⟨b, off, rfl, ht⟩ := HA.out.resolve_left (by omega)
        obtain ⟨b', off', rfl, ht'⟩ := HB.out.resolve_left (by omega)
        obtain ⟨x, hx, cx⟩ := ht.at_ (j := j) (by rw [← HL.out.1]; exact hlt)
        obtain ⟨y, hy, cy⟩ := ht'.at_ (j := j) (by rw [← HL.out.2]; exact hlt)
        have HX := Lib.hid hx
        have HY := Lib.hid hy
        have hlt' : (j : Int) < (n : Int) := by omega
        have hd := texts_get x y
        have HD := Lib.hid hd
        clear ht ht' hx hy hd
        cases hcc : (x.toList == y.toList)
        · have hcc' : (x.toList != y.toList) = true := by unfold bne; rw [hcc]; rfl
          go_wp2_with fail
          go_quiet (fail)
          go_wp2_with fail
          go_ret
          refine ⟨ret1 (vbool ?_), below_drewN (below_drewN (Below.refl _ _) _) _⟩
          rw [HR.out, eq_comm, decide_eq_false]
          rintro rfl
          have := HD.out
          rw [hcc, ← HX.out, ← HY.out] at this
          simp at this
        · have hcc' : (x.toList != y.toList) = false := by unfold bne; rw [hcc]; rfl
          go_wp2_with fail
          go_quiet (fail)
          go_wp2_with fail
          go_roundg (n - (j + 1))
          case measure => have := hg.out; omega
          case rel => exact ⟨j + 1, _, Lib.hid (by have := hg.out; omega), by omega, by go_num, Lib.hid (fun i hi => by
              rcases Nat.lt_succ_iff_lt_or_eq.1 hi with h | rfl
              · exact hsame.out i h
              · have := HD.out
                rw [hcc] at this
                rw [HX.out, HY.out]
                exact of_decide_eq_true this.symm), by first | rfl | exact World.drewN_drewN _ _ _⟩
      · obtain rfl : j = n := by omega
        go_wp2_with fail
        go_ret
        refine ⟨ret1 (vbool ?_), below_drewN (Below.refl _ _) _⟩
        rw [HR.out, eq_comm, decide_eq_true]
        refine List.ext_getElem? fun i => ?_
        by_cases hi : i < j
        · exact hsame.out i hi
        · rw [List.getElem?_eq_none (by rw [← HL.out.1]; omega), List.getElem?_eq_none (by rw [← HL.out.2]; omega)]
  · have hd : decide (l = m) = false := decide_eq_false fun e => hlen (by rw [hA.1, hB.1, e])
    rw [hd]
    have hni : ¬ (n : Int) = (n' : Int) := by omega
    have hnb : ((n : Int) != (n' : Int)) = true := bne_iff_ne.2 hni
    clear hA hB
    go_enter Try.func24, Try.ntmps24
    go_wp2_with fail
    go_ret
    exact ⟨rfl, Below.refl _ _⟩
theorem awake18_row (w : World) : RowIn (w.alloc (.cells #[.string ⟨#[97]⟩, .string ⟨#[97]⟩, .string ⟨#[97]⟩, .string ⟨#[98]⟩] 9)) (some ⟨w.heap.size, 0, none⟩) 4 4 [⟨#[97]⟩, ⟨#[97]⟩, ⟨#[97]⟩, ⟨#[98]⟩] := by
  refine ⟨rfl, by omega, .inr ⟨_, _, rfl, fun j hj => ?_⟩⟩
  have h4 : j < 4 := hj
  rw [Nat.zero_add]
  refine (cell_new w _ _ j _ rfl).trans ?_
  match j, h4 with
  | 0, _ => rfl
  | 1, _ => rfl
  | 2, _ => rfl
  | 3, _ => rfl
theorem awake18_pack : packL (BL [⟨#[97]⟩, ⟨#[97]⟩, ⟨#[97]⟩, ⟨#[98]⟩]) = [130, 97, 0, 98] := by decide
theorem awake18_any (w : World) : Calls Try.prog 21 #[] w fun e w' => e = .returned (.bool true) ∧ Below w.heap.size w w' := by
  have HP := Lib.hid (pack_any (awake18_row w) (by omega) (by intro s hs; simp at hs; rcases hs with rfl | rfl <;> decide))
  rw [awake18_pack] at HP
  go_enter Try.func21, Try.ntmps21
  go_wp2_with (go_at_call 25; refine HP.out.mono ?_; rintro e w1 ⟨rfl, _, b1⟩)
  go_ret
  exact ⟨ret1 (vbool (by rw [ByteArray.toList_eq]; decide)), below_next ((Below.refl _ _).alloc (Nat.le_refl _) _) b1⟩
end Go.Proofs.Ytkaijekdnbhjaaa
