/- Rows of texts; a run at the head of a row (tgarle.run). -/
import Derived.Test.YtkaijekdnbhjaaaWords
import Derived.Test.YtkaijekdnbhjaaaTgarleLaw
namespace Go.Proofs.Ytkaijekdnbhjaaa
open Go.RowKit
set_option linter.unusedVariables false
set_option linter.unusedSimpArgs false

/-- the texts that a slice reads -/
def Texts (w : World) (b off : Nat) (l : List ByteArray) : Prop := ∀ j (hj : j < l.length), w.cell? ⟨b, off + j, none⟩ = some (.string l[j])
def BL (l : List ByteArray) : List Bytes := l.map fun s => s.data.toList
theorem toList_inj {s t : ByteArray} (h : s.data.toList = t.data.toList) : s = t := by rw [← strOf_of s, ← strOf_of t, h]
theorem BL_len (l : List ByteArray) : (BL l).length = l.length := by simp [BL]
theorem BL_get (l : List ByteArray) (i j : Nat) : (BL l)[i]? = (BL l)[j]? ↔ l[i]? = l[j]? := by
  simp only [BL, List.getElem?_map]
  cases hi : l[i]? <;> cases hj : l[j]? <;> simp
  exact ⟨fun h => toList_inj (by rw [h]), fun h => by rw [h]⟩
theorem BL_drop (l : List ByteArray) (k : Nat) : BL (l.drop k) = (BL l).drop k := by simp [BL]
theorem BL_take (l : List ByteArray) (k : Nat) : BL (l.take k) = (BL l).take k := by simp [BL]
theorem BL_run {m k : Nat} {l : List ByteArray} (h : Run m l k) : Run m (BL l) k :=
  ⟨h.pos, h.le, by rw [BL_len]; exact h.len, fun j hj => (BL_get l j 0).2 (h.same j hj), fun h1 h2 e => h.stop h1 (by rw [BL_len] at h2; exact h2) ((BL_get l k 0).1 e)⟩
theorem BL_lone {m k : Nat} {l : List ByteArray} (h : Lone m l k) : Lone m (BL l) k :=
  ⟨h.pos, h.le, by rw [BL_len]; exact h.len, fun j h1 hj q => h.no j h1 hj ⟨by have := q.1; rw [BL_len] at this; exact this, (BL_get l j (j + 1)).1 q.2⟩, fun h1 h2 => by rw [BL_len] at h2; have q := h.stop h1 h2; exact ⟨by rw [BL_len]; exact q.1, (BL_get l k (k + 1)).2 q.2⟩⟩
theorem texts_get (s t : ByteArray) : (s.toList == t.toList) = decide (some s = some t) := by
  by_cases h : s = t
  · rw [h]; simp
  · rw [decide_eq_false (by simpa using h)]
    refine beq_eq_false_iff_ne.2 fun e => h ?_
    rw [ByteArray.toList_eq, ByteArray.toList_eq] at e
    exact toList_inj e
theorem Texts.at_ {w : World} {b off : Nat} {l : List ByteArray} (h : Texts w b off l) {j : Nat} (hj : j < l.length) : ∃ s, l[j]? = some s ∧ w.cell? ⟨b, off + j, none⟩ = some (.string s) :=
  ⟨l[j], List.getElem?_eq_getElem hj, h j hj⟩

set_option maxHeartbeats 1000000 in
theorem run_any {w : World} {b off n c : Nat} {l : List ByteArray} (hl : n = l.length) (h1 : 1 ≤ n) (hn : n ≤ 1073741824) (hc : Texts w b off l) :
    Calls Try.prog 54 #[.slice (some ⟨b, off, none⟩) n c] w fun e w' => ∃ k m : Nat, e = .returned (.int .i64 (k : Int)) ∧ Run 128 l k ∧ w' = w.drewN m := by
  obtain ⟨s0, hs0, c0⟩ := hc.at_ (j := 0) (by omega)
  rw [Nat.add_zero] at c0
  have HL := Lib.hid hl
  have HC := Lib.hid hc
  have HS := Lib.hid hs0
  have n0 : (0 : Int) < (n : Int) := by omega
  have n0' : 0 < n := by omega
  clear hl hc hs0
  go_enter Try.func54, Try.ntmps54
  go_wp2_with fail
  go_loopg [3] 127 (fun g x w2 => ∃ k m : Nat, 128 = k + g ∧ 1 ≤ k ∧ k ≤ n ∧ k ≤ 128 ∧ x = .int .i64 (k : Int) ∧ Hid (∀ j, j < k → l[j]? = l[0]?) ∧ w2 = w.drewN m)
  case atStart => exact ⟨1, 0, by omega, by omega, by omega, by omega, rfl, Lib.hid (fun j hj => by rw [show j = 0 by omega]), rfl⟩
  case round =>
    obtain ⟨k, m, hg, hk1, hk2, hk3, rfl, hsame, rfl⟩ := hrel
    by_cases h63 : (128 : Int) < (n : Int)
    all_goals
      by_cases hlt : k < n ∧ k < 128
      · obtain ⟨l1, l2⟩ := hlt
        have l3 : (k : Int) < (n : Int) := by omega
        have l4 : (k : Int) < 128 := by omega
        obtain ⟨sk, hsk, ck⟩ := HC.out.at_ (j := k) (by rw [← HL.out]; exact l1)
        have hd : (sk.toList == s0.toList) = decide (l[k]? = l[0]?) := by rw [hsk, HS.out]; exact texts_get _ _
        have HD := Lib.hid hd
        clear hsk hd
        cases hcc : (sk.toList == s0.toList)
        · go_wp2_with fail
          go_quiet (fail)
          go_wp2_with fail
          go_ret
          exact ⟨k, _, rfl, ⟨hk1, hk3, by rw [← HL.out]; exact hk2, hsame.out, fun _ _ e => by
            have := HD.out
            rw [hcc, decide_eq_true e] at this
            cases this⟩, World.drewN_drewN _ _ _⟩
        · go_wp2_with fail
          go_quiet (fail)
          go_wp2_with fail
          go_roundg (127 - k)
          case measure => omega
          case rel =>
            exact ⟨k + 1, _, by omega, by omega, by omega, by omega, by go_num, Lib.hid (by
              intro j hj
              rcases Nat.lt_succ_iff_lt_or_eq.1 hj with h | rfl
              · exact hsame.out j h
              · have := HD.out
                rw [hcc] at this
                exact of_decide_eq_true this.symm), rfl⟩
      · have q1 : k = n ∨ k = 128 := by omega
        first
          | (have l4 : decide ((k : Int) < 128) = false := decide_eq_false (by omega)
             go_wp2_with fail
             go_quiet (fail)
             go_wp2_with fail
             go_ret
             exact ⟨k, _, rfl, ⟨hk1, hk3, by rw [← HL.out]; exact hk2, hsame.out, fun a b => by rw [← HL.out] at b; omega⟩, World.drewN_drewN _ _ _⟩)
          | (have l4 : decide (k < n) = false := decide_eq_false (by omega)
             go_wp2_with fail
             go_quiet (fail)
             go_wp2_with fail
             go_ret
             exact ⟨k, _, rfl, ⟨hk1, hk3, by rw [← HL.out]; exact hk2, hsame.out, fun a b => by rw [← HL.out] at b; omega⟩, World.drewN_drewN _ _ _⟩)
end Go.Proofs.Ytkaijekdnbhjaaa
