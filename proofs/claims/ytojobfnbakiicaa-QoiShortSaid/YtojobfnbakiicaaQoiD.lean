/- qoi: a pixel's step, told whole. -/
import Derived.Test.YtojobfnbakiicaaQoiC
namespace Go.Proofs.Ytojobfnbakiicaa
open Go.RowKit
set_option linter.unusedVariables false
set_option linter.unusedSimpArgs false

theorem qoiWrite {w : World} {x : Nat} {last c : Qc} {seen : List Qc} (h : CodAt w x last seen) : Calls Try.prog 13 #[.pointer (some ⟨x, 0, none⟩), .agg #[.int .u8 (c.r.toNat : Int), .int .u8 (c.g.toNat : Int), .int .u8 (c.b.toNat : Int), .int .u8 (c.a.toNat : Int)]] w fun e w' => (∃ v, e = .returned v ∧ Row8 w' v w.heap.size (wstep last seen c)) ∧ Below w.heap.size w w' := by
  obtain ⟨q, hs⟩ : ∃ q, seen[qplace c]? = some q := ⟨seen[qplace c]'(by have := h.2; have := qplace_lt c; omega), List.getElem?_eq_getElem _⟩
  unfold wstep
  rw [hs]
  by_cases hq : q = c
  · subst hq
    rw [if_pos rfl]
    exact qoiWrite_seen h rfl hs
  · rw [if_neg (fun e => hq (Option.some.inj e))]
    by_cases ha : c.a = last.a
    · rw [if_neg (fun e => e ha)]
      simp only []
      generalize er : qapart c.r last.r = r
      generalize eg : qapart c.g last.g = g
      generalize eb : qapart c.b last.b = b
      by_cases n0 : -2 ≤ r ∧ r ≤ 1
      · by_cases n1 : -2 ≤ g ∧ g ≤ 1
        · by_cases n2 : -2 ≤ b ∧ b ≤ 1
          · rw [if_pos ⟨n0, n1, n2⟩]
            exact qoiWrite_near h rfl hs hq ha er eg eb n0 n1 n2
          · rw [if_neg (fun e => n2 e.2.2)]
            by_cases m0 : -32 ≤ g ∧ g ≤ 31
            · by_cases m1 : -8 ≤ r - g ∧ r - g ≤ 7
              · by_cases m2 : -8 ≤ b - g ∧ b - g ≤ 7
                · rw [if_pos ⟨m0, m1, m2⟩]
                  exact qoiWrite_far23 h rfl hs hq ha er eg eb ⟨n0, n1, n2⟩ ⟨m0, m1, m2⟩ trivial
                · rw [if_neg (fun e => m2 e.2.2)]
                  exact qoiWrite_all22 h rfl hs hq ha er eg eb ⟨n0, n1, n2⟩ ⟨m0, m1, m2⟩ trivial
              · rw [if_neg (fun e => m1 e.2.1)]
                exact qoiWrite_all21 h rfl hs hq ha er eg eb ⟨n0, n1, n2⟩ ⟨m0, m1⟩ trivial
            · rw [if_neg (fun e => m0 e.1)]
              exact qoiWrite_all20 h rfl hs hq ha er eg eb ⟨n0, n1, n2⟩ m0 trivial
        · rw [if_neg (fun e => n1 e.2.1)]
          by_cases m0 : -32 ≤ g ∧ g ≤ 31
          · by_cases m1 : -8 ≤ r - g ∧ r - g ≤ 7
            · by_cases m2 : -8 ≤ b - g ∧ b - g ≤ 7
              · rw [if_pos ⟨m0, m1, m2⟩]
                exact qoiWrite_far13 h rfl hs hq ha er eg eb ⟨n0, n1⟩ ⟨m0, m1, m2⟩ trivial
              · rw [if_neg (fun e => m2 e.2.2)]
                exact qoiWrite_all12 h rfl hs hq ha er eg eb ⟨n0, n1⟩ ⟨m0, m1, m2⟩ trivial
            · rw [if_neg (fun e => m1 e.2.1)]
              exact qoiWrite_all11 h rfl hs hq ha er eg eb ⟨n0, n1⟩ ⟨m0, m1⟩ trivial
          · rw [if_neg (fun e => m0 e.1)]
            exact qoiWrite_all10 h rfl hs hq ha er eg eb ⟨n0, n1⟩ m0 trivial
      · rw [if_neg (fun e => n0 e.1)]
        by_cases m0 : -32 ≤ g ∧ g ≤ 31
        · by_cases m1 : -8 ≤ r - g ∧ r - g ≤ 7
          · by_cases m2 : -8 ≤ b - g ∧ b - g ≤ 7
            · rw [if_pos ⟨m0, m1, m2⟩]
              exact qoiWrite_far03 h rfl hs hq ha er eg eb n0 ⟨m0, m1, m2⟩ trivial
            · rw [if_neg (fun e => m2 e.2.2)]
              exact qoiWrite_all02 h rfl hs hq ha er eg eb n0 ⟨m0, m1, m2⟩ trivial
          · rw [if_neg (fun e => m1 e.2.1)]
            exact qoiWrite_all01 h rfl hs hq ha er eg eb n0 ⟨m0, m1⟩ trivial
        · rw [if_neg (fun e => m0 e.1)]
          exact qoiWrite_all00 h rfl hs hq ha er eg eb n0 m0 trivial
    · rw [if_pos ha]
      exact qoiWrite_full h rfl hs hq ha
end Go.Proofs.Ytojobfnbakiicaa
