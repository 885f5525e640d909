/- qoi: a pixel's step, told whole. qoi: flush. -/
import Derived.Test.YtojobfnbakiicaaGreatQoiC
namespace Go.Proofs.YtojobfnbakiicaaGreat
open Go.RowKit
set_option linter.unusedVariables false
set_option linter.unusedSimpArgs false

theorem qoiWrite {w : World} {x : Nat} {last c : Qc} {seen : List Qc} (h : CodAt w x last seen) : Calls Tryz.prog 52 #[.pointer (some ⟨x, 0, none⟩), .agg #[.int .u8 (c.r.toNat : Int), .int .u8 (c.g.toNat : Int), .int .u8 (c.b.toNat : Int), .int .u8 (c.a.toNat : Int)]] w fun e w' => (∃ v, e = .returned v ∧ Row8 w' v w.heap.size (wstep last seen c)) ∧ Below w.heap.size w w' := by
  obtain ⟨q, hs⟩ : ∃ q, seen[qplace c]? = some q := ⟨seen[qplace c]'(by have := h.2; have := qplace_lt c; omega), List.getElem?_eq_getElem _⟩
  unfold wstep
  rw [hs]
  by_cases hq : q = c
  · subst hq
    rw [if_pos rfl]
    exact qoiWrite_seen h rfl hs
  · rw [if_neg (fun e => hq (Option.some.inj e))]
    by_cases ha : c.a = last.a
    · rw [if_neg (fun e => e ha)]
      simp only []
      generalize er : qapart c.r last.r = r
      generalize eg : qapart c.g last.g = g
      generalize eb : qapart c.b last.b = b
      by_cases n0 : -2 ≤ r ∧ r ≤ 1
      · by_cases n1 : -2 ≤ g ∧ g ≤ 1
        · by_cases n2 : -2 ≤ b ∧ b ≤ 1
          · rw [if_pos ⟨n0, n1, n2⟩]
            exact qoiWrite_near h rfl hs hq ha er eg eb n0 n1 n2
          · rw [if_neg (fun e => n2 e.2.2)]
            by_cases m0 : -32 ≤ g ∧ g ≤ 31
            · by_cases m1 : -8 ≤ r - g ∧ r - g ≤ 7
              · by_cases m2 : -8 ≤ b - g ∧ b - g ≤ 7
                · rw [if_pos ⟨m0, m1, m2⟩]
                  exact qoiWrite_far23 h rfl hs hq ha er eg eb ⟨n0, n1, n2⟩ ⟨m0, m1, m2⟩ trivial
                · rw [if_neg (fun e => m2 e.2.2)]
                  exact qoiWrite_all22 h rfl hs hq ha er eg eb ⟨n0, n1, n2⟩ ⟨m0, m1, m2⟩ trivial
              · rw [if_neg (fun e => m1 e.2.1)]
                exact qoiWrite_all21 h rfl hs hq ha er eg eb ⟨n0, n1, n2⟩ ⟨m0, m1⟩ trivial
            · rw [if_neg (fun e => m0 e.1)]
              exact qoiWrite_all20 h rfl hs hq ha er eg eb ⟨n0, n1, n2⟩ m0 trivial
        · rw [if_neg (fun e => n1 e.2.1)]
          by_cases m0 : -32 ≤ g ∧ g ≤ 31
          · by_cases m1 : -8 ≤ r - g ∧ r - g ≤ 7
            · by_cases m2 : -8 ≤ b - g ∧ b - g ≤ 7
              · rw [if_pos ⟨m0, m1, m2⟩]
                exact qoiWrite_far13 h rfl hs hq ha er eg eb ⟨n0, n1⟩ ⟨m0, m1, m2⟩ trivial
              · rw [if_neg (fun e => m2 e.2.2)]
                exact qoiWrite_all12 h rfl hs hq ha er eg eb ⟨n0, n1⟩ ⟨m0, m1, m2⟩ trivial
            · rw [if_neg (fun e => m1 e.2.1)]
              exact qoiWrite_all11 h rfl hs hq ha er eg eb ⟨n0, n1⟩ ⟨m0, m1⟩ trivial
          · rw [if_neg (fun e => m0 e.1)]
            exact qoiWrite_all10 h rfl hs hq ha er eg eb ⟨n0, n1⟩ m0 trivial
      · rw [if_neg (fun e => n0 e.1)]
        by_cases m0 : -32 ≤ g ∧ g ≤ 31
        · by_cases m1 : -8 ≤ r - g ∧ r - g ≤ 7
          · by_cases m2 : -8 ≤ b - g ∧ b - g ≤ 7
            · rw [if_pos ⟨m0, m1, m2⟩]
              exact qoiWrite_far03 h rfl hs hq ha er eg eb n0 ⟨m0, m1, m2⟩ trivial
            · rw [if_neg (fun e => m2 e.2.2)]
              exact qoiWrite_all02 h rfl hs hq ha er eg eb n0 ⟨m0, m1, m2⟩ trivial
          · rw [if_neg (fun e => m1 e.2.1)]
            exact qoiWrite_all01 h rfl hs hq ha er eg eb n0 ⟨m0, m1⟩ trivial
        · rw [if_neg (fun e => m0 e.1)]
          exact qoiWrite_all00 h rfl hs hq ha er eg eb n0 m0 trivial
    · rw [if_pos ha]
      exact qoiWrite_full h rfl hs hq ha
end Go.Proofs.YtojobfnbakiicaaGreat
namespace Go.Proofs.YtojobfnbakiicaaGreat
open Go.RowKit
set_option linter.unusedVariables false
set_option linter.unusedSimpArgs false

/-- the boxes of Write: the run, the bytes -/
def RunB (w : World) (b : Nat) (n : Int) : Prop := Blk w b 3 #[.int .i64 n]
def OutB (w : World) (b : Nat) (v : Value) : Prop := Blk w b 22 #[v]
set_option maxRecDepth 100000 in
theorem qoiFlush_no {w : World} {br bo : Nat} (hr : RunB w br 0) : Calls Tryz.prog 49 #[.pointer (some ⟨br, 0, none⟩), .pointer (some ⟨bo, 0, none⟩)] w fun e w' => e = .returned (.tuple #[]) ∧ RunB w' br 0 ∧ Turn [br] w w' := by
  have c0 : w.cell? ⟨br, 0, none⟩ = some (.int .i64 0) := Blk.cell hr 0
  have z0 := Blk.frozen hr 0
  have hl := Blk.lt hr
  go_enter Tryz.func49, Tryz.ntmps49
  go_wp2_with fail
  go_end0
  exact ⟨rfl, (Blk.set_ hr 0 _).eq_ rfl, (Turn.refl _ _).set_ 0 _ (by simp)⟩
theorem Owns8.turn {S : List Nat} {w w' : World} {base : Nat} {v : Value} {l : List UInt8} (h : Owns8 w base v l) (t : Turn S w w') (hS : ∀ k, v.ownBlock = some k → k ∉ S) : Owns8 w' base v l := by
  refine ⟨h.1, ?_⟩
  rcases h.2 with h | ⟨g, cap, cur, hv, hg, hh, r⟩
  · exact .inl h
  · refine .inr ⟨g, cap, cur, hv, hg, ?_, r⟩
    rw [t.block g (Array.getElem?_eq_some_iff.1 hh).1 (hS g (by rw [hv]; rfl))]
    exact hh
theorem Owns8.ne {w : World} {base b : Nat} {v : Value} {l : List UInt8} {t : TypeId} {cs : Array Value} (h : Owns8 w base v l) (hb : Blk w b t cs) (ht : t ≠ 5) : ∀ k, v.ownBlock = some k → k ≠ b := by
  intro k hk
  rcases h.2 with ⟨rfl, _⟩ | ⟨g, cap, cur, rfl, hg, hh, r⟩
  · cases hk
  · have : g = k := by simpa [Value.ownBlock] using hk
    subst this
    rintro rfl
    have := hb.symm.trans hh
    simp only [Option.some.injEq, Obj.cells.injEq] at this
    exact ht this.2.1
theorem Turn.of_own {S : List Nat} {w w' : World} {v : Value} (h : w.grownBy w' v.ownBlock) (hs : ∀ k, v.ownBlock = some k → k ∈ S) : Turn S w w' :=
  ⟨h.os, h.tape, h.output, h.size, fun i hi hn => h.block i hi (fun e => hn (hs i e.symm))⟩
/-- a run's byte -/
def flushL (n : Nat) (l : List UInt8) : List UInt8 := if n = 0 then l else l ++ [UInt8.ofNat (192 + n - 1)]
set_option maxRecDepth 100000 in
theorem qoiFlush_yes {w : World} {br bo n : Nat} {base : Nat} {v : Value} {l : List UInt8} (hn : 0 < n) (hm : n ≤ 62) (hr : RunB w br (n : Int)) (ho : OutB w bo v) (own : Owns8 w base v l) (hbase : base ≤ w.heap.size) (hll : l.length < 100000) : Calls Tryz.prog 49 #[.pointer (some ⟨br, 0, none⟩), .pointer (some ⟨bo, 0, none⟩)] w fun e w' => e = .returned (.tuple #[]) ∧ RunB w' br 0 ∧ ∃ v', OutB w' bo v' ∧ Owns8 w' base v' (l ++ [UInt8.ofNat (192 + n - 1)]) ∧ Turn (br :: bo :: v.ownBlock.toList) w w' := by
  have hvr := own.ne hr (by decide)
  have hvo := own.ne ho (by decide)
  have hbo : br ≠ bo := Blk.ne_ hr ho (by decide)
  have c0 : w.cell? ⟨br, 0, none⟩ = some (.int .i64 (n : Int)) := Blk.cell hr 0
  have z0 := Blk.frozen hr 0
  have hl := Blk.lt hr
  have c1 : w.cell? ⟨bo, 0, none⟩ = some v := Blk.cell ho 0
  have z1 := Blk.frozen ho 0
  have hl1 := Blk.lt ho
  have hnI : (0 : Int) < (n : Int) := by omega
  have hmI : (n : Int) ≤ 62 := by omega
  have HV := Lib.hid (And.intro hvr hvo)
  clear hvr hvo
  go_enter Tryz.func49, Tryz.ntmps49
  go_wp2_with (at_builtin; refine wpList_append_row rfl (.tmp 4) (.tmp 9) rfl base v l [UInt8.ofNat (192 + n - 1)] rfl (own.alloc _) w.heap.size 1 1 rfl rfl (cells_new w [UInt8.ofNat (192 + n - 1)] _ (by simp [C8]; omega)) (by simp; omega) (by simp; omega) ?_; intro v3 w3 own3 b3 hg3; have R3 : RunB w3 br (n : Int) := (hg3.block br (by simp; omega) (fun e => HV.out.1 br e.symm rfl)).trans (Blk.alloc hr _); have O3 : OutB w3 bo v := (hg3.block bo (by simp; omega) (fun e => HV.out.2 bo e.symm rfl)).trans (Blk.alloc ho _); obtain ⟨p3, n3, k3, rfl⟩ : ∃ p n k, v3 = Value.slice p n k := (by rcases own3.2 with h | ⟨g, cap, cur, hv, _⟩; (exact ⟨_, _, _, h.1⟩); exact ⟨_, _, _, hv⟩); clear c0 z0 hl c1 z1 hl1; have c0 : w3.cell? ⟨br, 0, none⟩ = some (.int .i64 (n : Int)) := Blk.cell R3 0; have z0 := Blk.frozen R3 0; have hl := Blk.lt R3; have c1 : w3.cell? ⟨bo, 0, none⟩ = some v := Blk.cell O3 0; have z1 := Blk.frozen O3 0; have hl1 := Blk.lt O3)
  go_end0
  have T3 : Turn (br :: bo :: v.ownBlock.toList) w w3 := ((Turn.refl _ _).alloc _).trans (Turn.of_own hg3 (fun k hk => by simp [hk]))
  have k1 := own3.ne R3 (by decide)
  have k2 := own3.ne O3 (by decide)
  have O5 : OutB ((w3.setCell ⟨bo, 0, none⟩ (.slice p3 n3 k3)).setCell ⟨br, 0, none⟩ (.int .i64 0)) bo (.slice p3 n3 k3) := Blk.far ((Blk.set_ O3 0 _).eq_ rfl) (p := ⟨br, 0, none⟩) hbo.symm _
  have R5 : RunB ((w3.setCell ⟨bo, 0, none⟩ (.slice p3 n3 k3)).setCell ⟨br, 0, none⟩ (.int .i64 0)) br 0 := (Blk.set_ (Blk.far R3 (p := ⟨bo, 0, none⟩) hbo _) 0 _).eq_ rfl
  have T5 : Turn [br, bo] w3 ((w3.setCell ⟨bo, 0, none⟩ (.slice p3 n3 k3)).setCell ⟨br, 0, none⟩ (.int .i64 0)) := ((Turn.refl _ _).set_ 0 _ (by simp)).set_ 0 _ (by simp)
  exact ⟨rfl, R5, _, O5, own3.turn T5 (fun k hk => by simp only [List.mem_cons, List.not_mem_nil, or_false, not_or]; exact ⟨k1 k hk, k2 k hk⟩), T3.trans (T5.mono (by simp))⟩
theorem qoiFlush {w : World} {br bo n : Nat} {base : Nat} {v : Value} {l : List UInt8} (hm : n ≤ 62) (hr : RunB w br (n : Int)) (ho : OutB w bo v) (own : Owns8 w base v l) (hbase : base ≤ w.heap.size) (hll : l.length < 100000) : Calls Tryz.prog 49 #[.pointer (some ⟨br, 0, none⟩), .pointer (some ⟨bo, 0, none⟩)] w fun e w' => e = .returned (.tuple #[]) ∧ RunB w' br 0 ∧ ∃ v', OutB w' bo v' ∧ Owns8 w' base v' (flushL n l) ∧ Turn (br :: bo :: v.ownBlock.toList) w w' := by
  unfold flushL
  by_cases hn : n = 0
  · subst hn
    rw [if_pos rfl]
    refine (qoiFlush_no (bo := bo) hr).mono ?_
    rintro e w' ⟨rfl, r, t⟩
    have hbo : br ≠ bo := Blk.ne_ hr ho (by decide)
    exact ⟨rfl, r, v, Blk.turn ho t (by simpa using hbo.symm), own.turn t (fun k hk => by simp only [List.mem_cons, List.not_mem_nil, or_false]; exact own.ne hr (by decide) k hk), t.mono (by simp)⟩
  · rw [if_neg hn]
    exact qoiFlush_yes (by omega) hm hr ho own hbase hll
end Go.Proofs.YtojobfnbakiicaaGreat
