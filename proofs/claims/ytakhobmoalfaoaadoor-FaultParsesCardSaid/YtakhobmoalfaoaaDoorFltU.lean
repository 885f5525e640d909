/- fault: the document's Parse, walked. -/
import Derived.Test.YtakhobmoalfaoaaDoorFltP
import Derived.Test.YtakhobmoalfaoaaDoorFltD
import Derived.Test.YtakhobmoalfaoaaDoorFltB
namespace Go.Proofs.YtakhobmoalfaoaaDoor
open Go.RowKit
set_option linter.unusedVariables false
set_option linter.unusedSimpArgs false

def refV : Option (Nat × Nat × Nat) → Value
  | some (k, f, n) => .tuple #[.int .i64 (k : Int), .int .i64 (f : Int), .int .i64 (n : Int), .bool true]
  | none => .tuple #[.int .i64 0, .int .i64 0, .int .i64 0, .bool false]
theorem bt_get {d : ByteArray} {i : Nat} (h : i < d.size) : bt d i = d[i].toNat := by
  unfold bt
  have hl : i < d.data.toList.length := by rw [Array.length_toList]; exact h
  rw [List.getD_eq_getElem?_getD, List.getElem?_eq_getElem hl]
  simp
  rfl
set_option maxRecDepth 100000 in
set_option maxHeartbeats 4000000 in
theorem refParseC {s : ByteArray} (hs : s.size ≤ 1000) (w : World) : Calls Tryd.prog 15 #[.string s] w fun e w' => e = .returned (refV (refP s)) ∧ Below w.heap.size w w' := by
  obtain ⟨R, hR⟩ : ∃ R, refP s = R := ⟨_, rfl⟩
  rw [hR]
  have HR := Lib.hid (show refK s 5 0 = R from hR)
  have HB := Lib.hid (Below.refl w.heap.size w)
  clear hR
  go_enter Tryd.func15, Tryd.ntmps15
  go_wp2_with fail
  go_loopg [6, 7, 8] 5 (fun g v5 v6 v7 wr => ∃ k : Nat, k + g = 5 ∧ v5 = .int .i64 (k : Int) ∧ Hid (refK s g k = R) ∧ Hid (Below w.heap.size w wr))
  case atStart => exact ⟨0, rfl, rfl, HR, HB⟩
  case round =>
    obtain ⟨k, hk, rfl, HRK, HBK⟩ := hrel
    clear HR HB
    by_cases hk5 : k < 5
    · obtain ⟨m, rfl⟩ : ∃ m, gk = m + 1 := ⟨gk - 1, by omega⟩
      have hkI : (k : Int) < 5 := by omega
      have hkB : k ≤ 4 := by omega
      have HKM := Lib.hid hk
      clear hk hk5
      go_wp2_with fail
      go_loopg [7, 8] 9 (fun g v6 v7 wr => ∃ f : Nat, f + g = 9 ∧ v6 = .int .i64 (f : Int) ∧ Hid (refF s k g f = refF s k 9 0) ∧ Hid (Below w.heap.size w wr))
      case atStart => exact ⟨0, rfl, rfl, Lib.hid rfl, HBK⟩
      case round =>
        obtain ⟨f, hf, rfl, HRF, HBF⟩ := hrel
        by_cases hf9 : f < 9
        · obtain ⟨mf, rfl⟩ : ∃ mf, gk = mf + 1 := ⟨gk - 1, by omega⟩
          have hfI : (f : Int) < 9 := by omega
          have HK0 := Lib.hid (refKindC (k : Int))
          have zk := kWord_size (k : Int)
          have HF0 := Lib.hid (refFormatC (f : Int))
          have zf := fWord_size (f : Int)
          have A1 : ∀ w : World, (Op.stringOp .add (wordOf kWords k) ⟨#[32]⟩).run Tryd.prog w = .ok (.string (wordOf kWords k ++ ⟨#[32]⟩)) w := fun w => run_string_add_sum w _ _ (by have : (⟨#[32]⟩ : ByteArray).size = 1 := rfl; omega)
          have A2 : ∀ w : World, (Op.stringOp .add (wordOf kWords k ++ ⟨#[32]⟩) (wordOf fWords f)).run Tryd.prog w = .ok (.string (wordOf kWords k ++ ⟨#[32]⟩ ++ wordOf fWords f)) w := fun w => run_string_add_sum w _ _ (by have : (⟨#[32]⟩ : ByteArray).size = 1 := rfl; rw [ByteArray.size_append]; omega)
          have A3 : ∀ w : World, (Op.stringOp .add (wordOf kWords k ++ ⟨#[32]⟩ ++ wordOf fWords f) ⟨#[32]⟩).run Tryd.prog w = .ok (.string (front k f)) w := fun w => run_string_add_sum w _ _ (by have : (⟨#[32]⟩ : ByteArray).size = 1 := rfl; rw [ByteArray.size_append, ByteArray.size_append]; omega)
          have hz : (front k f).size ≤ 20 := by
            unfold front
            have : (⟨#[32]⟩ : ByteArray).size = 1 := rfl
            rw [ByteArray.size_append, ByteArray.size_append, ByteArray.size_append]
            omega
          have hrf := HRF.out
          obtain ⟨G, hG⟩ : ∃ G, refF s k 9 0 = G := ⟨_, rfl⟩
          rw [hG] at hrf
          unfold refF at hrf
          have hHF : HasFront s k f ↔ ((front k f).size < s.size ∧ s.extract 0 (front k f).size = front k f) := Iff.rfl
          generalize hd : s.extract (front k f).size s.size = d at hrf
          have hds : d.size = s.size - (front k f).size := by rw [← hd, ByteArray.size_extract]; omega
          generalize hfr : front k f = fr at *
          generalize wordOf kWords k ++ ⟨#[32]⟩ ++ wordOf fWords f = c2 at A2 A3
          generalize wordOf kWords k ++ ⟨#[32]⟩ = c1 at A1 A2
          generalize wordOf kWords k = wk at HK0 A1
          generalize wordOf fWords f = wf at HF0 A2
          have HFM := Lib.hid hf
          clear zk zf hfr hf hf9
          by_cases h1 : fr.size < s.size
          · have h1I : ¬ (s.size : Int) ≤ (fr.size : Int) := by omega
            have h1J : (fr.size : Int) ≤ (s.size : Int) := by omega
            have h1N : fr.size ≤ s.size := by omega
            have hte := textEq9 (s.extract 0 fr.size) fr
            by_cases h2 : s.extract 0 fr.size = fr
            · rw [decide_eq_true h2] at hte
              rw [if_pos (hHF.2 ⟨h1, h2⟩)] at hrf
              have hRD : R = refD k f d := by
                have h := HRK.out
                rw [refK, hG, ← hrf] at h
                exact h.symm
              clear hHF h2 hrf hG HRK HRF
              have hdI : (d.size : Int) ≤ 1000 := by omega
              have hd0 : (0 : Int) < (d.size : Int) := by omega
              have hd0N : 0 < d.size := by omega
              clear hds hs
              unfold refD at hRD
              by_cases h19 : 19 < d.size
              · rw [if_pos (.inl h19)] at hRD
                have h19I : (19 : Int) < (d.size : Int) := by omega
                have HRN := Lib.hid hRD
                clear hRD
                go_wp2_with (first
                  | (go_at_call 9; refine (HK0.out _).mono ?_; rintro e w1 ⟨rfl, b1⟩)
                  | (go_at_call 11; refine (HF0.out _).mono ?_; rintro e w2 ⟨rfl, b2⟩))
                exact bodyPost_ret (v := .tuple #[.int .i64 0, .int .i64 0, .int .i64 0, .bool false]) (by simp [results, Tryd.results15, go_sem]) rfl ⟨by rw [HRN.out]; rfl, below_next (below_next HBF.out b1) b2⟩
              · have h19I : ¬ (19 : Int) < (d.size : Int) := by omega
                have hb0 := bt_get hd0N
                by_cases h0 : bt d 0 = 48 ∧ 1 < d.size
                · rw [if_pos (.inr h0)] at hRD
                  have h0I : ((d[0].toNat : Nat) : Int) = 48 := by omega
                  have h01 : (1 : Int) < (d.size : Int) := by omega
                  have HRN := Lib.hid hRD
                  clear hRD hb0 h0
                  go_wp2_with (first
                  | (go_at_call 9; refine (HK0.out _).mono ?_; rintro e w1 ⟨rfl, b1⟩)
                  | (go_at_call 11; refine (HF0.out _).mono ?_; rintro e w2 ⟨rfl, b2⟩))
                  exact bodyPost_ret (v := .tuple #[.int .i64 0, .int .i64 0, .int .i64 0, .bool false]) (by simp [results, Tryd.results15, go_sem]) rfl ⟨by rw [HRN.out]; rfl, below_next (below_next HBF.out b1) b2⟩
                · rw [if_neg (by rintro (h | h); exact h19 h; exact h0 h)] at hRD
                  have h0I : (((d[0].toNat : Nat) : Int) == 48 && decide ((1 : Int) < (d.size : Int))) = false := by
                    rw [Bool.and_eq_false_iff, beq_eq_false_iff_ne, decide_eq_false_iff_not]
                    omega
                  have HRD := Lib.hid hRD
                  clear hRD h19
                  by_cases h48 : bt d 0 = 48
                  · have h48I : ((d[0].toNat : Nat) : Int) = 48 := by omega
                    have h1d : ¬ (1 : Int) < (d.size : Int) := by omega
                    clear h0 hb0 h48 h0I
                    go_wp2_with (first
                  | (go_at_call 9; refine (HK0.out _).mono ?_; rintro e w1 ⟨rfl, b1⟩)
                  | (go_at_call 11; refine (HF0.out _).mono ?_; rintro e w2 ⟨rfl, b2⟩))
                    have B2 := Lib.hid (below_next (below_next HBF.out b1) b2)
                    obtain ⟨D, hD⟩ : ∃ D, dgo d d.size 0 0 = D := ⟨_, rfl⟩
                    rw [hD] at HRD
                    have HD0 := Lib.hid hD
                    have HDD := Lib.hid (show dgo d d.size 0 0 = D from hD)
                    clear hD b1 b2 HBF HBK HKM HFM
                    go_loopg [10, 11] d.size (fun g v10 v11 wr => ∃ i v : Nat, i + g = d.size ∧ v10 = .int .i64 (v : Int) ∧ v11 = .int .i64 (i : Int) ∧ v ≤ 4611686018427387909 ∧ wr = w2 ∧ Hid (dgo d g i v = D))
                    case atStart => exact ⟨0, 0, by omega, rfl, rfl, by omega, rfl, HDD⟩
                    case round =>
                      obtain ⟨i, v, hi, rfl, rfl, hv, rfl, HG⟩ := hrel
                      clear HD0 HDD
                      by_cases hid : i < d.size
                      · obtain ⟨mg, rfl⟩ : ∃ mg, gk = mg + 1 := ⟨gk - 1, by omega⟩
                        have hidI : (i : Int) < (d.size : Int) := by omega
                        have hb := bt_get hid
                        have hg := HG.out
                        unfold dgo at hg
                        have HI := Lib.hid hi
                        have hc : d[i].toNat < 256 := UInt8.toNat_lt _
                        by_cases hbad : bt d i < 48 ∨ 57 < bt d i ∨ 461168601842738790 < v
                        · rw [if_pos hbad] at hg
                          have HRN : Hid (R = none) := Lib.hid (by rw [HRD.out, ← hg])
                          clear hg HG hi
                          by_cases c1 : bt d i < 48
                          · have c1I : ((d[i].toNat : Nat) : Int) < 48 := by omega
                            clear hb hbad c1 hc
                            go_wp2_with fail
                            exact bodyPost_ret (v := .tuple #[.int .i64 0, .int .i64 0, .int .i64 0, .bool false]) (by simp [results, Tryd.results15, go_sem]) rfl ⟨by rw [HRN.out]; rfl, B2.out⟩
                          · have c1I : ¬ ((d[i].toNat : Nat) : Int) < 48 := by omega
                            by_cases c2 : 57 < bt d i
                            · have c2I : (57 : Int) < ((d[i].toNat : Nat) : Int) := by omega
                              clear hb hbad c1 c2 hc
                              go_wp2_with fail
                              exact bodyPost_ret (v := .tuple #[.int .i64 0, .int .i64 0, .int .i64 0, .bool false]) (by simp [results, Tryd.results15, go_sem]) rfl ⟨by rw [HRN.out]; rfl, B2.out⟩
                            · have c2I : ¬ (57 : Int) < ((d[i].toNat : Nat) : Int) := by omega
                              have c3I : (461168601842738790 : Int) < (v : Int) := by omega
                              clear hb hbad c1 c2 hc
                              go_wp2_with fail
                              exact bodyPost_ret (v := .tuple #[.int .i64 0, .int .i64 0, .int .i64 0, .bool false]) (by simp [results, Tryd.results15, go_sem]) rfl ⟨by rw [HRN.out]; rfl, B2.out⟩
                        · rw [if_neg hbad] at hg
                          have c1I : ¬ ((d[i].toNat : Nat) : Int) < 48 := by omega
                          have c2I : ¬ (57 : Int) < ((d[i].toNat : Nat) : Int) := by omega
                          have c3I : ¬ (461168601842738790 : Int) < (v : Int) := by omega
                          have hvI : (v : Int) ≤ 461168601842738790 := by omega
                          obtain ⟨c, hcc⟩ : ∃ c, d[i].toNat = c := ⟨_, rfl⟩
                          rw [hcc] at c1I c2I hb
                          rw [hb] at hg
                          have c48 : (48 : Int) ≤ (c : Int) := by omega
                          have c57 : (c : Int) ≤ 57 := by omega
                          obtain ⟨v2, hv2⟩ : ∃ v2, 10 * v + c - 48 = v2 := ⟨_, rfl⟩
                          rw [hv2] at hg
                          have hv2I : 10 * (v : Int) + (c : Int) - 48 = (v2 : Int) := by omega
                          have hv2B : v2 ≤ 4611686018427387909 := by omega
                          have HG2 := Lib.hid hg
                          clear hbad hg HG hi hv hb hv2 hc
                          go_wp2_with fail
                          go_roundg mg
                          case measure => omega
                          case rel => exact ⟨i + 1, v2, by have := HI.out; omega, by go_num, by go_num, hv2B, rfl, HG2⟩
                      · obtain rfl : gk = 0 := by omega
                        have hidI : ¬ (i : Int) < (d.size : Int) := by omega
                        have hDv : D = some v := HG.out.symm
                        have hrd := HRD.out
                        rw [hDv] at hrd
                        have HRI := Lib.hid (refRightC (k : Int) (f : Int) (v : Int))
                        by_cases hr : FRight (k : Int) (f : Int) (v : Int)
                        · rw [decide_eq_true hr] at HRI
                          simp only [if_pos hr] at hrd
                          have HRN := Lib.hid hrd
                          clear hrd hr hDv HRD HG hi
                          go_wp2_with (go_at_call 7; refine (HRI.out _).mono ?_; rintro e w4 ⟨rfl, rfl⟩)
                          exact bodyPost_ret (v := .tuple #[.int .i64 (k : Int), .int .i64 (f : Int), .int .i64 (v : Int), .bool true]) (by simp [results, Tryd.results15, go_sem]) rfl ⟨by rw [HRN.out]; rfl, B2.out⟩
                        · rw [decide_eq_false hr] at HRI
                          simp only [if_neg hr] at hrd
                          have HRN := Lib.hid hrd
                          clear hrd hr hDv HRD HG hi
                          go_wp2_with (go_at_call 7; refine (HRI.out _).mono ?_; rintro e w4 ⟨rfl, rfl⟩)
                          exact bodyPost_ret (v := .tuple #[.int .i64 0, .int .i64 0, .int .i64 0, .bool false]) (by simp [results, Tryd.results15, go_sem]) rfl ⟨by rw [HRN.out]; rfl, B2.out⟩
                  · have h48I : ¬ ((d[0].toNat : Nat) : Int) = 48 := by omega
                    clear h0 hb0 h48 h0I
                    go_wp2_with (first
                  | (go_at_call 9; refine (HK0.out _).mono ?_; rintro e w1 ⟨rfl, b1⟩)
                  | (go_at_call 11; refine (HF0.out _).mono ?_; rintro e w2 ⟨rfl, b2⟩))
                    have B2 := Lib.hid (below_next (below_next HBF.out b1) b2)
                    obtain ⟨D, hD⟩ : ∃ D, dgo d d.size 0 0 = D := ⟨_, rfl⟩
                    rw [hD] at HRD
                    have HD0 := Lib.hid hD
                    have HDD := Lib.hid (show dgo d d.size 0 0 = D from hD)
                    clear hD b1 b2 HBF HBK HKM HFM
                    go_loopg [10, 11] d.size (fun g v10 v11 wr => ∃ i v : Nat, i + g = d.size ∧ v10 = .int .i64 (v : Int) ∧ v11 = .int .i64 (i : Int) ∧ v ≤ 4611686018427387909 ∧ wr = w2 ∧ Hid (dgo d g i v = D))
                    case atStart => exact ⟨0, 0, by omega, rfl, rfl, by omega, rfl, HDD⟩
                    case round =>
                      obtain ⟨i, v, hi, rfl, rfl, hv, rfl, HG⟩ := hrel
                      clear HD0 HDD
                      by_cases hid : i < d.size
                      · obtain ⟨mg, rfl⟩ : ∃ mg, gk = mg + 1 := ⟨gk - 1, by omega⟩
                        have hidI : (i : Int) < (d.size : Int) := by omega
                        have hb := bt_get hid
                        have hg := HG.out
                        unfold dgo at hg
                        have HI := Lib.hid hi
                        have hc : d[i].toNat < 256 := UInt8.toNat_lt _
                        by_cases hbad : bt d i < 48 ∨ 57 < bt d i ∨ 461168601842738790 < v
                        · rw [if_pos hbad] at hg
                          have HRN : Hid (R = none) := Lib.hid (by rw [HRD.out, ← hg])
                          clear hg HG hi
                          by_cases c1 : bt d i < 48
                          · have c1I : ((d[i].toNat : Nat) : Int) < 48 := by omega
                            clear hb hbad c1 hc
                            go_wp2_with fail
                            exact bodyPost_ret (v := .tuple #[.int .i64 0, .int .i64 0, .int .i64 0, .bool false]) (by simp [results, Tryd.results15, go_sem]) rfl ⟨by rw [HRN.out]; rfl, B2.out⟩
                          · have c1I : ¬ ((d[i].toNat : Nat) : Int) < 48 := by omega
                            by_cases c2 : 57 < bt d i
                            · have c2I : (57 : Int) < ((d[i].toNat : Nat) : Int) := by omega
                              clear hb hbad c1 c2 hc
                              go_wp2_with fail
                              exact bodyPost_ret (v := .tuple #[.int .i64 0, .int .i64 0, .int .i64 0, .bool false]) (by simp [results, Tryd.results15, go_sem]) rfl ⟨by rw [HRN.out]; rfl, B2.out⟩
                            · have c2I : ¬ (57 : Int) < ((d[i].toNat : Nat) : Int) := by omega
                              have c3I : (461168601842738790 : Int) < (v : Int) := by omega
                              clear hb hbad c1 c2 hc
                              go_wp2_with fail
                              exact bodyPost_ret (v := .tuple #[.int .i64 0, .int .i64 0, .int .i64 0, .bool false]) (by simp [results, Tryd.results15, go_sem]) rfl ⟨by rw [HRN.out]; rfl, B2.out⟩
                        · rw [if_neg hbad] at hg
                          have c1I : ¬ ((d[i].toNat : Nat) : Int) < 48 := by omega
                          have c2I : ¬ (57 : Int) < ((d[i].toNat : Nat) : Int) := by omega
                          have c3I : ¬ (461168601842738790 : Int) < (v : Int) := by omega
                          have hvI : (v : Int) ≤ 461168601842738790 := by omega
                          obtain ⟨c, hcc⟩ : ∃ c, d[i].toNat = c := ⟨_, rfl⟩
                          rw [hcc] at c1I c2I hb
                          rw [hb] at hg
                          have c48 : (48 : Int) ≤ (c : Int) := by omega
                          have c57 : (c : Int) ≤ 57 := by omega
                          obtain ⟨v2, hv2⟩ : ∃ v2, 10 * v + c - 48 = v2 := ⟨_, rfl⟩
                          rw [hv2] at hg
                          have hv2I : 10 * (v : Int) + (c : Int) - 48 = (v2 : Int) := by omega
                          have hv2B : v2 ≤ 4611686018427387909 := by omega
                          have HG2 := Lib.hid hg
                          clear hbad hg HG hi hv hb hv2 hc
                          go_wp2_with fail
                          go_roundg mg
                          case measure => omega
                          case rel => exact ⟨i + 1, v2, by have := HI.out; omega, by go_num, by go_num, hv2B, rfl, HG2⟩
                      · obtain rfl : gk = 0 := by omega
                        have hidI : ¬ (i : Int) < (d.size : Int) := by omega
                        have hDv : D = some v := HG.out.symm
                        have hrd := HRD.out
                        rw [hDv] at hrd
                        have HRI := Lib.hid (refRightC (k : Int) (f : Int) (v : Int))
                        by_cases hr : FRight (k : Int) (f : Int) (v : Int)
                        · rw [decide_eq_true hr] at HRI
                          simp only [if_pos hr] at hrd
                          have HRN := Lib.hid hrd
                          clear hrd hr hDv HRD HG hi
                          go_wp2_with (go_at_call 7; refine (HRI.out _).mono ?_; rintro e w4 ⟨rfl, rfl⟩)
                          exact bodyPost_ret (v := .tuple #[.int .i64 (k : Int), .int .i64 (f : Int), .int .i64 (v : Int), .bool true]) (by simp [results, Tryd.results15, go_sem]) rfl ⟨by rw [HRN.out]; rfl, B2.out⟩
                        · rw [decide_eq_false hr] at HRI
                          simp only [if_neg hr] at hrd
                          have HRN := Lib.hid hrd
                          clear hrd hr hDv HRD HG hi
                          go_wp2_with (go_at_call 7; refine (HRI.out _).mono ?_; rintro e w4 ⟨rfl, rfl⟩)
                          exact bodyPost_ret (v := .tuple #[.int .i64 0, .int .i64 0, .int .i64 0, .bool false]) (by simp [results, Tryd.results15, go_sem]) rfl ⟨by rw [HRN.out]; rfl, B2.out⟩
            · rw [decide_eq_false h2] at hte
              rw [if_neg (fun h => h2 (hHF.1 h).2)] at hrf
              have HRN := Lib.hid (hrf.trans hG.symm)
              clear hHF h2 hrf hG hd hds
              go_wp2_with (first
                | (go_at_call 9; refine (HK0.out _).mono ?_; rintro e w1 ⟨rfl, b1⟩)
                | (go_at_call 11; refine (HF0.out _).mono ?_; rintro e w2 ⟨rfl, b2⟩))
              trace_state
              go_roundg mf
              case measure => omega
              case rel => exact ⟨f + 1, by have := HFM.out; omega, by go_num, HRN, Lib.hid (below_next (below_next HBF.out b1) b2)⟩
          · have h1I : (s.size : Int) ≤ (fr.size : Int) := by omega
            rw [if_neg (fun h => h1 (hHF.1 h).1)] at hrf
            have HRN := Lib.hid (hrf.trans hG.symm)
            clear hHF hrf hG hd hds h1
            go_wp2_with (first
              | (go_at_call 9; refine (HK0.out _).mono ?_; rintro e w1 ⟨rfl, b1⟩)
              | (go_at_call 11; refine (HF0.out _).mono ?_; rintro e w2 ⟨rfl, b2⟩))
            go_roundg mf
            case measure => omega
            case rel => exact ⟨f + 1, by have := HFM.out; omega, by go_num, HRN, Lib.hid (below_next (below_next HBF.out b1) b2)⟩
        · obtain rfl : f = 9 := by omega
          have HR2 : Hid (refK s m (k + 1) = R) := Lib.hid (by
            have h := HRK.out
            rw [refK] at h
            rw [← HRF.out, show gk = 0 by omega] at h
            exact h)
          go_wp2_with fail
          go_roundg m
          case measure => omega
          case rel => exact ⟨k + 1, by have := HKM.out; omega, by go_num, HR2, HBF⟩
    · obtain rfl : k = 5 := by omega
      obtain rfl : gk = 0 := by omega
      have HN : Hid (R = none) := Lib.hid HRK.out.symm
      go_wp2_with fail
      exact bodyPost_ret (v := .tuple #[.int .i64 0, .int .i64 0, .int .i64 0, .bool false]) (by simp [results, Tryd.results15, go_sem]) rfl ⟨by rw [HN.out]; rfl, HBK.out⟩
end Go.Proofs.YtakhobmoalfaoaaDoor
