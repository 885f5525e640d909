/- The document's Read of a file of PCX's. -/
import Derived.Test.YtccldalagbfmhaaGreatPcxP
namespace Go.Proofs.YtccldalagbfmhaaGreat
open Go.RowKit
set_option linter.unusedVariables false
set_option linter.unusedSimpArgs false

structure H7P (w0 w : World) (b : Nat) : Prop where
  P : Blk w b 141 #[.int .i64 0, .int .i64 0, .int .i64 0, .int .i64 0, .int .i64 0, .int .i64 0, .int .i64 0]
  B : Below w0.heap.size w0 w
  n : w0.heap.size ≤ b
section
variable {w0 w w' : World} {b : Nat}
theorem H7P.new (w : World) : H7P w (w.alloc (.cells #[.int .i64 0, .int .i64 0, .int .i64 0, .int .i64 0, .int .i64 0, .int .i64 0, .int .i64 0] 141)) w.heap.size := ⟨Blk.new _ _ _, (Below.refl _ _).alloc (Nat.le_refl _) _, Nat.le_refl _⟩
theorem H7P.below (h : H7P w0 w b) (k : Below w.heap.size w w') : H7P w0 w' b := ⟨Blk.below h.P k (Blk.lt h.P), below_next h.B k, h.n⟩
theorem H7P.alloc (h : H7P w0 w b) (o : Obj) : H7P w0 (w.alloc o) b := h.below ((Below.refl _ _).alloc (Nat.le_refl _) _)
theorem H7P.drew (h : H7P w0 w b) : H7P w0 w.drew b := ⟨Blk.drew h.P, h.B.drew, h.n⟩
theorem H7P.drewN (h : H7P w0 w b) (n : Nat) : H7P w0 (w.drewN n) b := ⟨Blk.drewN h.P n, h.B.trans ⟨rfl, rfl, rfl, Nat.le_refl _, fun _ _ => rfl⟩, h.n⟩
theorem H7P.all (h : H7P w0 w b) : w.cell? ⟨b, 0, none⟩ = some (.int .i64 0) ∧ w.cell? ⟨b, 1, none⟩ = some (.int .i64 0) ∧ w.cell? ⟨b, 2, none⟩ = some (.int .i64 0) ∧ w.cell? ⟨b, 3, none⟩ = some (.int .i64 0) ∧ w.cell? ⟨b, 4, none⟩ = some (.int .i64 0) ∧ w.cell? ⟨b, 5, none⟩ = some (.int .i64 0) ∧ w.cell? ⟨b, 6, none⟩ = some (.int .i64 0) ∧ w.frozen? ⟨b, 0, none⟩ = false ∧ w.frozen? ⟨b, 1, none⟩ = false ∧ w.frozen? ⟨b, 2, none⟩ = false ∧ w.frozen? ⟨b, 3, none⟩ = false ∧ w.frozen? ⟨b, 4, none⟩ = false ∧ w.frozen? ⟨b, 5, none⟩ = false ∧ w.frozen? ⟨b, 6, none⟩ = false ∧ b < w.heap.size :=
  ⟨Blk.cell h.P 0, Blk.cell h.P 1, Blk.cell h.P 2, Blk.cell h.P 3, Blk.cell h.P 4, Blk.cell h.P 5, Blk.cell h.P 6, Blk.frozen h.P 0, Blk.frozen h.P 1, Blk.frozen h.P 2, Blk.frozen h.P 3, Blk.frozen h.P 4, Blk.frozen h.P 5, Blk.frozen h.P 6, Blk.lt h.P⟩
theorem H7P.store (h : H7P w0 w b) {u0 u1 u2 u3 u4 u5 u6 : Value} : Below w0.heap.size w0 (((((((w.setCell ⟨b, 0, none⟩ u0).setCell ⟨b, 1, none⟩ u1).setCell ⟨b, 2, none⟩ u2).setCell ⟨b, 3, none⟩ u3).setCell ⟨b, 4, none⟩ u4).setCell ⟨b, 5, none⟩ u5).setCell ⟨b, 6, none⟩ u6) := below_set (below_set (below_set (below_set (below_set (below_set (below_set h.B h.n) h.n) h.n) h.n) h.n) h.n) h.n
end
theorem pcxB_int' (b : ByteArray) {i v : Nat} (h : i < b.size) (hv : bat b i = v) : b[i].toNat = v := by rw [← hv, bat_eq h]
set_option maxRecDepth 100000 in
set_option maxHeartbeats 2000000 in
theorem refPcxRead_short {s : ByteArray} (h : s.size < 128) (w : World) : Calls Tryz.prog 75 #[.string s] w fun e w' => e = .returned (pcxRdV s) ∧ Below w.heap.size w w' := by
  have HF : Hid (pcxRdV s = hdP 0 0 0 0 0 1 (s.size : Int)) := Lib.hid (by
    have e : pcxFault s = some (1, s.size) := by unfold pcxFault; rw [if_pos h]
    unfold pcxRdV
    rw [e]
    rfl)
  have I0 := H7P.new w
  have hI : (s.size : Int) < 128 := by omega
  generalize hws : w.alloc (.cells #[.int .i64 0, .int .i64 0, .int .i64 0, .int .i64 0, .int .i64 0, .int .i64 0, .int .i64 0] 141) = ws at I0
  have HWS := Lib.hid hws
  have HI := Lib.hid I0
  clear I0 hws h
  go_enter Tryz.func75, Tryz.ntmps75
  go_upto_region 1 with fail
  rw [HWS.out]
  go_wp2_with (first | (go_at_call 148; refine (refPcxBad _ _ _).mono ?_; rintro e wb ⟨rfl, bb⟩; unfold hdP; have HB9 := HI.out.below bb; obtain ⟨c0, c1, c2, c3, c4, c5, c6, z0, z1, z2, z3, z4, z5, z6, zl⟩ := HB9.all))
  exact bodyPost_ret (v := hdP 0 0 0 0 0 1 (s.size : Int)) (by simp [results, Tryz.results75, go_sem, c0, c1, c2, c3, c4, c5, c6, hdP]) rfl ⟨by rw [HF.out], HB9.store⟩
set_option maxRecDepth 100000 in
set_option maxHeartbeats 2000000 in
theorem refPcxRead_sign {s : ByteArray} (h : 128 ≤ s.size) (h0 : bat s 0 ≠ 10) (w : World) : Calls Tryz.prog 75 #[.string s] w fun e w' => e = .returned (pcxRdV s) ∧ Below w.heap.size w w' := by
  have HF : Hid (pcxRdV s = hdP 0 0 0 0 0 2 0) := Lib.hid (by
    have e : pcxFault s = some (2, 0) := by unfold pcxFault; rw [if_neg (by omega), pcxHead_if, if_pos h0]
    unfold pcxRdV
    rw [e]
    rfl)
  have I0 := H7P.new w
  have hI : ¬ (s.size : Int) < 128 := by omega
  have n0 : 0 < s.size := by omega
  have j0 : (0 : Int) < (s.size : Int) := by omega
  have n1 : 1 < s.size := by omega
  have j1 : (1 : Int) < (s.size : Int) := by omega
  have n2 : 2 < s.size := by omega
  have j2 : (2 : Int) < (s.size : Int) := by omega
  have e0 : ((s[0].toNat : Nat) : Int) ≠ 10 := by have := bat_eq n0; omega
  generalize hws : w.alloc (.cells #[.int .i64 0, .int .i64 0, .int .i64 0, .int .i64 0, .int .i64 0, .int .i64 0, .int .i64 0] 141) = ws at I0
  have HWS := Lib.hid hws
  have HI := Lib.hid I0
  clear I0 hws h h0
  go_enter Tryz.func75, Tryz.ntmps75
  go_upto_region 1 with fail
  rw [HWS.out]
  go_wp2_with (first | (go_at_call 148; refine (refPcxBad _ _ _).mono ?_; rintro e wb ⟨rfl, bb⟩; unfold hdP; have HB9 := HI.out.below bb; obtain ⟨c0, c1, c2, c3, c4, c5, c6, z0, z1, z2, z3, z4, z5, z6, zl⟩ := HB9.all))
  exact bodyPost_ret (v := hdP 0 0 0 0 0 2 0) (by simp [results, Tryz.results75, go_sem, c0, c1, c2, c3, c4, c5, c6, hdP]) rfl ⟨by rw [HF.out], HB9.store⟩
set_option maxRecDepth 100000 in
set_option maxHeartbeats 2000000 in
theorem refPcxRead_ver {s : ByteArray} (h : 128 ≤ s.size) (h0 : bat s 0 = 10) (h1 : ¬ PcxVer (bat s 1)) (w : World) : Calls Tryz.prog 75 #[.string s] w fun e w' => e = .returned (pcxRdV s) ∧ Below w.heap.size w w' := by
  have HF : Hid (pcxRdV s = hdP 0 0 0 0 0 3 1) := Lib.hid (by
    have e : pcxFault s = some (3, 1) := by unfold pcxFault; rw [if_neg (by omega), pcxHead_if, if_neg (by omega), if_pos h1]
    unfold pcxRdV
    rw [e]
    rfl)
  have I0 := H7P.new w
  have hI : ¬ (s.size : Int) < 128 := by omega
  have n0 : 0 < s.size := by omega
  have j0 : (0 : Int) < (s.size : Int) := by omega
  have n1 : 1 < s.size := by omega
  have j1 : (1 : Int) < (s.size : Int) := by omega
  have n2 : 2 < s.size := by omega
  have j2 : (2 : Int) < (s.size : Int) := by omega
  have e0 : ((s[0].toNat : Nat) : Int) = 10 := by have := bat_eq n0; omega
  have HV := Lib.hid (fun w => refPcxVer (bat s 1) w)
  rw [bat_eq n1] at h1 HV
  rw [decide_eq_false h1] at HV
  generalize hws : w.alloc (.cells #[.int .i64 0, .int .i64 0, .int .i64 0, .int .i64 0, .int .i64 0, .int .i64 0, .int .i64 0] 141) = ws at I0
  have HWS := Lib.hid hws
  have HI := Lib.hid I0
  clear I0 hws h h0 h1
  go_enter Tryz.func75, Tryz.ntmps75
  go_upto_region 1 with fail
  rw [HWS.out]
  go_wp2_with (first | (go_at_call 148; refine (refPcxBad _ _ _).mono ?_; rintro e wb ⟨rfl, bb⟩; unfold hdP; have HB9 := HI.out.below bb; obtain ⟨c0, c1, c2, c3, c4, c5, c6, z0, z1, z2, z3, z4, z5, z6, zl⟩ := HB9.all) | (go_at_call 34; refine (HV.out _).mono ?_; rintro e w9 ⟨rfl, rfl⟩))
  exact bodyPost_ret (v := hdP 0 0 0 0 0 3 1) (by simp [results, Tryz.results75, go_sem, c0, c1, c2, c3, c4, c5, c6, hdP]) rfl ⟨by rw [HF.out], HB9.store⟩
set_option maxRecDepth 100000 in
set_option maxHeartbeats 2000000 in
theorem refPcxRead_run {s : ByteArray} (h : 128 ≤ s.size) (h0 : bat s 0 = 10) (h1 : PcxVer (bat s 1)) (h2 : bat s 2 ≠ 1) (w : World) : Calls Tryz.prog 75 #[.string s] w fun e w' => e = .returned (pcxRdV s) ∧ Below w.heap.size w w' := by
  have HF : Hid (pcxRdV s = hdP 0 0 0 0 0 3 2) := Lib.hid (by
    have e : pcxFault s = some (3, 2) := by unfold pcxFault; rw [if_neg (by omega), pcxHead_if, if_neg (by omega), if_neg (by simpa using h1), if_pos h2]
    unfold pcxRdV
    rw [e]
    rfl)
  have I0 := H7P.new w
  have hI : ¬ (s.size : Int) < 128 := by omega
  have n0 : 0 < s.size := by omega
  have j0 : (0 : Int) < (s.size : Int) := by omega
  have n1 : 1 < s.size := by omega
  have j1 : (1 : Int) < (s.size : Int) := by omega
  have n2 : 2 < s.size := by omega
  have j2 : (2 : Int) < (s.size : Int) := by omega
  have e0 : ((s[0].toNat : Nat) : Int) = 10 := by have := bat_eq n0; omega
  have e2 : ((s[2].toNat : Nat) : Int) ≠ 1 := by have := bat_eq n2; omega
  have HV := Lib.hid (fun w => refPcxVer (bat s 1) w)
  rw [bat_eq n1] at h1 HV
  rw [decide_eq_true h1] at HV
  generalize hws : w.alloc (.cells #[.int .i64 0, .int .i64 0, .int .i64 0, .int .i64 0, .int .i64 0, .int .i64 0, .int .i64 0] 141) = ws at I0
  have HWS := Lib.hid hws
  have HI := Lib.hid I0
  clear I0 hws h h0 h1 h2
  go_enter Tryz.func75, Tryz.ntmps75
  go_upto_region 1 with fail
  rw [HWS.out]
  go_wp2_with (first | (go_at_call 148; refine (refPcxBad _ _ _).mono ?_; rintro e wb ⟨rfl, bb⟩; unfold hdP; have HB9 := HI.out.below bb; obtain ⟨c0, c1, c2, c3, c4, c5, c6, z0, z1, z2, z3, z4, z5, z6, zl⟩ := HB9.all) | (go_at_call 34; refine (HV.out _).mono ?_; rintro e w9 ⟨rfl, rfl⟩))
  exact bodyPost_ret (v := hdP 0 0 0 0 0 3 2) (by simp [results, Tryz.results75, go_sem, c0, c1, c2, c3, c4, c5, c6, hdP]) rfl ⟨by rw [HF.out], HB9.store⟩
set_option maxRecDepth 100000 in
set_option maxHeartbeats 40000000 in
theorem refPcxRead_rest {s : ByteArray} {W H : Int} {d p l : Nat} (h : 128 ≤ s.size) (hsm : s.size ≤ 1099511627776) (h0 : bat s 0 = 10) (h1 : PcxVer (bat s 1)) (h2 : bat s 2 = 1) (eW : pcxW s = W) (eH : pcxH s = H) (ed : bat s 3 = d) (ep : bat s 65 = p) (el : le2 s 66 = l) (w : World) : Calls Tryz.prog 75 #[.string s] w fun e w' => e = .returned (pcxRdV s) ∧ Below w.heap.size w w' := by
  have hF : pcxFault s = (match (if W < 1 then some (2, 8) else if 16384 < W then some (3, 8) else if H < 1 then some (2, 10) else if 16384 < H then some (3, 10) else if ¬ PcxPair d p then some (3, 65) else if l < pcxNeed W d ∨ pcxNeed W d + 3 < l then some (2, 66) else none : Option (Nat × Nat)) with
      | some f => some f
      | none => if d = 8 ∧ p = 1 then (if s.size < 897 then some (1, s.size) else if bat s (s.size - 769) = 12 then none else some (2, s.size - 769)) else none) := by
    unfold pcxFault
    rw [if_neg (by omega), pcxHead_if, if_neg (by omega), if_neg (by simpa using h1), if_neg (by omega), eW, eH, ed, ep, el]
    have e : (pcxHd s).Map ↔ (d = 8 ∧ p = 1) := by unfold PcxHd.Map pcxHd; rw [ed, ep]
    simp only [e]
    rfl
  have hV0 : ∀ f : Nat × Nat, pcxFault s = some f → pcxRdV s = hdP 0 0 0 0 0 (f.1 : Int) (f.2 : Int) := fun f hf => by unfold pcxRdV; rw [hf]
  have hV1 : pcxFault s = none → 1 ≤ W → 1 ≤ H → pcxRdV s = hdP W H (d : Int) (p : Int) (l : Int) 0 0 := fun hf a b => by
    unfold pcxRdV
    rw [hf]
    show hdP ((pcxW s).toNat : Int) ((pcxH s).toNat : Int) (bat s 3 : Int) (bat s 65 : Int) (le2 s 66 : Int) 0 0 = _
    rw [eW, eH, ed, ep, el, Int.toNat_of_nonneg (by omega), Int.toNat_of_nonneg (by omega)]
  have hI : ¬ (s.size : Int) < 128 := by omega
  have n0 : 0 < s.size := by omega
  have j0 : (0 : Int) < (s.size : Int) := by omega
  have n1 : 1 < s.size := by omega
  have j1 : (1 : Int) < (s.size : Int) := by omega
  have n2 : 2 < s.size := by omega
  have j2 : (2 : Int) < (s.size : Int) := by omega
  have e0 : ((s[0].toNat : Nat) : Int) = 10 := by have := bat_eq n0; omega
  have e2 : ((s[2].toNat : Nat) : Int) = 1 := by have := bat_eq n2; omega
  have HV := Lib.hid (fun w => refPcxVer (bat s 1) w)
  rw [bat_eq n1] at h1 HV
  rw [decide_eq_true h1] at HV
  obtain ⟨l8, h8⟩ : ∃ v, le2 s 8 = v := ⟨_, rfl⟩
  obtain ⟨l4, h4⟩ : ∃ v, le2 s 4 = v := ⟨_, rfl⟩
  obtain ⟨l10, h10⟩ : ∃ v, le2 s 10 = v := ⟨_, rfl⟩
  obtain ⟨l6, h6⟩ : ∃ v, le2 s 6 = v := ⟨_, rfl⟩
  have H8 := Lib.hid (fun w => refLe2 (s := s) (a := 8) (by omega) h8 w)
  have H4 := Lib.hid (fun w => refLe2 (s := s) (a := 4) (by omega) h4 w)
  have H10 := Lib.hid (fun w => refLe2 (s := s) (a := 10) (by omega) h10 w)
  have H6 := Lib.hid (fun w => refLe2 (s := s) (a := 6) (by omega) h6 w)
  have H66 := Lib.hid (fun w => refLe2 (s := s) (a := 66) (by omega) el w)
  simp only [Nat.reduceAdd] at H8 H4 H10 H6 H66
  have b8 := le2_lt s 8
  have b4 := le2_lt s 4
  have b10 := le2_lt s 10
  have b6 := le2_lt s 6
  have bl := le2_lt s 66
  have bd := bat_lt s 3
  have bp := bat_lt s 65
  have eW' : (l8 : Int) - (l4 : Int) + 1 = W := by rw [← eW, ← h8, ← h4]; rfl
  have eH' : (l10 : Int) - (l6 : Int) + 1 = H := by rw [← eH, ← h10, ← h6]; rfl
  rw [h8] at b8
  rw [h4] at b4
  rw [h10] at b10
  rw [h6] at b6
  rw [el] at bl
  rw [ed] at bd
  rw [ep] at bp
  have w8 : IntKind.i64.wrap ((l8 : Int) - (l4 : Int)) = (l8 : Int) - (l4 : Int) := IntWalk.i64_in _ (by omega)
  have w10 : IntKind.i64.wrap ((l10 : Int) - (l6 : Int)) = (l10 : Int) - (l6 : Int) := IntWalk.i64_in _ (by omega)
  have wW : IntKind.i64.wrap W = W := IntWalk.i64_in _ (by omega)
  have wH : IntKind.i64.wrap H = H := IntWalk.i64_in _ (by omega)
  have wd : IntKind.i64.wrap (d : Int) = (d : Int) := IntWalk.i64_in _ (by omega)
  have wp : IntKind.i64.wrap (p : Int) = (p : Int) := IntWalk.i64_in _ (by omega)
  have hWB : -65536 ≤ W ∧ W ≤ 65536 := by omega
  have hHB : -65536 ≤ H ∧ H ≤ 65536 := by omega
  have n3 : 3 < s.size := by omega
  have j3 : (3 : Int) < (s.size : Int) := by omega
  have n65 : 65 < s.size := by omega
  have j65 : (65 : Int) < (s.size : Int) := by omega
  have g3 := pcxB_int' s n3 ed
  have g65 := pcxB_int' s n65 ep
  have t10 : (10 : Int) ≤ (s.size : Int) := by omega
  have t6 : (6 : Int) ≤ (s.size : Int) := by omega
  have t12 : (12 : Int) ≤ (s.size : Int) := by omega
  have t8 : (8 : Int) ≤ (s.size : Int) := by omega
  have t68 : (68 : Int) ≤ (s.size : Int) := by omega
  have m10 : 10 ≤ s.size := by omega
  have m6 : 6 ≤ s.size := by omega
  have m12 : 12 ≤ s.size := by omega
  have m8 : 8 ≤ s.size := by omega
  have m68 : 68 ≤ s.size := by omega
  have k0 : IntKind.i64.wrap 0 = 0 := by decide
  have k2 : IntKind.i64.wrap 2 = 2 := by decide
  have k4 : IntKind.i64.wrap 4 = 4 := by decide
  have k6 : IntKind.i64.wrap 6 = 6 := by decide
  have k8 : IntKind.i64.wrap 8 = 8 := by decide
  have k10 : IntKind.i64.wrap 10 = 10 := by decide
  have k12 : IntKind.i64.wrap 12 = 12 := by decide
  have HA : Hid (∃ (a : 3 < s.size) (b : 65 < s.size), s[3].toNat = d ∧ s[65].toNat = p ∧ (3 : Int) < (s.size : Int) ∧ (65 : Int) < (s.size : Int) ∧ IntKind.i64.wrap (d : Int) = (d : Int) ∧ IntKind.i64.wrap (p : Int) = (p : Int)) := Lib.hid ⟨n3, n65, g3, g65, j3, j65, wd, wp⟩
  have HT := Lib.hid (And.intro t10 (And.intro t6 (And.intro t12 (And.intro t8 (And.intro t68 (And.intro m10 (And.intro m6 (And.intro m12 (And.intro m8 m68)))))))))
  have HK := Lib.hid (And.intro k0 (And.intro k2 (And.intro k4 (And.intro k6 (And.intro k8 (And.intro k10 k12))))))
  have HWX := Lib.hid (And.intro w8 (And.intro wW (And.intro eW' hWB)))
  have HHX := Lib.hid (And.intro w10 (And.intro wH (And.intro eH' hHB)))
  clear n3 j3 n65 j65 g3 g65 wd wp t10 t6 t12 t8 t68 m10 m6 m12 m8 m68 k0 k2 k4 k6 k8 k10 k12 w8 wW eW' hWB w10 wH eH' hHB
  have I0 := H7P.new w
  generalize hws : w.alloc (.cells #[.int .i64 0, .int .i64 0, .int .i64 0, .int .i64 0, .int .i64 0, .int .i64 0, .int .i64 0] 141) = ws at I0
  have HWS := Lib.hid hws
  have HI := Lib.hid I0
  have HFF := Lib.hid hF
  have HV0 := Lib.hid hV0
  have HV1 := Lib.hid hV1
  have HS := Lib.hid (And.intro h hsm)
  clear I0 hws h h0 h1 h2 hsm eW eH ed ep el h8 h4 h10 h6 hF hV0 hV1 b8 b4 b10 b6
  go_enter Tryz.func75, Tryz.ntmps75
  go_upto_region 1 with fail
  rw [HWS.out]
  generalize w.heap.size = rbx at HI ⊢
  go_wp2_with (go_at_call 34; refine (HV.out _).mono ?_; rintro e w9 ⟨rfl, rfl⟩)
  go_loopg [3, 4] 2 (fun gh v3 v4 wr => Hid (H7P w wr rbx) ∧ ((gh = 2 ∧ v3 = .int .i64 0) ∨ (gh = 1 ∧ v3 = .int .i64 1 ∧ (1 ≤ W ∧ W ≤ 16384)) ∨ (gh = 0 ∧ v3 = .int .i64 2 ∧ (1 ≤ W ∧ W ≤ 16384) ∧ (1 ≤ H ∧ H ≤ 16384))))
  case atStart => exact ⟨HI, .inl ⟨rfl, rfl⟩⟩
  case round =>
    obtain ⟨HX, ⟨rfl, rfl⟩ | ⟨rfl, rfl, hWk⟩ | ⟨rfl, rfl, hWk, hHk⟩⟩ := hrel
    · clear HI HV e0 e2 hI
      obtain ⟨t10, t6, t12, t8, t68, m10, m6, m12, m8, m68⟩ := HT.out
      obtain ⟨k0, k2, k4, k6, k8, k10, k12⟩ := HK.out
      obtain ⟨w8, wW, eW', hWB⟩ := HWX.out
      clear t68 m68
      go_upto_region 12 with fail
      refine wp_region_held_drew (S := (fun _ => True)) (by kernel_rfl) trivial (fun hHeld => ?_)
      refine wpAnyH_take (i := 0) (v := ?_) rfl (by kernel_rfl) (by kernel_rfl) (by kernel_rfl) (fun _ _ _ h => h) (Or.inl ⟨by kernel_rfl, ?_⟩) (by assumption) ?_
      rotate_left
      · intro w hSw; (try dsimp only at hSw); go_simp; (try with_reducible rfl)
      (try simp only [Act.put, List.getElem_toArray, List.getElem_cons_succ, List.getElem_cons_zero, List.setIfInBounds_toArray, List.set_cons_zero, List.set_cons_succ])
      refine wpAnyH_take (i := 1) (v := ?_) rfl (by kernel_rfl) (by kernel_rfl) (by kernel_rfl) (fun _ _ _ h => h) (Or.inl ⟨by kernel_rfl, ?_⟩) (by assumption) ?_
      rotate_left
      · intro w hSw; (try dsimp only at hSw); go_simp; (try with_reducible rfl)
      (try simp only [Act.put, List.getElem_toArray, List.getElem_cons_succ, List.getElem_cons_zero, List.setIfInBounds_toArray, List.set_cons_zero, List.set_cons_succ])
      refine wpAnyH_take (i := 2) (v := ?_) rfl (by kernel_rfl) (by kernel_rfl) (by kernel_rfl) (fun _ _ _ h => h) (Or.inl ⟨by kernel_rfl, ?_⟩) (by assumption) ?_
      rotate_left
      · intro w hSw; (try dsimp only at hSw); go_simp; (try with_reducible rfl)
      (try simp only [Act.put, List.getElem_toArray, List.getElem_cons_succ, List.getElem_cons_zero, List.setIfInBounds_toArray, List.set_cons_zero, List.set_cons_succ])
      refine wpAnyH_take (i := 3) (v := ?_) rfl (by kernel_rfl) (by kernel_rfl) (by kernel_rfl) (fun _ _ _ h => h) (Or.inl ⟨by kernel_rfl, ?_⟩) (by assumption) ?_
      rotate_left
      · intro w hSw; (try dsimp only at hSw); go_simp; (try with_reducible rfl)
      (try simp only [Act.put, List.getElem_toArray, List.getElem_cons_succ, List.getElem_cons_zero, List.setIfInBounds_toArray, List.set_cons_zero, List.set_cons_succ])
      refine wpAnyH_take (i := 4) (v := ?_) rfl (by kernel_rfl) (by kernel_rfl) (by kernel_rfl) (fun _ _ _ h => h) (Or.inl ⟨by kernel_rfl, ?_⟩) (by assumption) ?_
      rotate_left
      · intro w hSw; (try dsimp only at hSw); go_simp; (try with_reducible rfl)
      (try simp only [Act.put, List.getElem_toArray, List.getElem_cons_succ, List.getElem_cons_zero, List.setIfInBounds_toArray, List.set_cons_zero, List.set_cons_succ])
      refine wpAnyH_take (i := 5) (v := ?_) rfl (by kernel_rfl) (by kernel_rfl) (by kernel_rfl) (fun _ _ _ h => h) (Or.inl ⟨by kernel_rfl, ?_⟩) (by assumption) ?_
      rotate_left
      · intro w hSw; (try dsimp only at hSw); go_simp; (try with_reducible rfl)
      (try simp only [Act.put, List.getElem_toArray, List.getElem_cons_succ, List.getElem_cons_zero, List.setIfInBounds_toArray, List.set_cons_zero, List.set_cons_succ])
      refine wpAnyH_take (i := 6) (v := ?_) rfl (by kernel_rfl) (by kernel_rfl) (by kernel_rfl) (fun _ _ _ h => h) (Or.inl ⟨by kernel_rfl, ?_⟩) (by assumption) ?_
      rotate_left
      · intro w hSw; (try dsimp only at hSw); go_simp; (try with_reducible rfl)
      (try simp only [Act.put, List.getElem_toArray, List.getElem_cons_succ, List.getElem_cons_zero, List.setIfInBounds_toArray, List.set_cons_zero, List.set_cons_succ])
      refine wpAnyH_take (i := 7) (v := ?_) rfl (by kernel_rfl) (by kernel_rfl) (by kernel_rfl) (fun _ _ _ h => h) (Or.inl ⟨by kernel_rfl, ?_⟩) (by assumption) ?_
      rotate_left
      · intro w hSw; (try dsimp only at hSw); go_simp; (try with_reducible rfl)
      (try simp only [Act.put, List.getElem_toArray, List.getElem_cons_succ, List.getElem_cons_zero, List.setIfInBounds_toArray, List.set_cons_zero, List.set_cons_succ])
      refine wpAnyH_take (i := 9) (v := ?_) rfl (by kernel_rfl) (by kernel_rfl) (by kernel_rfl) (fun _ _ _ h => h) (Or.inl ⟨by kernel_rfl, ?_⟩) (by assumption) ?_
      rotate_left
      · intro w hSw; (try dsimp only at hSw); go_simp; (try with_reducible rfl)
      (try simp only [Act.put, List.getElem_toArray, List.getElem_cons_succ, List.getElem_cons_zero, List.setIfInBounds_toArray, List.set_cons_zero, List.set_cons_succ])
      refine wpAnyH_take (i := 10) (v := ?_) rfl (by kernel_rfl) (by kernel_rfl) (by kernel_rfl) (fun _ _ _ h => h) (Or.inl ⟨by kernel_rfl, ?_⟩) (by assumption) ?_
      rotate_left
      · intro w hSw; (try dsimp only at hSw); go_simp; (try with_reducible rfl)
      (try simp only [Act.put, List.getElem_toArray, List.getElem_cons_succ, List.getElem_cons_zero, List.setIfInBounds_toArray, List.set_cons_zero, List.set_cons_succ])
      refine wpAnyH_take (i := 11) (v := ?_) rfl (by kernel_rfl) (by kernel_rfl) (by kernel_rfl) (fun _ _ _ h => h) (Or.inl ⟨by kernel_rfl, ?_⟩) (by assumption) ?_
      rotate_left
      · intro w hSw; (try dsimp only at hSw); go_simp; (try with_reducible rfl)
      (try simp only [Act.put, List.getElem_toArray, List.getElem_cons_succ, List.getElem_cons_zero, List.setIfInBounds_toArray, List.set_cons_zero, List.set_cons_succ])
      refine wpAnyH_take (i := 12) (v := ?_) rfl (by kernel_rfl) (by kernel_rfl) (by kernel_rfl) (fun _ _ _ h => h) (Or.inl ⟨by kernel_rfl, ?_⟩) (by assumption) ?_
      rotate_left
      · intro w hSw; (try dsimp only at hSw); go_simp; (try with_reducible rfl)
      (try simp only [Act.put, List.getElem_toArray, List.getElem_cons_succ, List.getElem_cons_zero, List.setIfInBounds_toArray, List.set_cons_zero, List.set_cons_succ])
      refine wpAnyH_take (i := 13) (v := ?_) rfl (by kernel_rfl) (by kernel_rfl) (by kernel_rfl) (fun _ _ _ h => h) (Or.inl ⟨by kernel_rfl, ?_⟩) (by assumption) ?_
      rotate_left
      · intro w hSw; (try dsimp only at hSw); go_simp; (try with_reducible rfl)
      (try simp only [Act.put, List.getElem_toArray, List.getElem_cons_succ, List.getElem_cons_zero, List.setIfInBounds_toArray, List.set_cons_zero, List.set_cons_succ])
      refine wpAnyH_take (i := 14) (v := ?_) rfl (by kernel_rfl) (by kernel_rfl) (by kernel_rfl) (fun _ _ _ h => h) (Or.inl ⟨by kernel_rfl, ?_⟩) (by assumption) ?_
      rotate_left
      · intro w hSw; (try dsimp only at hSw); go_simp; (try with_reducible rfl)
      (try simp only [Act.put, List.getElem_toArray, List.getElem_cons_succ, List.getElem_cons_zero, List.setIfInBounds_toArray, List.set_cons_zero, List.set_cons_succ])
      refine wpAnyH_take (i := 15) (v := ?_) rfl (by kernel_rfl) (by kernel_rfl) (by kernel_rfl) (fun _ _ _ h => h) (Or.inl ⟨by kernel_rfl, ?_⟩) (by assumption) ?_
      rotate_left
      · intro w hSw; (try dsimp only at hSw); go_simp; (try with_reducible rfl)
      (try simp only [Act.put, List.getElem_toArray, List.getElem_cons_succ, List.getElem_cons_zero, List.setIfInBounds_toArray, List.set_cons_zero, List.set_cons_succ])
      refine wpAnyH_take (i := 16) (v := ?_) rfl (by kernel_rfl) (by kernel_rfl) (by kernel_rfl) (fun _ _ _ h => h) (Or.inl ⟨by kernel_rfl, ?_⟩) (by assumption) ?_
      rotate_left
      · intro w hSw; (try dsimp only at hSw); go_simp; (try with_reducible rfl)
      (try simp only [Act.put, List.getElem_toArray, List.getElem_cons_succ, List.getElem_cons_zero, List.setIfInBounds_toArray, List.set_cons_zero, List.set_cons_succ])
      refine wpAnyH_ready (rs := [8]) (by kernel_rfl) (by simp) ?_
      refine AllReadyH.cons rfl (fun K hK => ?_) AllReadyH.nil
      go_simp
      refine (H8.out _).mono ?_
      rintro e w9 ⟨rfl, rfl⟩
      refine hK.out _ _ trivial (fun hHeld' => ?_)
      clear hK K hHeld
      have hHeld := hHeld'
      clear hHeld'
      (try simp only [Act.put, List.getElem_toArray, List.getElem_cons_succ, List.getElem_cons_zero, List.setIfInBounds_toArray, List.set_cons_zero, List.set_cons_succ])
      refine wpAnyH_ready (rs := [17]) (by kernel_rfl) (by simp) ?_
      refine AllReadyH.cons rfl (fun K hK => ?_) AllReadyH.nil
      go_simp
      refine (H4.out _).mono ?_
      rintro e w9 ⟨rfl, rfl⟩
      refine hK.out _ _ trivial (fun hHeld' => ?_)
      clear hK K hHeld
      have hHeld := hHeld'
      clear hHeld'
      (try simp only [Act.put, List.getElem_toArray, List.getElem_cons_succ, List.getElem_cons_zero, List.setIfInBounds_toArray, List.set_cons_zero, List.set_cons_succ])
      refine wpAnyH_take (i := 18) (v := ?_) rfl (by kernel_rfl) (by kernel_rfl) (by kernel_rfl) (fun _ _ _ h => h) (Or.inl ⟨by kernel_rfl, ?_⟩) (by assumption) ?_
      rotate_left
      · intro w hSw; (try dsimp only at hSw); go_simp; (try with_reducible rfl)
      (try simp only [Act.put, List.getElem_toArray, List.getElem_cons_succ, List.getElem_cons_zero, List.setIfInBounds_toArray, List.set_cons_zero, List.set_cons_succ])
      refine wpAnyH_take (i := 19) (v := ?_) rfl (by kernel_rfl) (by kernel_rfl) (by kernel_rfl) (fun _ _ _ h => h) (Or.inl ⟨by kernel_rfl, ?_⟩) (by assumption) ?_
      rotate_left
      · intro w hSw; (try dsimp only at hSw); go_simp; (try with_reducible rfl)
      (try simp only [Act.put, List.getElem_toArray, List.getElem_cons_succ, List.getElem_cons_zero, List.setIfInBounds_toArray, List.set_cons_zero, List.set_cons_succ])
      refine wpAnyH_take (i := 20) (v := ?_) rfl (by kernel_rfl) (by kernel_rfl) (by kernel_rfl) (fun _ _ _ h => h) (Or.inl ⟨by kernel_rfl, ?_⟩) (by assumption) ?_
      rotate_left
      · intro w hSw; (try dsimp only at hSw); go_simp; (try with_reducible rfl)
      (try simp only [Act.put, List.getElem_toArray, List.getElem_cons_succ, List.getElem_cons_zero, List.setIfInBounds_toArray, List.set_cons_zero, List.set_cons_succ])
      refine wpAnyH_done (by kernel_rfl) ?_ _
      (try simp only [List.getElem_toArray, List.getElem_cons_succ, List.getElem_cons_zero, List.set_cons_zero, List.set_cons_succ])
      have HXD : Hid (H7P w wr.drew rbx) := Lib.hid HX.out.drew
      generalize wr.drew = wd at HXD ⊢
      by_cases hv1 : W < 1
      · have HF : Hid (pcxRdV s = hdP 0 0 0 0 0 2 8) := Lib.hid (HV0.out (2, 8) (by rw [HFF.out, if_pos hv1]))
        go_wp2_with (go_at_call 148; refine (refPcxBad _ _ _).mono ?_; rintro e wb ⟨rfl, bb⟩; unfold hdP; have HB9 := HXD.out.below bb; obtain ⟨c0, c1, c2, c3, c4, c5, c6, z0, z1, z2, z3, z4, z5, z6, zl⟩ := HB9.all)
        exact bodyPost_ret (v := hdP 0 0 0 0 0 2 8) (by simp [results, Tryz.results75, go_sem, c0, c1, c2, c3, c4, c5, c6, hdP]) rfl ⟨by rw [HF.out], HB9.store⟩
      · by_cases hv2 : 16384 < W
        · have HF : Hid (pcxRdV s = hdP 0 0 0 0 0 3 8) := Lib.hid (HV0.out (3, 8) (by rw [HFF.out, if_neg hv1, if_pos hv2]))
          go_wp2_with (go_at_call 148; refine (refPcxBad _ _ _).mono ?_; rintro e wb ⟨rfl, bb⟩; unfold hdP; have HB9 := HXD.out.below bb; obtain ⟨c0, c1, c2, c3, c4, c5, c6, z0, z1, z2, z3, z4, z5, z6, zl⟩ := HB9.all)
          exact bodyPost_ret (v := hdP 0 0 0 0 0 3 8) (by simp [results, Tryz.results75, go_sem, c0, c1, c2, c3, c4, c5, c6, hdP]) rfl ⟨by rw [HF.out], HB9.store⟩
        · go_wp2_with fail
          go_roundg 1
          case measure => decide
          case rel => exact ⟨HXD, .inr (.inl ⟨rfl, rfl, by omega, by omega⟩)⟩
    · clear HI HV e0 e2 hI
      obtain ⟨t10, t6, t12, t8, t68, m10, m6, m12, m8, m68⟩ := HT.out
      obtain ⟨k0, k2, k4, k6, k8, k10, k12⟩ := HK.out
      obtain ⟨w10, wH, eH', hHB⟩ := HHX.out
      clear t68 m68
      go_upto_region 12 with fail
      refine wp_region_held_drew (S := (fun _ => True)) (by kernel_rfl) trivial (fun hHeld => ?_)
      refine wpAnyH_take (i := 0) (v := ?_) rfl (by kernel_rfl) (by kernel_rfl) (by kernel_rfl) (fun _ _ _ h => h) (Or.inl ⟨by kernel_rfl, ?_⟩) (by assumption) ?_
      rotate_left
      · intro w hSw; (try dsimp only at hSw); go_simp; (try with_reducible rfl)
      (try simp only [Act.put, List.getElem_toArray, List.getElem_cons_succ, List.getElem_cons_zero, List.setIfInBounds_toArray, List.set_cons_zero, List.set_cons_succ])
      refine wpAnyH_take (i := 1) (v := ?_) rfl (by kernel_rfl) (by kernel_rfl) (by kernel_rfl) (fun _ _ _ h => h) (Or.inl ⟨by kernel_rfl, ?_⟩) (by assumption) ?_
      rotate_left
      · intro w hSw; (try dsimp only at hSw); go_simp; (try with_reducible rfl)
      (try simp only [Act.put, List.getElem_toArray, List.getElem_cons_succ, List.getElem_cons_zero, List.setIfInBounds_toArray, List.set_cons_zero, List.set_cons_succ])
      refine wpAnyH_take (i := 2) (v := ?_) rfl (by kernel_rfl) (by kernel_rfl) (by kernel_rfl) (fun _ _ _ h => h) (Or.inl ⟨by kernel_rfl, ?_⟩) (by assumption) ?_
      rotate_left
      · intro w hSw; (try dsimp only at hSw); go_simp; (try with_reducible rfl)
      (try simp only [Act.put, List.getElem_toArray, List.getElem_cons_succ, List.getElem_cons_zero, List.setIfInBounds_toArray, List.set_cons_zero, List.set_cons_succ])
      refine wpAnyH_take (i := 3) (v := ?_) rfl (by kernel_rfl) (by kernel_rfl) (by kernel_rfl) (fun _ _ _ h => h) (Or.inl ⟨by kernel_rfl, ?_⟩) (by assumption) ?_
      rotate_left
      · intro w hSw; (try dsimp only at hSw); go_simp; (try with_reducible rfl)
      (try simp only [Act.put, List.getElem_toArray, List.getElem_cons_succ, List.getElem_cons_zero, List.setIfInBounds_toArray, List.set_cons_zero, List.set_cons_succ])
      refine wpAnyH_take (i := 4) (v := ?_) rfl (by kernel_rfl) (by kernel_rfl) (by kernel_rfl) (fun _ _ _ h => h) (Or.inl ⟨by kernel_rfl, ?_⟩) (by assumption) ?_
      rotate_left
      · intro w hSw; (try dsimp only at hSw); go_simp; (try with_reducible rfl)
      (try simp only [Act.put, List.getElem_toArray, List.getElem_cons_succ, List.getElem_cons_zero, List.setIfInBounds_toArray, List.set_cons_zero, List.set_cons_succ])
      refine wpAnyH_take (i := 5) (v := ?_) rfl (by kernel_rfl) (by kernel_rfl) (by kernel_rfl) (fun _ _ _ h => h) (Or.inl ⟨by kernel_rfl, ?_⟩) (by assumption) ?_
      rotate_left
      · intro w hSw; (try dsimp only at hSw); go_simp; (try with_reducible rfl)
      (try simp only [Act.put, List.getElem_toArray, List.getElem_cons_succ, List.getElem_cons_zero, List.setIfInBounds_toArray, List.set_cons_zero, List.set_cons_succ])
      refine wpAnyH_take (i := 6) (v := ?_) rfl (by kernel_rfl) (by kernel_rfl) (by kernel_rfl) (fun _ _ _ h => h) (Or.inl ⟨by kernel_rfl, ?_⟩) (by assumption) ?_
      rotate_left
      · intro w hSw; (try dsimp only at hSw); go_simp; (try with_reducible rfl)
      (try simp only [Act.put, List.getElem_toArray, List.getElem_cons_succ, List.getElem_cons_zero, List.setIfInBounds_toArray, List.set_cons_zero, List.set_cons_succ])
      refine wpAnyH_take (i := 7) (v := ?_) rfl (by kernel_rfl) (by kernel_rfl) (by kernel_rfl) (fun _ _ _ h => h) (Or.inl ⟨by kernel_rfl, ?_⟩) (by assumption) ?_
      rotate_left
      · intro w hSw; (try dsimp only at hSw); go_simp; (try with_reducible rfl)
      (try simp only [Act.put, List.getElem_toArray, List.getElem_cons_succ, List.getElem_cons_zero, List.setIfInBounds_toArray, List.set_cons_zero, List.set_cons_succ])
      refine wpAnyH_take (i := 9) (v := ?_) rfl (by kernel_rfl) (by kernel_rfl) (by kernel_rfl) (fun _ _ _ h => h) (Or.inl ⟨by kernel_rfl, ?_⟩) (by assumption) ?_
      rotate_left
      · intro w hSw; (try dsimp only at hSw); go_simp; (try with_reducible rfl)
      (try simp only [Act.put, List.getElem_toArray, List.getElem_cons_succ, List.getElem_cons_zero, List.setIfInBounds_toArray, List.set_cons_zero, List.set_cons_succ])
      refine wpAnyH_take (i := 10) (v := ?_) rfl (by kernel_rfl) (by kernel_rfl) (by kernel_rfl) (fun _ _ _ h => h) (Or.inl ⟨by kernel_rfl, ?_⟩) (by assumption) ?_
      rotate_left
      · intro w hSw; (try dsimp only at hSw); go_simp; (try with_reducible rfl)
      (try simp only [Act.put, List.getElem_toArray, List.getElem_cons_succ, List.getElem_cons_zero, List.setIfInBounds_toArray, List.set_cons_zero, List.set_cons_succ])
      refine wpAnyH_take (i := 11) (v := ?_) rfl (by kernel_rfl) (by kernel_rfl) (by kernel_rfl) (fun _ _ _ h => h) (Or.inl ⟨by kernel_rfl, ?_⟩) (by assumption) ?_
      rotate_left
      · intro w hSw; (try dsimp only at hSw); go_simp; (try with_reducible rfl)
      (try simp only [Act.put, List.getElem_toArray, List.getElem_cons_succ, List.getElem_cons_zero, List.setIfInBounds_toArray, List.set_cons_zero, List.set_cons_succ])
      refine wpAnyH_take (i := 12) (v := ?_) rfl (by kernel_rfl) (by kernel_rfl) (by kernel_rfl) (fun _ _ _ h => h) (Or.inl ⟨by kernel_rfl, ?_⟩) (by assumption) ?_
      rotate_left
      · intro w hSw; (try dsimp only at hSw); go_simp; (try with_reducible rfl)
      (try simp only [Act.put, List.getElem_toArray, List.getElem_cons_succ, List.getElem_cons_zero, List.setIfInBounds_toArray, List.set_cons_zero, List.set_cons_succ])
      refine wpAnyH_take (i := 13) (v := ?_) rfl (by kernel_rfl) (by kernel_rfl) (by kernel_rfl) (fun _ _ _ h => h) (Or.inl ⟨by kernel_rfl, ?_⟩) (by assumption) ?_
      rotate_left
      · intro w hSw; (try dsimp only at hSw); go_simp; (try with_reducible rfl)
      (try simp only [Act.put, List.getElem_toArray, List.getElem_cons_succ, List.getElem_cons_zero, List.setIfInBounds_toArray, List.set_cons_zero, List.set_cons_succ])
      refine wpAnyH_take (i := 14) (v := ?_) rfl (by kernel_rfl) (by kernel_rfl) (by kernel_rfl) (fun _ _ _ h => h) (Or.inl ⟨by kernel_rfl, ?_⟩) (by assumption) ?_
      rotate_left
      · intro w hSw; (try dsimp only at hSw); go_simp; (try with_reducible rfl)
      (try simp only [Act.put, List.getElem_toArray, List.getElem_cons_succ, List.getElem_cons_zero, List.setIfInBounds_toArray, List.set_cons_zero, List.set_cons_succ])
      refine wpAnyH_take (i := 15) (v := ?_) rfl (by kernel_rfl) (by kernel_rfl) (by kernel_rfl) (fun _ _ _ h => h) (Or.inl ⟨by kernel_rfl, ?_⟩) (by assumption) ?_
      rotate_left
      · intro w hSw; (try dsimp only at hSw); go_simp; (try with_reducible rfl)
      (try simp only [Act.put, List.getElem_toArray, List.getElem_cons_succ, List.getElem_cons_zero, List.setIfInBounds_toArray, List.set_cons_zero, List.set_cons_succ])
      refine wpAnyH_take (i := 16) (v := ?_) rfl (by kernel_rfl) (by kernel_rfl) (by kernel_rfl) (fun _ _ _ h => h) (Or.inl ⟨by kernel_rfl, ?_⟩) (by assumption) ?_
      rotate_left
      · intro w hSw; (try dsimp only at hSw); go_simp; (try with_reducible rfl)
      (try simp only [Act.put, List.getElem_toArray, List.getElem_cons_succ, List.getElem_cons_zero, List.setIfInBounds_toArray, List.set_cons_zero, List.set_cons_succ])
      refine wpAnyH_ready (rs := [8]) (by kernel_rfl) (by simp) ?_
      refine AllReadyH.cons rfl (fun K hK => ?_) AllReadyH.nil
      go_simp
      refine (H10.out _).mono ?_
      rintro e w9 ⟨rfl, rfl⟩
      refine hK.out _ _ trivial (fun hHeld' => ?_)
      clear hK K hHeld
      have hHeld := hHeld'
      clear hHeld'
      (try simp only [Act.put, List.getElem_toArray, List.getElem_cons_succ, List.getElem_cons_zero, List.setIfInBounds_toArray, List.set_cons_zero, List.set_cons_succ])
      refine wpAnyH_ready (rs := [17]) (by kernel_rfl) (by simp) ?_
      refine AllReadyH.cons rfl (fun K hK => ?_) AllReadyH.nil
      go_simp
      refine (H6.out _).mono ?_
      rintro e w9 ⟨rfl, rfl⟩
      refine hK.out _ _ trivial (fun hHeld' => ?_)
      clear hK K hHeld
      have hHeld := hHeld'
      clear hHeld'
      (try simp only [Act.put, List.getElem_toArray, List.getElem_cons_succ, List.getElem_cons_zero, List.setIfInBounds_toArray, List.set_cons_zero, List.set_cons_succ])
      refine wpAnyH_take (i := 18) (v := ?_) rfl (by kernel_rfl) (by kernel_rfl) (by kernel_rfl) (fun _ _ _ h => h) (Or.inl ⟨by kernel_rfl, ?_⟩) (by assumption) ?_
      rotate_left
      · intro w hSw; (try dsimp only at hSw); go_simp; (try with_reducible rfl)
      (try simp only [Act.put, List.getElem_toArray, List.getElem_cons_succ, List.getElem_cons_zero, List.setIfInBounds_toArray, List.set_cons_zero, List.set_cons_succ])
      refine wpAnyH_take (i := 19) (v := ?_) rfl (by kernel_rfl) (by kernel_rfl) (by kernel_rfl) (fun _ _ _ h => h) (Or.inl ⟨by kernel_rfl, ?_⟩) (by assumption) ?_
      rotate_left
      · intro w hSw; (try dsimp only at hSw); go_simp; (try with_reducible rfl)
      (try simp only [Act.put, List.getElem_toArray, List.getElem_cons_succ, List.getElem_cons_zero, List.setIfInBounds_toArray, List.set_cons_zero, List.set_cons_succ])
      refine wpAnyH_take (i := 20) (v := ?_) rfl (by kernel_rfl) (by kernel_rfl) (by kernel_rfl) (fun _ _ _ h => h) (Or.inl ⟨by kernel_rfl, ?_⟩) (by assumption) ?_
      rotate_left
      · intro w hSw; (try dsimp only at hSw); go_simp; (try with_reducible rfl)
      (try simp only [Act.put, List.getElem_toArray, List.getElem_cons_succ, List.getElem_cons_zero, List.setIfInBounds_toArray, List.set_cons_zero, List.set_cons_succ])
      refine wpAnyH_done (by kernel_rfl) ?_ _
      (try simp only [List.getElem_toArray, List.getElem_cons_succ, List.getElem_cons_zero, List.set_cons_zero, List.set_cons_succ])
      have HXD : Hid (H7P w wr.drew rbx) := Lib.hid HX.out.drew
      generalize wr.drew = wd at HXD ⊢
      by_cases hv1 : H < 1
      · have HF : Hid (pcxRdV s = hdP 0 0 0 0 0 2 10) := Lib.hid (HV0.out (2, 10) (by rw [HFF.out, if_neg (by omega), if_neg (by omega), if_pos hv1]))
        go_wp2_with (go_at_call 148; refine (refPcxBad _ _ _).mono ?_; rintro e wb ⟨rfl, bb⟩; unfold hdP; have HB9 := HXD.out.below bb; obtain ⟨c0, c1, c2, c3, c4, c5, c6, z0, z1, z2, z3, z4, z5, z6, zl⟩ := HB9.all)
        exact bodyPost_ret (v := hdP 0 0 0 0 0 2 10) (by simp [results, Tryz.results75, go_sem, c0, c1, c2, c3, c4, c5, c6, hdP]) rfl ⟨by rw [HF.out], HB9.store⟩
      · by_cases hv2 : 16384 < H
        · have HF : Hid (pcxRdV s = hdP 0 0 0 0 0 3 10) := Lib.hid (HV0.out (3, 10) (by rw [HFF.out, if_neg (by omega), if_neg (by omega), if_neg hv1, if_pos hv2]))
          go_wp2_with (go_at_call 148; refine (refPcxBad _ _ _).mono ?_; rintro e wb ⟨rfl, bb⟩; unfold hdP; have HB9 := HXD.out.below bb; obtain ⟨c0, c1, c2, c3, c4, c5, c6, z0, z1, z2, z3, z4, z5, z6, zl⟩ := HB9.all)
          exact bodyPost_ret (v := hdP 0 0 0 0 0 3 10) (by simp [results, Tryz.results75, go_sem, c0, c1, c2, c3, c4, c5, c6, hdP]) rfl ⟨by rw [HF.out], HB9.store⟩
        · go_wp2_with fail
          go_roundg 0
          case measure => decide
          case rel => exact ⟨HXD, .inr (.inr ⟨rfl, rfl, hWk, by omega, by omega⟩)⟩
    · clear HI HV e0 e2 hI
      obtain ⟨t10, t6, t12, t8, t68, m10, m6, m12, m8, m68⟩ := HT.out
      obtain ⟨w8, wW, eW', hWB⟩ := HWX.out
      obtain ⟨w10, wH, eH', hHB⟩ := HHX.out
      obtain ⟨n3, n65, g3, g65, j3, j65, wd, wp⟩ := HA.out
      go_upto_region 17 with fail
      go_cut [5] from 62 to 87 (fun c5 wx => ∃ hb, c5 = .pointer (some ⟨hb, 0, none⟩) ∧ Hid (H7P w wx rbx ∧ Blk wx hb 141 #[.int .i64 W, .int .i64 H, .int .i64 (d : Int), .int .i64 (p : Int), .int .i64 (l : Int), .int .i64 0, .int .i64 0]))
      case first =>
        refine wp_region_held_drew (S := (fun _ => True)) (by kernel_rfl) trivial (fun hHeld => ?_)
        refine wpAnyH_take (i := 0) (v := ?_) rfl (by kernel_rfl) (by kernel_rfl) (by kernel_rfl) (fun _ _ _ h => h) (Or.inl ⟨by kernel_rfl, ?_⟩) (by assumption) ?_
        rotate_left
        · intro w hSw; (try dsimp only at hSw); go_simp; (try with_reducible rfl)
        (try simp only [Act.put, List.getElem_toArray, List.getElem_cons_succ, List.getElem_cons_zero, List.setIfInBounds_toArray, List.set_cons_zero, List.set_cons_succ])
        refine wpAnyH_take (i := 1) (v := ?_) rfl (by kernel_rfl) (by kernel_rfl) (by kernel_rfl) (fun _ _ _ h => h) (Or.inl ⟨by kernel_rfl, ?_⟩) (by assumption) ?_
        rotate_left
        · intro w hSw; (try dsimp only at hSw); go_simp; (try with_reducible rfl)
        (try simp only [Act.put, List.getElem_toArray, List.getElem_cons_succ, List.getElem_cons_zero, List.setIfInBounds_toArray, List.set_cons_zero, List.set_cons_succ])
        refine wpAnyH_take (i := 3) (v := ?_) rfl (by kernel_rfl) (by kernel_rfl) (by kernel_rfl) (fun _ _ _ h => h) (Or.inl ⟨by kernel_rfl, ?_⟩) (by assumption) ?_
        rotate_left
        · intro w hSw; (try dsimp only at hSw); go_simp; (try with_reducible rfl)
        (try simp only [Act.put, List.getElem_toArray, List.getElem_cons_succ, List.getElem_cons_zero, List.setIfInBounds_toArray, List.set_cons_zero, List.set_cons_succ])
        refine wpAnyH_take (i := 4) (v := ?_) rfl (by kernel_rfl) (by kernel_rfl) (by kernel_rfl) (fun _ _ _ h => h) (Or.inl ⟨by kernel_rfl, ?_⟩) (by assumption) ?_
        rotate_left
        · intro w hSw; (try dsimp only at hSw); go_simp; (try with_reducible rfl)
        (try simp only [Act.put, List.getElem_toArray, List.getElem_cons_succ, List.getElem_cons_zero, List.setIfInBounds_toArray, List.set_cons_zero, List.set_cons_succ])
        refine wpAnyH_take (i := 8) (v := ?_) rfl (by kernel_rfl) (by kernel_rfl) (by kernel_rfl) (fun _ _ _ h => h) (Or.inl ⟨by kernel_rfl, ?_⟩) (by assumption) ?_
        rotate_left
        · intro w hSw; (try dsimp only at hSw); go_simp; (try with_reducible rfl)
        (try simp only [Act.put, List.getElem_toArray, List.getElem_cons_succ, List.getElem_cons_zero, List.setIfInBounds_toArray, List.set_cons_zero, List.set_cons_succ])
        refine wpAnyH_take (i := 9) (v := ?_) rfl (by kernel_rfl) (by kernel_rfl) (by kernel_rfl) (fun _ _ _ h => h) (Or.inl ⟨by kernel_rfl, ?_⟩) (by assumption) ?_
        rotate_left
        · intro w hSw; (try dsimp only at hSw); go_simp; (try with_reducible rfl)
        (try simp only [Act.put, List.getElem_toArray, List.getElem_cons_succ, List.getElem_cons_zero, List.setIfInBounds_toArray, List.set_cons_zero, List.set_cons_succ])
        refine wpAnyH_take (i := 11) (v := ?_) rfl (by kernel_rfl) (by kernel_rfl) (by kernel_rfl) (fun _ _ _ h => h) (Or.inl ⟨by kernel_rfl, ?_⟩) (by assumption) ?_
        rotate_left
        · intro w hSw; (try dsimp only at hSw); go_simp; (try with_reducible rfl)
        (try simp only [Act.put, List.getElem_toArray, List.getElem_cons_succ, List.getElem_cons_zero, List.setIfInBounds_toArray, List.set_cons_zero, List.set_cons_succ])
        refine wpAnyH_take (i := 12) (v := ?_) rfl (by kernel_rfl) (by kernel_rfl) (by kernel_rfl) (fun _ _ _ h => h) (Or.inl ⟨by kernel_rfl, ?_⟩) (by assumption) ?_
        rotate_left
        · intro w hSw; (try dsimp only at hSw); go_simp; (try with_reducible rfl)
        (try simp only [Act.put, List.getElem_toArray, List.getElem_cons_succ, List.getElem_cons_zero, List.setIfInBounds_toArray, List.set_cons_zero, List.set_cons_succ])
        refine wpAnyH_take (i := 16) (v := ?_) rfl (by kernel_rfl) (by kernel_rfl) (by kernel_rfl) (fun _ _ _ h => h) (Or.inl ⟨by kernel_rfl, ?_⟩) (by assumption) ?_
        rotate_left
        · intro w hSw; (try dsimp only at hSw); go_simp; (try with_reducible rfl)
        (try simp only [Act.put, List.getElem_toArray, List.getElem_cons_succ, List.getElem_cons_zero, List.setIfInBounds_toArray, List.set_cons_zero, List.set_cons_succ])
        refine wpAnyH_take (i := 17) (v := ?_) rfl (by kernel_rfl) (by kernel_rfl) (by kernel_rfl) (fun _ _ _ h => h) (Or.inl ⟨by kernel_rfl, ?_⟩) (by assumption) ?_
        rotate_left
        · intro w hSw; (try dsimp only at hSw); go_simp; (try with_reducible rfl)
        (try simp only [Act.put, List.getElem_toArray, List.getElem_cons_succ, List.getElem_cons_zero, List.setIfInBounds_toArray, List.set_cons_zero, List.set_cons_succ])
        refine wpAnyH_take (i := 18) (v := ?_) rfl (by kernel_rfl) (by kernel_rfl) (by kernel_rfl) (fun _ _ _ h => h) (Or.inl ⟨by kernel_rfl, ?_⟩) (by assumption) ?_
        rotate_left
        · intro w hSw; (try dsimp only at hSw); go_simp; (try with_reducible rfl)
        (try simp only [Act.put, List.getElem_toArray, List.getElem_cons_succ, List.getElem_cons_zero, List.setIfInBounds_toArray, List.set_cons_zero, List.set_cons_succ])
        refine wpAnyH_take (i := 19) (v := ?_) rfl (by kernel_rfl) (by kernel_rfl) (by kernel_rfl) (fun _ _ _ h => h) (Or.inl ⟨by kernel_rfl, ?_⟩) (by assumption) ?_
        rotate_left
        · intro w hSw; (try dsimp only at hSw); go_simp; (try with_reducible rfl)
        (try simp only [Act.put, List.getElem_toArray, List.getElem_cons_succ, List.getElem_cons_zero, List.setIfInBounds_toArray, List.set_cons_zero, List.set_cons_succ])
        refine wpAnyH_take (i := 20) (v := ?_) rfl (by kernel_rfl) (by kernel_rfl) (by kernel_rfl) (fun _ _ _ h => h) (Or.inl ⟨by kernel_rfl, ?_⟩) (by assumption) ?_
        rotate_left
        · intro w hSw; (try dsimp only at hSw); go_simp; (try with_reducible rfl)
        (try simp only [Act.put, List.getElem_toArray, List.getElem_cons_succ, List.getElem_cons_zero, List.setIfInBounds_toArray, List.set_cons_zero, List.set_cons_succ])
        refine wpAnyH_take (i := 21) (v := ?_) rfl (by kernel_rfl) (by kernel_rfl) (by kernel_rfl) (fun _ _ _ h => h) (Or.inl ⟨by kernel_rfl, ?_⟩) (by assumption) ?_
        rotate_left
        · intro w hSw; (try dsimp only at hSw); go_simp; (try with_reducible rfl)
        (try simp only [Act.put, List.getElem_toArray, List.getElem_cons_succ, List.getElem_cons_zero, List.setIfInBounds_toArray, List.set_cons_zero, List.set_cons_succ])
        refine wpAnyH_take (i := 22) (v := ?_) rfl (by kernel_rfl) (by kernel_rfl) (by kernel_rfl) (fun _ _ _ h => h) (Or.inl ⟨by kernel_rfl, ?_⟩) (by assumption) ?_
        rotate_left
        · intro w hSw; (try dsimp only at hSw); go_simp; (try with_reducible rfl)
        (try simp only [Act.put, List.getElem_toArray, List.getElem_cons_succ, List.getElem_cons_zero, List.setIfInBounds_toArray, List.set_cons_zero, List.set_cons_succ])
        refine wpAnyH_take (i := 23) (v := ?_) rfl (by kernel_rfl) (by kernel_rfl) (by kernel_rfl) (fun _ _ _ h => h) (Or.inl ⟨by kernel_rfl, ?_⟩) (by assumption) ?_
        rotate_left
        · intro w hSw; (try dsimp only at hSw); go_simp; (try with_reducible rfl)
        (try simp only [Act.put, List.getElem_toArray, List.getElem_cons_succ, List.getElem_cons_zero, List.setIfInBounds_toArray, List.set_cons_zero, List.set_cons_succ])
        refine wpAnyH_ready (rs := [2, 26]) (by kernel_rfl) (by simp) ?_
        refine AllReadyH.cons rfl (fun K hK => ?_) (AllReadyH.cons rfl (fun K hK => ?_) AllReadyH.nil)
        · go_simp
          refine (H8.out _).mono ?_
          rintro e w9 ⟨rfl, rfl⟩
          refine hK.out _ _ trivial (fun hHeld' => ?_)
          clear hK K hHeld
          have hHeld := hHeld'
          clear hHeld'
          (try simp only [Act.put, List.getElem_toArray, List.getElem_cons_succ, List.getElem_cons_zero, List.setIfInBounds_toArray, List.set_cons_zero, List.set_cons_succ])
          refine wpAnyH_ready (rs := [5, 26]) (by kernel_rfl) (by simp) ?_
          refine AllReadyH.cons rfl (fun K hK => ?_) (AllReadyH.cons rfl (fun K hK => ?_) AllReadyH.nil)
          · go_simp
            refine (H4.out _).mono ?_
            rintro e w9 ⟨rfl, rfl⟩
            refine hK.out _ _ trivial (fun hHeld' => ?_)
            clear hK K hHeld
            have hHeld := hHeld'
            clear hHeld'
            (try simp only [Act.put, List.getElem_toArray, List.getElem_cons_succ, List.getElem_cons_zero, List.setIfInBounds_toArray, List.set_cons_zero, List.set_cons_succ])
            refine wpAnyH_take (i := 6) (v := ?_) rfl (by kernel_rfl) (by kernel_rfl) (by kernel_rfl) (fun _ _ _ h => h) (Or.inl ⟨by kernel_rfl, ?_⟩) (by assumption) ?_
            rotate_left
            · intro w hSw; (try dsimp only at hSw); go_simp; (try with_reducible rfl)
            (try simp only [Act.put, List.getElem_toArray, List.getElem_cons_succ, List.getElem_cons_zero, List.setIfInBounds_toArray, List.set_cons_zero, List.set_cons_succ])
            refine wpAnyH_take (i := 7) (v := ?_) rfl (by kernel_rfl) (by kernel_rfl) (by kernel_rfl) (fun _ _ _ h => h) (Or.inl ⟨by kernel_rfl, ?_⟩) (by assumption) ?_
            rotate_left
            · intro w hSw; (try dsimp only at hSw); go_simp; (try with_reducible rfl)
            (try simp only [Act.put, List.getElem_toArray, List.getElem_cons_succ, List.getElem_cons_zero, List.setIfInBounds_toArray, List.set_cons_zero, List.set_cons_succ])
            refine wpAnyH_ready (rs := [10, 26]) (by kernel_rfl) (by simp) ?_
            refine AllReadyH.cons rfl (fun K hK => ?_) (AllReadyH.cons rfl (fun K hK => ?_) AllReadyH.nil)
            · go_simp
              refine (H10.out _).mono ?_
              rintro e w9 ⟨rfl, rfl⟩
              refine hK.out _ _ trivial (fun hHeld' => ?_)
              clear hK K hHeld
              have hHeld := hHeld'
              clear hHeld'
              (try simp only [Act.put, List.getElem_toArray, List.getElem_cons_succ, List.getElem_cons_zero, List.setIfInBounds_toArray, List.set_cons_zero, List.set_cons_succ])
              refine wpAnyH_ready (rs := [13, 26]) (by kernel_rfl) (by simp) ?_
              refine AllReadyH.cons rfl (fun K hK => ?_) (AllReadyH.cons rfl (fun K hK => ?_) AllReadyH.nil)
              · go_simp
                refine (H6.out _).mono ?_
                rintro e w9 ⟨rfl, rfl⟩
                refine hK.out _ _ trivial (fun hHeld' => ?_)
                clear hK K hHeld
                have hHeld := hHeld'
                clear hHeld'
                (try simp only [Act.put, List.getElem_toArray, List.getElem_cons_succ, List.getElem_cons_zero, List.setIfInBounds_toArray, List.set_cons_zero, List.set_cons_succ])
                refine wpAnyH_take (i := 14) (v := ?_) rfl (by kernel_rfl) (by kernel_rfl) (by kernel_rfl) (fun _ _ _ h => h) (Or.inl ⟨by kernel_rfl, ?_⟩) (by assumption) ?_
                rotate_left
                · intro w hSw; (try dsimp only at hSw); go_simp; (try with_reducible rfl)
                (try simp only [Act.put, List.getElem_toArray, List.getElem_cons_succ, List.getElem_cons_zero, List.setIfInBounds_toArray, List.set_cons_zero, List.set_cons_succ])
                refine wpAnyH_take (i := 15) (v := ?_) rfl (by kernel_rfl) (by kernel_rfl) (by kernel_rfl) (fun _ _ _ h => h) (Or.inl ⟨by kernel_rfl, ?_⟩) (by assumption) ?_
                rotate_left
                · intro w hSw; (try dsimp only at hSw); go_simp; (try with_reducible rfl)
                (try simp only [Act.put, List.getElem_toArray, List.getElem_cons_succ, List.getElem_cons_zero, List.setIfInBounds_toArray, List.set_cons_zero, List.set_cons_succ])
                refine wpAnyH_ready (rs := [24, 26]) (by kernel_rfl) (by simp) ?_
                refine AllReadyH.cons rfl (fun K hK => ?_) (AllReadyH.cons rfl (fun K hK => ?_) AllReadyH.nil)
                · go_simp
                  refine (H66.out _).mono ?_
                  rintro e w9 ⟨rfl, rfl⟩
                  refine hK.out _ _ trivial (fun hHeld' => ?_)
                  clear hK K hHeld
                  have hHeld := hHeld'
                  clear hHeld'
                  (try simp only [Act.put, List.getElem_toArray, List.getElem_cons_succ, List.getElem_cons_zero, List.setIfInBounds_toArray, List.set_cons_zero, List.set_cons_succ])
                  refine wpAnyH_take (i := 25) (v := ?_) rfl (by kernel_rfl) (by kernel_rfl) (by kernel_rfl) (fun _ _ _ h => h) (Or.inl ⟨by kernel_rfl, ?_⟩) (by assumption) ?_
                  rotate_left
                  · intro w hSw; (try dsimp only at hSw); go_simp; (try with_reducible rfl)
                  (try simp only [Act.put, List.getElem_toArray, List.getElem_cons_succ, List.getElem_cons_zero, List.setIfInBounds_toArray, List.set_cons_zero, List.set_cons_succ])
                  refine wpAnyH_ready (rs := [26]) (by kernel_rfl) (by simp) ?_
                  refine AllReadyH.cons rfl (fun K hK => ?_) AllReadyH.nil
                  go_simp
                  refine hK.out _ _ trivial (fun hHeld' => ?_)
                  clear hK K hHeld
                  have hHeld := hHeld'
                  clear hHeld'
                  (try simp only [Act.put, List.getElem_toArray, List.getElem_cons_succ, List.getElem_cons_zero, List.setIfInBounds_toArray, List.set_cons_zero, List.set_cons_succ])
                  refine wpAnyH_ready (rs := [27]) (by kernel_rfl) (by simp) ?_
                  refine AllReadyH.cons rfl (fun K hK => ?_) AllReadyH.nil
                  go_simp
                  refine hK.out _ _ trivial (fun hHeld' => ?_)
                  clear hK K hHeld
                  have hHeld := hHeld'
                  clear hHeld'
                  (try simp only [Act.put, List.getElem_toArray, List.getElem_cons_succ, List.getElem_cons_zero, List.setIfInBounds_toArray, List.set_cons_zero, List.set_cons_succ])
                  refine wpAnyH_done (by kernel_rfl) ?_ _
                  (try simp only [List.getElem_toArray, List.getElem_cons_succ, List.getElem_cons_zero, List.set_cons_zero, List.set_cons_succ])
                  go_wp2_with fail
                  go_meet
                  case rel => exact ⟨_, rfl, Lib.hid ⟨(HX.out.alloc _).drew, Blk.drew (Blk.new _ _ _)⟩⟩
                · go_simp
                  refine hK.out _ _ trivial (fun hHeld' => ?_)
                  clear hK K hHeld
                  have hHeld := hHeld'
                  clear hHeld'
                  (try simp only [Act.put, List.getElem_toArray, List.getElem_cons_succ, List.getElem_cons_zero, List.setIfInBounds_toArray, List.set_cons_zero, List.set_cons_succ])
                  refine wpAnyH_ready (rs := [24]) (by kernel_rfl) (by simp) ?_
                  refine AllReadyH.cons rfl (fun K hK => ?_) AllReadyH.nil
                  go_simp
                  refine (H66.out _).mono ?_
                  rintro e w9 ⟨rfl, rfl⟩
                  refine hK.out _ _ trivial (fun hHeld' => ?_)
                  clear hK K hHeld
                  have hHeld := hHeld'
                  clear hHeld'
                  (try simp only [Act.put, List.getElem_toArray, List.getElem_cons_succ, List.getElem_cons_zero, List.setIfInBounds_toArray, List.set_cons_zero, List.set_cons_succ])
                  refine wpAnyH_take (i := 25) (v := ?_) rfl (by kernel_rfl) (by kernel_rfl) (by kernel_rfl) (fun _ _ _ h => h) (Or.inl ⟨by kernel_rfl, ?_⟩) (by assumption) ?_
                  rotate_left
                  · intro w hSw; (try dsimp only at hSw); go_simp; (try with_reducible rfl)
                  (try simp only [Act.put, List.getElem_toArray, List.getElem_cons_succ, List.getElem_cons_zero, List.setIfInBounds_toArray, List.set_cons_zero, List.set_cons_succ])
                  refine wpAnyH_ready (rs := [27]) (by kernel_rfl) (by simp) ?_
                  refine AllReadyH.cons rfl (fun K hK => ?_) AllReadyH.nil
                  go_simp
                  refine hK.out _ _ trivial (fun hHeld' => ?_)
                  clear hK K hHeld
                  have hHeld := hHeld'
                  clear hHeld'
                  (try simp only [Act.put, List.getElem_toArray, List.getElem_cons_succ, List.getElem_cons_zero, List.setIfInBounds_toArray, List.set_cons_zero, List.set_cons_succ])
                  refine wpAnyH_done (by kernel_rfl) ?_ _
                  (try simp only [List.getElem_toArray, List.getElem_cons_succ, List.getElem_cons_zero, List.set_cons_zero, List.set_cons_succ])
                  go_wp2_with fail
                  go_meet
                  case rel => exact ⟨_, rfl, Lib.hid ⟨(HX.out.alloc _).drew, Blk.drew (Blk.new _ _ _)⟩⟩
              · go_simp
                refine hK.out _ _ trivial (fun hHeld' => ?_)
                clear hK K hHeld
                have hHeld := hHeld'
                clear hHeld'
                (try simp only [Act.put, List.getElem_toArray, List.getElem_cons_succ, List.getElem_cons_zero, List.setIfInBounds_toArray, List.set_cons_zero, List.set_cons_succ])
                refine wpAnyH_ready (rs := [13]) (by kernel_rfl) (by simp) ?_
                refine AllReadyH.cons rfl (fun K hK => ?_) AllReadyH.nil
                go_simp
                refine (H6.out _).mono ?_
                rintro e w9 ⟨rfl, rfl⟩
                refine hK.out _ _ trivial (fun hHeld' => ?_)
                clear hK K hHeld
                have hHeld := hHeld'
                clear hHeld'
                (try simp only [Act.put, List.getElem_toArray, List.getElem_cons_succ, List.getElem_cons_zero, List.setIfInBounds_toArray, List.set_cons_zero, List.set_cons_succ])
                refine wpAnyH_take (i := 14) (v := ?_) rfl (by kernel_rfl) (by kernel_rfl) (by kernel_rfl) (fun _ _ _ h => h) (Or.inl ⟨by kernel_rfl, ?_⟩) (by assumption) ?_
                rotate_left
                · intro w hSw; (try dsimp only at hSw); go_simp; (try with_reducible rfl)
                (try simp only [Act.put, List.getElem_toArray, List.getElem_cons_succ, List.getElem_cons_zero, List.setIfInBounds_toArray, List.set_cons_zero, List.set_cons_succ])
                refine wpAnyH_take (i := 15) (v := ?_) rfl (by kernel_rfl) (by kernel_rfl) (by kernel_rfl) (fun _ _ _ h => h) (Or.inl ⟨by kernel_rfl, ?_⟩) (by assumption) ?_
                rotate_left
                · intro w hSw; (try dsimp only at hSw); go_simp; (try with_reducible rfl)
                (try simp only [Act.put, List.getElem_toArray, List.getElem_cons_succ, List.getElem_cons_zero, List.setIfInBounds_toArray, List.set_cons_zero, List.set_cons_succ])
                refine wpAnyH_ready (rs := [24]) (by kernel_rfl) (by simp) ?_
                refine AllReadyH.cons rfl (fun K hK => ?_) AllReadyH.nil
                go_simp
                refine (H66.out _).mono ?_
                rintro e w9 ⟨rfl, rfl⟩
                refine hK.out _ _ trivial (fun hHeld' => ?_)
                clear hK K hHeld
                have hHeld := hHeld'
                clear hHeld'
                (try simp only [Act.put, List.getElem_toArray, List.getElem_cons_succ, List.getElem_cons_zero, List.setIfInBounds_toArray, List.set_cons_zero, List.set_cons_succ])
                refine wpAnyH_take (i := 25) (v := ?_) rfl (by kernel_rfl) (by kernel_rfl) (by kernel_rfl) (fun _ _ _ h => h) (Or.inl ⟨by kernel_rfl, ?_⟩) (by assumption) ?_
                rotate_left
                · intro w hSw; (try dsimp only at hSw); go_simp; (try with_reducible rfl)
                (try simp only [Act.put, List.getElem_toArray, List.getElem_cons_succ, List.getElem_cons_zero, List.setIfInBounds_toArray, List.set_cons_zero, List.set_cons_succ])
                refine wpAnyH_ready (rs := [27]) (by kernel_rfl) (by simp) ?_
                refine AllReadyH.cons rfl (fun K hK => ?_) AllReadyH.nil
                go_simp
                refine hK.out _ _ trivial (fun hHeld' => ?_)
                clear hK K hHeld
                have hHeld := hHeld'
                clear hHeld'
                (try simp only [Act.put, List.getElem_toArray, List.getElem_cons_succ, List.getElem_cons_zero, List.setIfInBounds_toArray, List.set_cons_zero, List.set_cons_succ])
                refine wpAnyH_done (by kernel_rfl) ?_ _
                (try simp only [List.getElem_toArray, List.getElem_cons_succ, List.getElem_cons_zero, List.set_cons_zero, List.set_cons_succ])
                go_wp2_with fail
                go_meet
                case rel => exact ⟨_, rfl, Lib.hid ⟨(HX.out.alloc _).drew, Blk.drew (Blk.new _ _ _)⟩⟩
            · go_simp
              refine hK.out _ _ trivial (fun hHeld' => ?_)
              clear hK K hHeld
              have hHeld := hHeld'
              clear hHeld'
              (try simp only [Act.put, List.getElem_toArray, List.getElem_cons_succ, List.getElem_cons_zero, List.setIfInBounds_toArray, List.set_cons_zero, List.set_cons_succ])
              refine wpAnyH_ready (rs := [10]) (by kernel_rfl) (by simp) ?_
              refine AllReadyH.cons rfl (fun K hK => ?_) AllReadyH.nil
              go_simp
              refine (H10.out _).mono ?_
              rintro e w9 ⟨rfl, rfl⟩
              refine hK.out _ _ trivial (fun hHeld' => ?_)
              clear hK K hHeld
              have hHeld := hHeld'
              clear hHeld'
              (try simp only [Act.put, List.getElem_toArray, List.getElem_cons_succ, List.getElem_cons_zero, List.setIfInBounds_toArray, List.set_cons_zero, List.set_cons_succ])
              refine wpAnyH_ready (rs := [13]) (by kernel_rfl) (by simp) ?_
              refine AllReadyH.cons rfl (fun K hK => ?_) AllReadyH.nil
              go_simp
              refine (H6.out _).mono ?_
              rintro e w9 ⟨rfl, rfl⟩
              refine hK.out _ _ trivial (fun hHeld' => ?_)
              clear hK K hHeld
              have hHeld := hHeld'
              clear hHeld'
              (try simp only [Act.put, List.getElem_toArray, List.getElem_cons_succ, List.getElem_cons_zero, List.setIfInBounds_toArray, List.set_cons_zero, List.set_cons_succ])
              refine wpAnyH_take (i := 14) (v := ?_) rfl (by kernel_rfl) (by kernel_rfl) (by kernel_rfl) (fun _ _ _ h => h) (Or.inl ⟨by kernel_rfl, ?_⟩) (by assumption) ?_
              rotate_left
              · intro w hSw; (try dsimp only at hSw); go_simp; (try with_reducible rfl)
              (try simp only [Act.put, List.getElem_toArray, List.getElem_cons_succ, List.getElem_cons_zero, List.setIfInBounds_toArray, List.set_cons_zero, List.set_cons_succ])
              refine wpAnyH_take (i := 15) (v := ?_) rfl (by kernel_rfl) (by kernel_rfl) (by kernel_rfl) (fun _ _ _ h => h) (Or.inl ⟨by kernel_rfl, ?_⟩) (by assumption) ?_
              rotate_left
              · intro w hSw; (try dsimp only at hSw); go_simp; (try with_reducible rfl)
              (try simp only [Act.put, List.getElem_toArray, List.getElem_cons_succ, List.getElem_cons_zero, List.setIfInBounds_toArray, List.set_cons_zero, List.set_cons_succ])
              refine wpAnyH_ready (rs := [24]) (by kernel_rfl) (by simp) ?_
              refine AllReadyH.cons rfl (fun K hK => ?_) AllReadyH.nil
              go_simp
              refine (H66.out _).mono ?_
              rintro e w9 ⟨rfl, rfl⟩
              refine hK.out _ _ trivial (fun hHeld' => ?_)
              clear hK K hHeld
              have hHeld := hHeld'
              clear hHeld'
              (try simp only [Act.put, List.getElem_toArray, List.getElem_cons_succ, List.getElem_cons_zero, List.setIfInBounds_toArray, List.set_cons_zero, List.set_cons_succ])
              refine wpAnyH_take (i := 25) (v := ?_) rfl (by kernel_rfl) (by kernel_rfl) (by kernel_rfl) (fun _ _ _ h => h) (Or.inl ⟨by kernel_rfl, ?_⟩) (by assumption) ?_
              rotate_left
              · intro w hSw; (try dsimp only at hSw); go_simp; (try with_reducible rfl)
              (try simp only [Act.put, List.getElem_toArray, List.getElem_cons_succ, List.getElem_cons_zero, List.setIfInBounds_toArray, List.set_cons_zero, List.set_cons_succ])
              refine wpAnyH_ready (rs := [27]) (by kernel_rfl) (by simp) ?_
              refine AllReadyH.cons rfl (fun K hK => ?_) AllReadyH.nil
              go_simp
              refine hK.out _ _ trivial (fun hHeld' => ?_)
              clear hK K hHeld
              have hHeld := hHeld'
              clear hHeld'
              (try simp only [Act.put, List.getElem_toArray, List.getElem_cons_succ, List.getElem_cons_zero, List.setIfInBounds_toArray, List.set_cons_zero, List.set_cons_succ])
              refine wpAnyH_done (by kernel_rfl) ?_ _
              (try simp only [List.getElem_toArray, List.getElem_cons_succ, List.getElem_cons_zero, List.set_cons_zero, List.set_cons_succ])
              go_wp2_with fail
              go_meet
              case rel => exact ⟨_, rfl, Lib.hid ⟨(HX.out.alloc _).drew, Blk.drew (Blk.new _ _ _)⟩⟩
          · go_simp
            refine hK.out _ _ trivial (fun hHeld' => ?_)
            clear hK K hHeld
            have hHeld := hHeld'
            clear hHeld'
            (try simp only [Act.put, List.getElem_toArray, List.getElem_cons_succ, List.getElem_cons_zero, List.setIfInBounds_toArray, List.set_cons_zero, List.set_cons_succ])
            refine wpAnyH_ready (rs := [5]) (by kernel_rfl) (by simp) ?_
            refine AllReadyH.cons rfl (fun K hK => ?_) AllReadyH.nil
            go_simp
            refine (H4.out _).mono ?_
            rintro e w9 ⟨rfl, rfl⟩
            refine hK.out _ _ trivial (fun hHeld' => ?_)
            clear hK K hHeld
            have hHeld := hHeld'
            clear hHeld'
            (try simp only [Act.put, List.getElem_toArray, List.getElem_cons_succ, List.getElem_cons_zero, List.setIfInBounds_toArray, List.set_cons_zero, List.set_cons_succ])
            refine wpAnyH_take (i := 6) (v := ?_) rfl (by kernel_rfl) (by kernel_rfl) (by kernel_rfl) (fun _ _ _ h => h) (Or.inl ⟨by kernel_rfl, ?_⟩) (by assumption) ?_
            rotate_left
            · intro w hSw; (try dsimp only at hSw); go_simp; (try with_reducible rfl)
            (try simp only [Act.put, List.getElem_toArray, List.getElem_cons_succ, List.getElem_cons_zero, List.setIfInBounds_toArray, List.set_cons_zero, List.set_cons_succ])
            refine wpAnyH_take (i := 7) (v := ?_) rfl (by kernel_rfl) (by kernel_rfl) (by kernel_rfl) (fun _ _ _ h => h) (Or.inl ⟨by kernel_rfl, ?_⟩) (by assumption) ?_
            rotate_left
            · intro w hSw; (try dsimp only at hSw); go_simp; (try with_reducible rfl)
            (try simp only [Act.put, List.getElem_toArray, List.getElem_cons_succ, List.getElem_cons_zero, List.setIfInBounds_toArray, List.set_cons_zero, List.set_cons_succ])
            refine wpAnyH_ready (rs := [10]) (by kernel_rfl) (by simp) ?_
            refine AllReadyH.cons rfl (fun K hK => ?_) AllReadyH.nil
            go_simp
            refine (H10.out _).mono ?_
            rintro e w9 ⟨rfl, rfl⟩
            refine hK.out _ _ trivial (fun hHeld' => ?_)
            clear hK K hHeld
            have hHeld := hHeld'
            clear hHeld'
            (try simp only [Act.put, List.getElem_toArray, List.getElem_cons_succ, List.getElem_cons_zero, List.setIfInBounds_toArray, List.set_cons_zero, List.set_cons_succ])
            refine wpAnyH_ready (rs := [13]) (by kernel_rfl) (by simp) ?_
            refine AllReadyH.cons rfl (fun K hK => ?_) AllReadyH.nil
            go_simp
            refine (H6.out _).mono ?_
            rintro e w9 ⟨rfl, rfl⟩
            refine hK.out _ _ trivial (fun hHeld' => ?_)
            clear hK K hHeld
            have hHeld := hHeld'
            clear hHeld'
            (try simp only [Act.put, List.getElem_toArray, List.getElem_cons_succ, List.getElem_cons_zero, List.setIfInBounds_toArray, List.set_cons_zero, List.set_cons_succ])
            refine wpAnyH_take (i := 14) (v := ?_) rfl (by kernel_rfl) (by kernel_rfl) (by kernel_rfl) (fun _ _ _ h => h) (Or.inl ⟨by kernel_rfl, ?_⟩) (by assumption) ?_
            rotate_left
            · intro w hSw; (try dsimp only at hSw); go_simp; (try with_reducible rfl)
            (try simp only [Act.put, List.getElem_toArray, List.getElem_cons_succ, List.getElem_cons_zero, List.setIfInBounds_toArray, List.set_cons_zero, List.set_cons_succ])
            refine wpAnyH_take (i := 15) (v := ?_) rfl (by kernel_rfl) (by kernel_rfl) (by kernel_rfl) (fun _ _ _ h => h) (Or.inl ⟨by kernel_rfl, ?_⟩) (by assumption) ?_
            rotate_left
            · intro w hSw; (try dsimp only at hSw); go_simp; (try with_reducible rfl)
            (try simp only [Act.put, List.getElem_toArray, List.getElem_cons_succ, List.getElem_cons_zero, List.setIfInBounds_toArray, List.set_cons_zero, List.set_cons_succ])
            refine wpAnyH_ready (rs := [24]) (by kernel_rfl) (by simp) ?_
            refine AllReadyH.cons rfl (fun K hK => ?_) AllReadyH.nil
            go_simp
            refine (H66.out _).mono ?_
            rintro e w9 ⟨rfl, rfl⟩
            refine hK.out _ _ trivial (fun hHeld' => ?_)
            clear hK K hHeld
            have hHeld := hHeld'
            clear hHeld'
            (try simp only [Act.put, List.getElem_toArray, List.getElem_cons_succ, List.getElem_cons_zero, List.setIfInBounds_toArray, List.set_cons_zero, List.set_cons_succ])
            refine wpAnyH_take (i := 25) (v := ?_) rfl (by kernel_rfl) (by kernel_rfl) (by kernel_rfl) (fun _ _ _ h => h) (Or.inl ⟨by kernel_rfl, ?_⟩) (by assumption) ?_
            rotate_left
            · intro w hSw; (try dsimp only at hSw); go_simp; (try with_reducible rfl)
            (try simp only [Act.put, List.getElem_toArray, List.getElem_cons_succ, List.getElem_cons_zero, List.setIfInBounds_toArray, List.set_cons_zero, List.set_cons_succ])
            refine wpAnyH_ready (rs := [27]) (by kernel_rfl) (by simp) ?_
            refine AllReadyH.cons rfl (fun K hK => ?_) AllReadyH.nil
            go_simp
            refine hK.out _ _ trivial (fun hHeld' => ?_)
            clear hK K hHeld
            have hHeld := hHeld'
            clear hHeld'
            (try simp only [Act.put, List.getElem_toArray, List.getElem_cons_succ, List.getElem_cons_zero, List.setIfInBounds_toArray, List.set_cons_zero, List.set_cons_succ])
            refine wpAnyH_done (by kernel_rfl) ?_ _
            (try simp only [List.getElem_toArray, List.getElem_cons_succ, List.getElem_cons_zero, List.set_cons_zero, List.set_cons_succ])
            go_wp2_with fail
            go_meet
            case rel => exact ⟨_, rfl, Lib.hid ⟨(HX.out.alloc _).drew, Blk.drew (Blk.new _ _ _)⟩⟩
        · go_simp
          refine hK.out _ _ trivial (fun hHeld' => ?_)
          clear hK K hHeld
          have hHeld := hHeld'
          clear hHeld'
          (try simp only [Act.put, List.getElem_toArray, List.getElem_cons_succ, List.getElem_cons_zero, List.setIfInBounds_toArray, List.set_cons_zero, List.set_cons_succ])
          refine wpAnyH_ready (rs := [2]) (by kernel_rfl) (by simp) ?_
          refine AllReadyH.cons rfl (fun K hK => ?_) AllReadyH.nil
          go_simp
          refine (H8.out _).mono ?_
          rintro e w9 ⟨rfl, rfl⟩
          refine hK.out _ _ trivial (fun hHeld' => ?_)
          clear hK K hHeld
          have hHeld := hHeld'
          clear hHeld'
          (try simp only [Act.put, List.getElem_toArray, List.getElem_cons_succ, List.getElem_cons_zero, List.setIfInBounds_toArray, List.set_cons_zero, List.set_cons_succ])
          refine wpAnyH_ready (rs := [5]) (by kernel_rfl) (by simp) ?_
          refine AllReadyH.cons rfl (fun K hK => ?_) AllReadyH.nil
          go_simp
          refine (H4.out _).mono ?_
          rintro e w9 ⟨rfl, rfl⟩
          refine hK.out _ _ trivial (fun hHeld' => ?_)
          clear hK K hHeld
          have hHeld := hHeld'
          clear hHeld'
          (try simp only [Act.put, List.getElem_toArray, List.getElem_cons_succ, List.getElem_cons_zero, List.setIfInBounds_toArray, List.set_cons_zero, List.set_cons_succ])
          refine wpAnyH_take (i := 6) (v := ?_) rfl (by kernel_rfl) (by kernel_rfl) (by kernel_rfl) (fun _ _ _ h => h) (Or.inl ⟨by kernel_rfl, ?_⟩) (by assumption) ?_
          rotate_left
          · intro w hSw; (try dsimp only at hSw); go_simp; (try with_reducible rfl)
          (try simp only [Act.put, List.getElem_toArray, List.getElem_cons_succ, List.getElem_cons_zero, List.setIfInBounds_toArray, List.set_cons_zero, List.set_cons_succ])
          refine wpAnyH_take (i := 7) (v := ?_) rfl (by kernel_rfl) (by kernel_rfl) (by kernel_rfl) (fun _ _ _ h => h) (Or.inl ⟨by kernel_rfl, ?_⟩) (by assumption) ?_
          rotate_left
          · intro w hSw; (try dsimp only at hSw); go_simp; (try with_reducible rfl)
          (try simp only [Act.put, List.getElem_toArray, List.getElem_cons_succ, List.getElem_cons_zero, List.setIfInBounds_toArray, List.set_cons_zero, List.set_cons_succ])
          refine wpAnyH_ready (rs := [10]) (by kernel_rfl) (by simp) ?_
          refine AllReadyH.cons rfl (fun K hK => ?_) AllReadyH.nil
          go_simp
          refine (H10.out _).mono ?_
          rintro e w9 ⟨rfl, rfl⟩
          refine hK.out _ _ trivial (fun hHeld' => ?_)
          clear hK K hHeld
          have hHeld := hHeld'
          clear hHeld'
          (try simp only [Act.put, List.getElem_toArray, List.getElem_cons_succ, List.getElem_cons_zero, List.setIfInBounds_toArray, List.set_cons_zero, List.set_cons_succ])
          refine wpAnyH_ready (rs := [13]) (by kernel_rfl) (by simp) ?_
          refine AllReadyH.cons rfl (fun K hK => ?_) AllReadyH.nil
          go_simp
          refine (H6.out _).mono ?_
          rintro e w9 ⟨rfl, rfl⟩
          refine hK.out _ _ trivial (fun hHeld' => ?_)
          clear hK K hHeld
          have hHeld := hHeld'
          clear hHeld'
          (try simp only [Act.put, List.getElem_toArray, List.getElem_cons_succ, List.getElem_cons_zero, List.setIfInBounds_toArray, List.set_cons_zero, List.set_cons_succ])
          refine wpAnyH_take (i := 14) (v := ?_) rfl (by kernel_rfl) (by kernel_rfl) (by kernel_rfl) (fun _ _ _ h => h) (Or.inl ⟨by kernel_rfl, ?_⟩) (by assumption) ?_
          rotate_left
          · intro w hSw; (try dsimp only at hSw); go_simp; (try with_reducible rfl)
          (try simp only [Act.put, List.getElem_toArray, List.getElem_cons_succ, List.getElem_cons_zero, List.setIfInBounds_toArray, List.set_cons_zero, List.set_cons_succ])
          refine wpAnyH_take (i := 15) (v := ?_) rfl (by kernel_rfl) (by kernel_rfl) (by kernel_rfl) (fun _ _ _ h => h) (Or.inl ⟨by kernel_rfl, ?_⟩) (by assumption) ?_
          rotate_left
          · intro w hSw; (try dsimp only at hSw); go_simp; (try with_reducible rfl)
          (try simp only [Act.put, List.getElem_toArray, List.getElem_cons_succ, List.getElem_cons_zero, List.setIfInBounds_toArray, List.set_cons_zero, List.set_cons_succ])
          refine wpAnyH_ready (rs := [24]) (by kernel_rfl) (by simp) ?_
          refine AllReadyH.cons rfl (fun K hK => ?_) AllReadyH.nil
          go_simp
          refine (H66.out _).mono ?_
          rintro e w9 ⟨rfl, rfl⟩
          refine hK.out _ _ trivial (fun hHeld' => ?_)
          clear hK K hHeld
          have hHeld := hHeld'
          clear hHeld'
          (try simp only [Act.put, List.getElem_toArray, List.getElem_cons_succ, List.getElem_cons_zero, List.setIfInBounds_toArray, List.set_cons_zero, List.set_cons_succ])
          refine wpAnyH_take (i := 25) (v := ?_) rfl (by kernel_rfl) (by kernel_rfl) (by kernel_rfl) (fun _ _ _ h => h) (Or.inl ⟨by kernel_rfl, ?_⟩) (by assumption) ?_
          rotate_left
          · intro w hSw; (try dsimp only at hSw); go_simp; (try with_reducible rfl)
          (try simp only [Act.put, List.getElem_toArray, List.getElem_cons_succ, List.getElem_cons_zero, List.setIfInBounds_toArray, List.set_cons_zero, List.set_cons_succ])
          refine wpAnyH_ready (rs := [27]) (by kernel_rfl) (by simp) ?_
          refine AllReadyH.cons rfl (fun K hK => ?_) AllReadyH.nil
          go_simp
          refine hK.out _ _ trivial (fun hHeld' => ?_)
          clear hK K hHeld
          have hHeld := hHeld'
          clear hHeld'
          (try simp only [Act.put, List.getElem_toArray, List.getElem_cons_succ, List.getElem_cons_zero, List.setIfInBounds_toArray, List.set_cons_zero, List.set_cons_succ])
          refine wpAnyH_done (by kernel_rfl) ?_ _
          (try simp only [List.getElem_toArray, List.getElem_cons_succ, List.getElem_cons_zero, List.set_cons_zero, List.set_cons_succ])
          go_wp2_with fail
          go_meet
          case rel => exact ⟨_, rfl, Lib.hid ⟨(HX.out.alloc _).drew, Blk.drew (Blk.new _ _ _)⟩⟩
      case rest =>
        obtain ⟨hb, rfl, HY⟩ := hcut
        clear HX H8 H4 H10 H6 H66 t10 t6 t12 t8 t68 m10 m6 m12 m8 m68 w8 wW eW' hWB w10 wH eH' hHB n3 j3 n65 j65 g3 g65 wd wp
        have q0 := Blk.cell HY.out.2 0
        have q1 := Blk.cell HY.out.2 1
        have q2 := Blk.cell HY.out.2 2
        have q3 := Blk.cell HY.out.2 3
        have q4 := Blk.cell HY.out.2 4
        have q5 := Blk.cell HY.out.2 5
        have q6 := Blk.cell HY.out.2 6
        have HPR := Lib.hid (fun w => refPcxPair d p w)
        by_cases hpr : PcxPair d p
        · rw [decide_eq_true hpr] at HPR
          have hd81 : d = 8 ∨ d = 1 := by unfold PcxPair at hpr; omega
          obtain ⟨Wn, rfl⟩ : ∃ k : Nat, W = (k : Int) := ⟨W.toNat, by omega⟩
          obtain ⟨n, hn⟩ : ∃ n, (Wn * d + 7) / 8 = n := ⟨_, rfl⟩
          have hnn : pcxNeed (Wn : Int) d = n := by unfold pcxNeed; rw [if_neg (by omega), Int.toNat_natCast, hn]
          have HND := Lib.hid (fun w => refPcxNeed (W := Wn) (b := d) (by omega) hd81 w)
          rw [hn] at HND
          have hnB : n ≤ 16385 := by
            have h1 : Wn ≤ 16384 := by omega
            rcases hd81 with e | e <;> rw [e] at hn <;> omega
          have hnBI : (n : Int) ≤ 16385 := by omega
          have hw3 : IntKind.i64.wrap ((n : Int) + 3) = (n : Int) + 3 := IntWalk.i64_in _ (by omega)
          have hF2 : pcxFault s = (match (if l < n ∨ n + 3 < l then some (2, 66) else none : Option (Nat × Nat)) with
              | some f => some f
              | none => if d = 8 ∧ p = 1 then (if s.size < 897 then some (1, s.size) else if bat s (s.size - 769) = 12 then none else some (2, s.size - 769)) else none) := by
            rw [HFF.out, if_neg (by omega), if_neg (by omega), if_neg (by omega), if_neg (by omega), if_neg (by simpa using hpr), hnn]
          have HHH := Lib.hid (And.intro hWk hHk)
          clear hn hnn hpr
          by_cases hlb : l < n ∨ n + 3 < l
          · have HF : Hid (pcxRdV s = hdP 0 0 0 0 0 2 66) := Lib.hid (by rw [if_pos hlb] at hF2; exact HV0.out _ hF2)
            clear hF2
            by_cases hl1 : l < n
            · have hl1I : (l : Int) < (n : Int) := by omega
              clear hlb hl1
              go_wp2_with (first | (go_at_call 148; refine (refPcxBad _ _ _).mono ?_; rintro e wb ⟨rfl, bb⟩; unfold hdP; have HB9 := HY.out.1.below bb; obtain ⟨c0, c1, c2, c3, c4, c5, c6, z0, z1, z2, z3, z4, z5, z6, zl⟩ := HB9.all) | (go_at_call 54; refine (HPR.out _).mono ?_; rintro e w9 ⟨rfl, rfl⟩) | (go_at_call 149; refine (HND.out _).mono ?_; rintro e w9 ⟨rfl, rfl⟩))
              exact bodyPost_ret (v := hdP 0 0 0 0 0 2 66) (by simp [results, Tryz.results75, go_sem, c0, c1, c2, c3, c4, c5, c6, hdP]) rfl ⟨by rw [HF.out], HB9.store⟩
            · have hl1I : ¬ (l : Int) < (n : Int) := by omega
              have hl2I : (n : Int) + 3 < (l : Int) := by omega
              clear hlb hl1
              go_wp2_with (first | (go_at_call 148; refine (refPcxBad _ _ _).mono ?_; rintro e wb ⟨rfl, bb⟩; unfold hdP; have HB9 := HY.out.1.below bb; obtain ⟨c0, c1, c2, c3, c4, c5, c6, z0, z1, z2, z3, z4, z5, z6, zl⟩ := HB9.all) | (go_at_call 54; refine (HPR.out _).mono ?_; rintro e w9 ⟨rfl, rfl⟩) | (go_at_call 149; refine (HND.out _).mono ?_; rintro e w9 ⟨rfl, rfl⟩))
              exact bodyPost_ret (v := hdP 0 0 0 0 0 2 66) (by simp [results, Tryz.results75, go_sem, c0, c1, c2, c3, c4, c5, c6, hdP]) rfl ⟨by rw [HF.out], HB9.store⟩
          · have hl1I : ¬ (l : Int) < (n : Int) := by omega
            have hl2I : ¬ (n : Int) + 3 < (l : Int) := by omega
            rw [if_neg hlb] at hF2
            simp only at hF2
            clear hlb
            by_cases hmp : d = 8 ∧ p = 1
            · rw [if_pos hmp] at hF2
              have hd8 : ((d : Int) == 8) = true := by rw [beq_iff_eq]; omega
              have hp1 : ((p : Int) == 1) = true := by rw [beq_iff_eq]; omega
              clear hmp hd81
              by_cases h9 : s.size < 897
              · have h9I : (s.size : Int) < 897 := by omega
                have HF : Hid (pcxRdV s = hdP 0 0 0 0 0 1 (s.size : Int)) := Lib.hid (by rw [if_pos h9] at hF2; exact HV0.out _ hF2)
                clear hF2 h9
                go_wp2_with (first | (go_at_call 148; refine (refPcxBad _ _ _).mono ?_; rintro e wb ⟨rfl, bb⟩; unfold hdP; have HB9 := HY.out.1.below bb; obtain ⟨c0, c1, c2, c3, c4, c5, c6, z0, z1, z2, z3, z4, z5, z6, zl⟩ := HB9.all) | (go_at_call 54; refine (HPR.out _).mono ?_; rintro e w9 ⟨rfl, rfl⟩) | (go_at_call 149; refine (HND.out _).mono ?_; rintro e w9 ⟨rfl, rfl⟩))
                exact bodyPost_ret (v := hdP 0 0 0 0 0 1 (s.size : Int)) (by simp [results, Tryz.results75, go_sem, c0, c1, c2, c3, c4, c5, c6, hdP]) rfl ⟨by rw [HF.out], HB9.store⟩
              · have h9I : ¬ (s.size : Int) < 897 := by omega
                rw [if_neg h9] at hF2
                obtain ⟨m, hm⟩ : ∃ m, s.size - 769 = m := ⟨_, rfl⟩
                have hmI : (s.size : Int) - 769 = (m : Int) := by omega
                have hms : m < s.size := by omega
                have hmsI : (m : Int) < (s.size : Int) := by omega
                have hmB : (m : Int) ≤ 1099511627776 := by have := HS.out; omega
                have hmw : IntKind.i64.wrap (m : Int) = (m : Int) := IntWalk.i64_in _ (by omega)
                have hbm := bat_eq hms
                rw [hm] at hF2
                by_cases h12 : bat s m = 12
                · have h12I : ((s[m].toNat : Nat) : Int) = 12 := by omega
                  have HF : Hid (pcxRdV s = hdP (Wn : Int) H (d : Int) (p : Int) (l : Int) 0 0) := Lib.hid (by rw [if_pos h12] at hF2; exact HV1.out hF2 HHH.out.1.1 HHH.out.2.1)
                  clear hF2 h9 hm hbm h12
                  obtain ⟨c0, c1, c2, c3, c4, c5, c6, z0, z1, z2, z3, z4, z5, z6, zl⟩ := HY.out.1.all
                  go_wp2_with (first | (go_at_call 54; refine (HPR.out _).mono ?_; rintro e w9 ⟨rfl, rfl⟩) | (go_at_call 149; refine (HND.out _).mono ?_; rintro e w9 ⟨rfl, rfl⟩))
                  exact bodyPost_ret (v := hdP (Wn : Int) H (d : Int) (p : Int) (l : Int) 0 0) (by simp [results, Tryz.results75, go_sem, c0, c1, c2, c3, c4, c5, c6, hdP]) rfl ⟨by rw [HF.out], HY.out.1.store⟩
                · have h12I : ((s[m].toNat : Nat) : Int) ≠ 12 := by omega
                  have HF : Hid (pcxRdV s = hdP 0 0 0 0 0 2 (m : Int)) := Lib.hid (by rw [if_neg h12] at hF2; exact HV0.out _ hF2)
                  clear hF2 h9 hm hbm h12
                  go_wp2_with (first | (go_at_call 148; refine (refPcxBad _ _ _).mono ?_; rintro e wb ⟨rfl, bb⟩; unfold hdP; have HB9 := HY.out.1.below bb; obtain ⟨c0, c1, c2, c3, c4, c5, c6, z0, z1, z2, z3, z4, z5, z6, zl⟩ := HB9.all) | (go_at_call 54; refine (HPR.out _).mono ?_; rintro e w9 ⟨rfl, rfl⟩) | (go_at_call 149; refine (HND.out _).mono ?_; rintro e w9 ⟨rfl, rfl⟩))
                  exact bodyPost_ret (v := hdP 0 0 0 0 0 2 (m : Int)) (by simp [results, Tryz.results75, go_sem, c0, c1, c2, c3, c4, c5, c6, hdP]) rfl ⟨by rw [HF.out], HB9.store⟩
            · rw [if_neg hmp] at hF2
              have HF : Hid (pcxRdV s = hdP (Wn : Int) H (d : Int) (p : Int) (l : Int) 0 0) := Lib.hid (HV1.out hF2 HHH.out.1.1 HHH.out.2.1)
              clear hF2
              by_cases hd8' : d = 8
              · have hd8 : ((d : Int) == 8) = true := by rw [beq_iff_eq]; omega
                have hp1 : ((p : Int) == 1) = false := by rw [beq_eq_false_iff_ne]; exact fun e => hmp ⟨hd8', by omega⟩
                clear hmp hd81 hd8'
                obtain ⟨c0, c1, c2, c3, c4, c5, c6, z0, z1, z2, z3, z4, z5, z6, zl⟩ := HY.out.1.all
                go_wp2_with (first | (go_at_call 54; refine (HPR.out _).mono ?_; rintro e w9 ⟨rfl, rfl⟩) | (go_at_call 149; refine (HND.out _).mono ?_; rintro e w9 ⟨rfl, rfl⟩))
                exact bodyPost_ret (v := hdP (Wn : Int) H (d : Int) (p : Int) (l : Int) 0 0) (by simp [results, Tryz.results75, go_sem, c0, c1, c2, c3, c4, c5, c6, hdP]) rfl ⟨by rw [HF.out], HY.out.1.store⟩
              · have hd8 : ((d : Int) == 8) = false := by rw [beq_eq_false_iff_ne]; omega
                clear hmp hd81 hd8'
                obtain ⟨c0, c1, c2, c3, c4, c5, c6, z0, z1, z2, z3, z4, z5, z6, zl⟩ := HY.out.1.all
                go_wp2_with (first | (go_at_call 54; refine (HPR.out _).mono ?_; rintro e w9 ⟨rfl, rfl⟩) | (go_at_call 149; refine (HND.out _).mono ?_; rintro e w9 ⟨rfl, rfl⟩))
                exact bodyPost_ret (v := hdP (Wn : Int) H (d : Int) (p : Int) (l : Int) 0 0) (by simp [results, Tryz.results75, go_sem, c0, c1, c2, c3, c4, c5, c6, hdP]) rfl ⟨by rw [HF.out], HY.out.1.store⟩
        · rw [decide_eq_false hpr] at HPR
          have HF : Hid (pcxRdV s = hdP 0 0 0 0 0 3 65) := Lib.hid (HV0.out (3, 65) (by rw [HFF.out, if_neg (by omega), if_neg (by omega), if_neg (by omega), if_neg (by omega), if_pos hpr]))
          clear hpr
          go_wp2_with (first | (go_at_call 148; refine (refPcxBad _ _ _).mono ?_; rintro e wb ⟨rfl, bb⟩; unfold hdP; have HB9 := HY.out.1.below bb; obtain ⟨c0, c1, c2, c3, c4, c5, c6, z0, z1, z2, z3, z4, z5, z6, zl⟩ := HB9.all) | (go_at_call 54; refine (HPR.out _).mono ?_; rintro e w9 ⟨rfl, rfl⟩))
          exact bodyPost_ret (v := hdP 0 0 0 0 0 3 65) (by simp [results, Tryz.results75, go_sem, c0, c1, c2, c3, c4, c5, c6, hdP]) rfl ⟨by rw [HF.out], HB9.store⟩
theorem refPcxReadC {s : ByteArray} (hsm : s.size ≤ 1099511627776) (w : World) : Calls Tryz.prog 75 #[.string s] w fun e w' => e = .returned (pcxRdV s) ∧ Below w.heap.size w w' := by
  by_cases h : s.size < 128
  · exact refPcxRead_short h w
  · have h' : 128 ≤ s.size := by omega
    by_cases h0 : bat s 0 = 10
    · by_cases h1 : PcxVer (bat s 1)
      · by_cases h2 : bat s 2 = 1
        · exact refPcxRead_rest h' hsm h0 h1 h2 rfl rfl rfl rfl rfl w
        · exact refPcxRead_run h' h0 h1 h2 w
      · exact refPcxRead_ver h' h0 h1 w
    · exact refPcxRead_sign h' h0 w
end Go.Proofs.YtccldalagbfmhaaGreat
