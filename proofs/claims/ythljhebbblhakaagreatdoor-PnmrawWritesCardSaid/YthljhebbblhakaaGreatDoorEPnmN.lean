/- pnmraw's samples.next by whatever budget. -/
import Derived.Test.YthljhebbblhakaaGreatDoorEPnmB
namespace Go.Proofs.YthljhebbblhakaaGreatDoor
open Go.RowKit
set_option linter.unusedVariables false
set_option linter.unusedSimpArgs false

def XR (w : World) (x p q : Nat) (h : HeadR) : Prop := Blk w x 125 #[.pointer (some ⟨p, 0, none⟩), .pointer (some ⟨q, 0, none⟩), .bool (decide (255 < h.M))]
/-- what stands while samples are read -/
structure RXI (w0 w : World) (p g x q : Nat) (s : ByteArray) (h : HeadR) (av : List Nat) (a : Nat) (y : Led) : Prop where
  S : SrcAt w p g s 0 s.size a
  G : LedAt w g y
  X : XR w x p q h
  Q : SclA w q h.M av
  T : Turn [p, g, q] w0 w
  av : ∀ i ∈ av, i < w.heap.size
  ok : y.Ok
section
variable {w0 w w' : World} {p g x q : Nat} {s : ByteArray} {h : HeadR} {av : List Nat} {a a' : Nat} {y y' : Led}
theorem RXI.nq (I : RXI w0 w p g x q s h av a y) : q ≠ p ∧ q ≠ g ∧ q ≠ x := by
  obtain ⟨cs, hb⟩ := I.Q.blk
  exact ⟨Blk.ne_ hb I.S (by decide), Blk.ne_ hb I.G (by decide), Blk.ne_ hb I.X (by decide)⟩
theorem RXI.read (I : RXI w0 w p g x q s h av a y) (k : Turn [p, g] w w') (S' : SrcAt w' p g s 0 s.size a') (G' : LedAt w' g y') (ok' : y'.Ok) : RXI w0 w' p g x q s h av a' y' := by
  have n := I.nq
  refine ⟨S', G', Blk.turn I.X k ?_, I.Q.turn k ?_ ?_, I.T.trans (k.mono (by simp)), fun i hi => Nat.lt_of_lt_of_le (I.av i hi) k.size, ok'⟩
  · simp only [List.mem_cons, List.not_mem_nil, or_false, not_or]; exact ⟨Blk.ne_ I.X I.S (by decide), Blk.ne_ I.X I.G (by decide)⟩
  · simp only [List.mem_cons, List.not_mem_nil, or_false, not_or]; exact ⟨n.1, n.2.1⟩
  · intro i hi
    simp only [List.mem_cons, List.not_mem_nil, or_false] at hi
    rcases hi with rfl | rfl
    · exact .inr ⟨_, _, I.S, by decide⟩
    · exact .inr ⟨_, _, I.G, by decide⟩
theorem RXI.scl (I : RXI w0 w p g x q s h av a y) (k : Turn [q] w w') (Q' : SclA w' q h.M av) : RXI w0 w' p g x q s h av a y := by
  have n := I.nq
  refine ⟨I.S.turn k ?_, I.G.turn k ?_, Blk.turn I.X k ?_, Q', I.T.trans (k.mono (by simp)), fun i hi => Nat.lt_of_lt_of_le (I.av i hi) k.size, I.ok⟩
  · simpa using n.1.symm
  · simpa using n.2.1.symm
  · simpa using n.2.2.symm
theorem RXI.below (I : RXI w0 w p g x q s h av a y) (k : Below w.heap.size w w') : RXI w0 w' p g x q s h av a y :=
  I.read (Turn.of_below k) (Blk.below I.S k (Blk.lt I.S)) (Blk.below I.G k (Blk.lt I.G)) I.ok
theorem RXI.alloc (I : RXI w0 w p g x q s h av a y) (o : Obj) : RXI w0 (w.alloc o) p g x q s h av a y := I.below ((Below.refl _ _).alloc (Nat.le_refl _) o)
theorem RXI.drew (I : RXI w0 w p g x q s h av a y) : RXI w0 w.drew p g x q s h av a y := ⟨I.S, I.G, I.X, I.Q.drew, I.T.drew, I.av, I.ok⟩
/-- a store into a block of another type that is new -/
theorem RXI.own (I : RXI w0 w p g x q s h av a y) {t : TypeId} {cs : Array Value} {b : Nat} (hb : Blk w b t cs) (hn : w0.heap.size ≤ b) (k : Turn [b] w w') (h1 : t ≠ 96) (h2 : t ≠ 94) (h3 : t ≠ 125) (h4 : t ≠ 139) (h5 : t ≠ 5) : RXI w0 w' p g x q s h av a y := by
  obtain ⟨cq, hq⟩ := I.Q.blk
  refine ⟨I.S.turn k (by simpa using Blk.ne_ I.S hb h1.symm), I.G.turn k (by simpa using Blk.ne_ I.G hb h2.symm), Blk.turn I.X k (by simpa using Blk.ne_ I.X hb h3.symm), I.Q.turn k (by simpa using Blk.ne_ hq hb h4.symm) ?_, I.T.next k (fun i hi => .inr (by simp only [List.mem_cons, List.not_mem_nil, or_false] at hi; omega)), fun i hi => Nat.lt_of_lt_of_le (I.av i hi) k.size, I.ok⟩
  intro i hi
  simp only [List.mem_cons, List.not_mem_nil, or_false] at hi
  subst hi
  exact .inr ⟨_, _, hb, h5⟩
theorem RXI.from_ (I : RXI w0 w p g x q s h av a y) : RXI w w p g x q s h av a y := ⟨I.S, I.G, I.X, I.Q, Turn.refl _ _, I.av, I.ok⟩
theorem RXI.src_ok (I : RXI w0 w p g x q s h av a y) (ha : a ≤ s.size) (hsm : s.size ≤ 1099511627776) : SrcOk s 0 s.size a := ⟨Nat.zero_le _, ha, Nat.le_refl _, hsm⟩
end
def smpZ (M : Nat) : Nat := if 255 < M then 2 else 1
/-- what a reading of a part of a pixel leaves -/
def RartPost {α : Type} (w w' : World) (p g x q : Nat) (s : ByteArray) (h : HeadR) (av : List Nat) (y : Led) (e : Ending) (D : Nat → (α → Dec) → Dec) (no : Nat → Nat → Value) (yes : α → Value) (nx : α → Nat) : Prop :=
  ∃ y', y'.bytes = y.bytes ∧
    ((∃ kk aa : Nat, kk ≠ 0 ∧ y'.Ok ∧ e = .returned (no kk aa) ∧ (LedAt w' g y' ∧ SclA w' q h.M av ∧ Turn [p, g, q] w w') ∧ ∀ (z : Nat) k, (D z k).run y = ((y'.give (z : Int)).1, .bad kk aa)) ∨
     (∃ r, e = .returned (yes r) ∧ nx r ≤ s.size ∧ RXI w w' p g x q s h av (nx r) y' ∧ y'.reason = 0 ∧ ∀ (z : Nat) k, (D z k).run y = (k r).run y'))
set_option maxRecDepth 100000 in
set_option maxHeartbeats 4000000 in
theorem nextC {w : World} {p g x q a : Nat} {s : ByteArray} {h : HeadR} {av : List Nat} {y : Led} (I : RXI w w p g x q s h av a y) (ha : a ≤ s.size) (hsm : s.size ≤ 1099511627776) (hM : 1 ≤ h.M ∧ h.M ≤ 65535) (hy : y.reason = 0) :
    Calls Tryz.prog 89 #[.pointer (some ⟨x, 0, none⟩)] w fun e w' => RartPost w w' p g x q s h av y e (rsmpD s (smpZ h.M) h.M a) smpNo smpYes (fun r => r.2) := by
  have I1 := I.alloc (.cells #[.int .i64 0, .int .i64 0, .int .i64 0] 33)
  have F1 : FB (w.alloc (.cells #[.int .i64 0, .int .i64 0, .int .i64 0] 33)) w.heap.size 0 0 0 := Blk.new _ _ _
  have hp1 := Nat.ne_of_gt (Blk.lt I.S)
  have hg1 := Nat.ne_of_gt (Blk.lt I.G)
  have hq1 : w.heap.size ≠ q := Nat.ne_of_gt (by obtain ⟨cs, hb⟩ := I.Q.blk; exact Blk.lt hb)
  have c0 : (w.alloc (.cells #[.int .i64 0, .int .i64 0, .int .i64 0] 33)).cell? ⟨x, 0, none⟩ = some (.pointer (some ⟨p, 0, none⟩)) := Blk.cell I1.X 0
  have c1 : (w.alloc (.cells #[.int .i64 0, .int .i64 0, .int .i64 0] 33)).cell? ⟨x, 1, none⟩ = some (.pointer (some ⟨q, 0, none⟩)) := Blk.cell I1.X 1
  have HH := Lib.hid (And.intro hM (And.intro hsm ha))
  by_cases hW : 255 < h.M
  · have hz : smpZ h.M = 2 := by unfold smpZ; rw [if_pos hW]
    rw [hz]
    obtain ⟨V, hv⟩ : ∃ V, beN s a 2 = V := ⟨_, rfl⟩
    have c2 : (w.alloc (.cells #[.int .i64 0, .int .i64 0, .int .i64 0] 33)).cell? ⟨x, 2, none⟩ = some (.bool true) := (Blk.cell I1.X 2).trans (show some (Value.bool (decide (255 < h.M))) = some (.bool true) from by rw [decide_eq_true hW])
    have HRD0 := srcBe16_ways I1.S (I.src_ok ha hsm) I1.G I1.ok hy
    rw [hv] at HRD0
    unfold ReadPost at HRD0
    have HRD := Lib.hid HRD0
    have HI := Lib.hid I1
    have S1 := Lib.hid I1.S
    have HV := Lib.hid hv
    clear I I1 HRD0 ha hsm hz hM hy hW hv
    go_enter Tryz.func89, Tryz.ntmps89
    go_upto_region 6 with (first
      | (go_at_call 52; refine (srcAt_at S1.out).mono ?_; rintro e w2 ⟨rfl, rfl⟩)
      | (go_at_call 114; refine HRD.out.mono ?_; rintro e w2 ⟨y2, g2, ok2, yb2, t2, hor⟩; rcases hor with ⟨kk, aa, rfl, s2, nr, run⟩ | ⟨rfl, s2, yr2, hle, hwk⟩))
    · have hkk : kk ≠ 0 := by rcases nr with ⟨_, rfl, _⟩ | ⟨_, rfl, _⟩ <;> decide
      have I2 := HI.out.read t2 s2 g2 ok2
      have F2 : FB w2 w.heap.size 0 0 0 := FB.turn F1 t2 (by simp only [List.mem_cons, List.not_mem_nil, or_false, not_or]; exact ⟨hp1, hg1⟩)
      have k0 : w2.cell? ⟨x, 0, none⟩ = some (.pointer (some ⟨p, 0, none⟩)) := Blk.cell I2.X 0
      have HFA := Lib.hid (srcFault_is 3 s2 g2 nr)
      have HR := Lib.hid (And.intro run (And.intro ok2 (And.intro yb2 hkk)))
      have HJ := Lib.hid I2
      clear c0 c1 c2 F1 HRD HI S1 s2 g2 nr t2 run ok2 yb2 I2
      go_wp2_with (go_at_call 43; refine HFA.out.mono ?_; rintro e w3 ⟨rfl, b3⟩; have I3 := HJ.out.below b3; have F3 : FB w3 w.heap.size 0 0 0 := Blk.below F2 b3 (Blk.lt F2); obtain ⟨f0, f1, f2, z0, z1, z2, fl⟩ := FB.all F3)
      exact bodyPost_ret (v := smpNo kk aa) (by simp [results, Tryz.results89, go_sem, f0, f1, f2, smpNo, ftV]) rfl ⟨y2, HR.out.2.2.1, .inl ⟨kk, aa, HR.out.2.2.2, HR.out.2.1, rfl, ⟨Blk.st3 I3.G hg1.symm, I3.Q.st3 F3 hq1.symm, Turn.st3 (I3.T) (.inr (Nat.le_refl _))⟩, fun z k => HR.out.1 z _⟩⟩
    · have I2 := HI.out.read t2 s2 g2 ok2
      have F2 : FB w2 w.heap.size 0 0 0 := FB.turn F1 t2 (by simp only [List.mem_cons, List.not_mem_nil, or_false, not_or]; exact ⟨hp1, hg1⟩)
      have k1 : w2.cell? ⟨x, 1, none⟩ = some (.pointer (some ⟨q, 0, none⟩)) := Blk.cell I2.X 1
      have HS0 := sclOfA (V : Int) I2.Q I2.av HH.out.1.1 HH.out.1.2
      have HR := Lib.hid (And.intro hwk (And.intro ok2 (And.intro yb2 (And.intro yr2 hle))))
      have HJ := Lib.hid I2
      clear c0 c1 c2 F1 HRD HI S1 s2 g2 t2 ok2 yb2 yr2 hle hwk I2
      by_cases hMV : h.M < V
      · have hm : smay (V : Int) (h.M : Int) = false := by
          cases hm : smay (V : Int) (h.M : Int) with
          | false => rfl
          | true => have := (smay_iff.1 hm).2.2.2; omega
        rw [hm] at HS0
        have HS := Lib.hid HS0
        have HMV := Lib.hid hMV
        clear HS0 hm hMV
        go_upto_region 9 with (go_at_call 107; refine HS.out.mono ?_; rintro e w4 ⟨rfl, q4, t4⟩)
        have I5 := HJ.out.scl t4 q4
        have F5 : FB w4 w.heap.size 0 0 0 := FB.turn F2 t4 (by simpa using hq1)
        obtain ⟨f0, f1, f2, z0, z1, z2, fl⟩ := FB.all F5
        clear k1
        go_wp2_with fail
        exact bodyPost_ret (v := smpNo 2 a) (by simp [results, Tryz.results89, go_sem, f0, f1, f2, smpNo, ftV]) rfl ⟨y2, HR.out.2.2.1, .inl ⟨2, a, by decide, HR.out.2.1, rfl, ⟨Blk.st3 I5.G hg1.symm, I5.Q.st3 F5 hq1.symm, Turn.st3 I5.T (.inr (Nat.le_refl _))⟩, fun z k => by
          unfold rsmpD
          rw [run_work_yes HR.out.1, if_pos HR.out.2.2.2.2, HV.out, if_pos HMV.out]
          rfl⟩⟩
      · have hm : smay (V : Int) (h.M : Int) = true := smay_iff.2 ⟨by have := HH.out.1.1; omega, by have := HH.out.1.2; omega, by omega, by omega⟩
        have hx : smax (V : Int) (h.M : Int) = ((smp8 V h.M).toNat : Int) := by unfold smax; rw [hm]; exact smp8_is HH.out.1.1 (by omega)
        rw [hm, hx] at HS0
        have HS := Lib.hid HS0
        have HMV := Lib.hid hMV
        clear HS0 hm hMV hx
        generalize hv8 : smp8 V h.M = v8 at HS
        go_upto_region 9 with (go_at_call 107; refine HS.out.mono ?_; rintro e w4 ⟨rfl, q4, t4⟩)
        have I5 := HJ.out.scl t4 q4
        have F5 : FB w4 w.heap.size 0 0 0 := FB.turn F2 t4 (by simpa using hq1)
        obtain ⟨f0, f1, f2, z0, z1, z2, fl⟩ := FB.all F5
        clear k1
        go_wp2_with fail
        exact bodyPost_ret (v := smpYes (v8, a + 2)) (by simp [results, Tryz.results89, go_sem, f0, f1, f2, smpYes, ft0]) rfl ⟨y2, HR.out.2.2.1, .inr ⟨(v8, a + 2), rfl, HR.out.2.2.2.2, I5.own F5 (Nat.le_refl _) (Turn.st3 (Turn.refl _ _) (.inl (by simp))) (by decide) (by decide) (by decide) (by decide) (by decide), HR.out.2.2.2.1, fun z k => by
          unfold rsmpD
          rw [run_work_yes HR.out.1, if_pos HR.out.2.2.2.2, HV.out, if_neg HMV.out, hv8]⟩⟩
  · have hz : smpZ h.M = 1 := by unfold smpZ; rw [if_neg hW]
    rw [hz]
    obtain ⟨V, hv⟩ : ∃ V, beN s a 1 = V := ⟨_, rfl⟩
    have c2 : (w.alloc (.cells #[.int .i64 0, .int .i64 0, .int .i64 0] 33)).cell? ⟨x, 2, none⟩ = some (.bool false) := (Blk.cell I1.X 2).trans (show some (Value.bool (decide (255 < h.M))) = some (.bool false) from by rw [decide_eq_false hW])
    have HRD0 := srcU8_ways I1.S (I.src_ok ha hsm) I1.G I1.ok hy
    rw [show bat s a = V by rw [← hv]; simp [beN]] at HRD0
    unfold ReadPost at HRD0
    have HRD := Lib.hid HRD0
    have HI := Lib.hid I1
    have S1 := Lib.hid I1.S
    have HV := Lib.hid hv
    clear I I1 HRD0 ha hsm hz hM hy hW hv
    go_enter Tryz.func89, Tryz.ntmps89
    go_upto_region 6 with (first
      | (go_at_call 52; refine (srcAt_at S1.out).mono ?_; rintro e w2 ⟨rfl, rfl⟩)
      | (go_at_call 69; refine HRD.out.mono ?_; rintro e w2 ⟨y2, g2, ok2, yb2, t2, hor⟩; rcases hor with ⟨kk, aa, rfl, s2, nr, run⟩ | ⟨rfl, s2, yr2, hle, hwk⟩))
    · have hkk : kk ≠ 0 := by rcases nr with ⟨_, rfl, _⟩ | ⟨_, rfl, _⟩ <;> decide
      have I2 := HI.out.read t2 s2 g2 ok2
      have F2 : FB w2 w.heap.size 0 0 0 := FB.turn F1 t2 (by simp only [List.mem_cons, List.not_mem_nil, or_false, not_or]; exact ⟨hp1, hg1⟩)
      have k0 : w2.cell? ⟨x, 0, none⟩ = some (.pointer (some ⟨p, 0, none⟩)) := Blk.cell I2.X 0
      have HFA := Lib.hid (srcFault_is 3 s2 g2 nr)
      have HR := Lib.hid (And.intro run (And.intro ok2 (And.intro yb2 hkk)))
      have HJ := Lib.hid I2
      clear c0 c1 c2 F1 HRD HI S1 s2 g2 nr t2 run ok2 yb2 I2
      go_wp2_with (go_at_call 43; refine HFA.out.mono ?_; rintro e w3 ⟨rfl, b3⟩; have I3 := HJ.out.below b3; have F3 : FB w3 w.heap.size 0 0 0 := Blk.below F2 b3 (Blk.lt F2); obtain ⟨f0, f1, f2, z0, z1, z2, fl⟩ := FB.all F3)
      exact bodyPost_ret (v := smpNo kk aa) (by simp [results, Tryz.results89, go_sem, f0, f1, f2, smpNo, ftV]) rfl ⟨y2, HR.out.2.2.1, .inl ⟨kk, aa, HR.out.2.2.2, HR.out.2.1, rfl, ⟨Blk.st3 I3.G hg1.symm, I3.Q.st3 F3 hq1.symm, Turn.st3 (I3.T) (.inr (Nat.le_refl _))⟩, fun z k => HR.out.1 z _⟩⟩
    · have I2 := HI.out.read t2 s2 g2 ok2
      have F2 : FB w2 w.heap.size 0 0 0 := FB.turn F1 t2 (by simp only [List.mem_cons, List.not_mem_nil, or_false, not_or]; exact ⟨hp1, hg1⟩)
      have k1 : w2.cell? ⟨x, 1, none⟩ = some (.pointer (some ⟨q, 0, none⟩)) := Blk.cell I2.X 1
      have HS0 := sclOfA (V : Int) I2.Q I2.av HH.out.1.1 HH.out.1.2
      have HR := Lib.hid (And.intro hwk (And.intro ok2 (And.intro yb2 (And.intro yr2 hle))))
      have HJ := Lib.hid I2
      clear c0 c1 c2 F1 HRD HI S1 s2 g2 t2 ok2 yb2 yr2 hle hwk I2
      by_cases hMV : h.M < V
      · have hm : smay (V : Int) (h.M : Int) = false := by
          cases hm : smay (V : Int) (h.M : Int) with
          | false => rfl
          | true => have := (smay_iff.1 hm).2.2.2; omega
        rw [hm] at HS0
        have HS := Lib.hid HS0
        have HMV := Lib.hid hMV
        clear HS0 hm hMV
        go_upto_region 9 with (go_at_call 107; refine HS.out.mono ?_; rintro e w4 ⟨rfl, q4, t4⟩)
        have I5 := HJ.out.scl t4 q4
        have F5 : FB w4 w.heap.size 0 0 0 := FB.turn F2 t4 (by simpa using hq1)
        obtain ⟨f0, f1, f2, z0, z1, z2, fl⟩ := FB.all F5
        clear k1
        go_wp2_with fail
        exact bodyPost_ret (v := smpNo 2 a) (by simp [results, Tryz.results89, go_sem, f0, f1, f2, smpNo, ftV]) rfl ⟨y2, HR.out.2.2.1, .inl ⟨2, a, by decide, HR.out.2.1, rfl, ⟨Blk.st3 I5.G hg1.symm, I5.Q.st3 F5 hq1.symm, Turn.st3 I5.T (.inr (Nat.le_refl _))⟩, fun z k => by
          unfold rsmpD
          rw [run_work_yes HR.out.1, if_pos HR.out.2.2.2.2, HV.out, if_pos HMV.out]
          rfl⟩⟩
      · have hm : smay (V : Int) (h.M : Int) = true := smay_iff.2 ⟨by have := HH.out.1.1; omega, by have := HH.out.1.2; omega, by omega, by omega⟩
        have hx : smax (V : Int) (h.M : Int) = ((smp8 V h.M).toNat : Int) := by unfold smax; rw [hm]; exact smp8_is HH.out.1.1 (by omega)
        rw [hm, hx] at HS0
        have HS := Lib.hid HS0
        have HMV := Lib.hid hMV
        clear HS0 hm hMV hx
        generalize hv8 : smp8 V h.M = v8 at HS
        go_upto_region 9 with (go_at_call 107; refine HS.out.mono ?_; rintro e w4 ⟨rfl, q4, t4⟩)
        have I5 := HJ.out.scl t4 q4
        have F5 : FB w4 w.heap.size 0 0 0 := FB.turn F2 t4 (by simpa using hq1)
        obtain ⟨f0, f1, f2, z0, z1, z2, fl⟩ := FB.all F5
        clear k1
        go_wp2_with fail
        exact bodyPost_ret (v := smpYes (v8, a + 1)) (by simp [results, Tryz.results89, go_sem, f0, f1, f2, smpYes, ft0]) rfl ⟨y2, HR.out.2.2.1, .inr ⟨(v8, a + 1), rfl, HR.out.2.2.2.2, I5.own F5 (Nat.le_refl _) (Turn.st3 (Turn.refl _ _) (.inl (by simp))) (by decide) (by decide) (by decide) (by decide) (by decide), HR.out.2.2.2.1, fun z k => by
          unfold rsmpD
          rw [run_work_yes HR.out.1, if_pos HR.out.2.2.2.2, HV.out, if_neg HMV.out, hv8]⟩⟩
end Go.Proofs.YthljhebbblhakaaGreatDoor
