/- pcx: the map at the end. -/
import Derived.Test.YtccldalagbfmhaaGreatPcxG
import Derived.Test.YtccldalagbfmhaaGreatFfE
import Derived.Test.YtccldalagbfmhaaGreatPcxD
namespace Go.Proofs.YtccldalagbfmhaaGreat
open Go.RowKit
set_option linter.unusedVariables false
set_option linter.unusedSimpArgs false

theorem pcxMapL_take {s : ByteArray} {i : Nat} (h : i < 256) : (pcxMapL s).take (i + 1) = (pcxMapL s).take i ++ [pcxEnt s (s.size - 768 + 3 * i)] := by
  rw [List.take_add_one, pcxMapL_at s h]
  rfl
theorem pcxMapL_len (s : ByteArray) : (pcxMapL s).length = 256 := by unfold pcxMapL; simp
def pcxTabD (s : ByteArray) (z : Nat) (k : Dec) : Dec := .hold 1024 z 128 (pcxPal (z + 1024) k 256 (s.size - 768))
theorem pal_fullP {w : World} {l b g d n : Nat} {L : List Qc} (P : PalHas w l b g d n L) : ∃ n' m' l', PalAt w l b n' m' ∧ BufAt w b g d l' ∧ l'.length = 4 * n := by
  obtain ⟨h1, _, rest, h3, h4⟩ := P
  exact ⟨_, _, _, h1, h3, by rw [List.length_append, flat_len, h4]⟩
/-- what the map's reading leaves -/
def PEndPost (w w' : World) (g : Nat) (s : ByteArray) (y : Led) (e : Ending) : Prop :=
  ∃ y', LedAt w' g y' ∧ y'.Ok ∧ Turn [g] w w' ∧
    ((∃ kk aa : Nat, kk ≠ 0 ∧ e = .returned (.tuple #[.pointer none, pFlt kk aa]) ∧ y'.bytes = y.bytes ∧ ∀ (z : Nat) k, (z : Int) ≤ y.bytes → (pcxTabD s z k).run y = ((y'.give (z : Int)).1, .bad kk aa)) ∨
     (∃ l b d : Nat, e = .returned (.tuple #[.pointer (some ⟨l, 0, none⟩), pFlt0]) ∧ PalHas w' l b g d 256 (pcxMapL s) ∧ w.heap.size ≤ l ∧ w.heap.size ≤ b ∧ w.heap.size ≤ d ∧ y'.reason = 0 ∧ y'.bytes = y.bytes + 1024 ∧ ∀ (z : Nat) k, (pcxTabD s z k).run y = k.run y'))
/-- what holds between two entries -/
structure EndI (w0 w : World) (g l b d q f : Nat) (s : ByteArray) (i : Nat) (y0 y : Led) : Prop where
  P : PalHas w l b g d 256 ((pcxMapL s).take i)
  S : SrcAt w q g s (s.size - 768) s.size (s.size - 768 + 3 * i)
  L : LedAt w g y
  F : FB w f 0 0 0
  T : Turn [g] w0 w
  nl : w0.heap.size ≤ l
  nb : w0.heap.size ≤ b
  nd : w0.heap.size ≤ d
  nq : w0.heap.size ≤ q
  nf : w0.heap.size ≤ f
  yok : y.Ok
  yr : y.reason = 0
  yb : y.bytes = y0.bytes + 1024
section
variable {w0 w w' : World} {g l b d q f i : Nat} {s : ByteArray} {y0 y y' : Led}
theorem EndI.take (I : EndI w0 w g l b d q f s i y0 y) (k : Turn [q, g] w w') (S' : SrcAt w' q g s (s.size - 768) s.size (s.size - 768 + 3 * i + 3)) (L' : LedAt w' g y') : PalHas w' l b g d 256 ((pcxMapL s).take i) ∧ SrcAt w' q g s (s.size - 768) s.size (s.size - 768 + 3 * (i + 1)) ∧ LedAt w' g y' ∧ FB w' f 0 0 0 ∧ Turn [g] w0 w' := by
  have h1 := I.P.src I.S
  have h2 := I.P.led I.L
  refine ⟨I.P.turn k ?_ ?_ ?_, by rw [show s.size - 768 + 3 * (i + 1) = s.size - 768 + 3 * i + 3 by omega]; exact S', L', I.F.turn k ?_, I.T.next k ?_⟩
  · simp only [List.mem_cons, List.not_mem_nil, or_false, not_or]; exact ⟨h1.1, h2.1⟩
  · simp only [List.mem_cons, List.not_mem_nil, or_false, not_or]; exact ⟨h1.2.1, h2.2.1⟩
  · simp only [List.mem_cons, List.not_mem_nil, or_false, not_or]; exact ⟨h1.2.2, h2.2.2⟩
  · simp only [List.mem_cons, List.not_mem_nil, or_false, not_or]; exact ⟨Blk.ne_ I.F I.S (by decide), Blk.ne_ I.F I.L (by decide)⟩
  · intro j hj
    simp only [List.mem_cons, List.not_mem_nil, or_false] at hj ⊢
    rcases hj with rfl | rfl
    · exact .inr I.nq
    · exact .inl rfl
/-- behind a reading that failed -/
theorem EndI.fail (I : EndI w0 w g l b d q f s i y0 y) (k : Turn [q, g] w w') : PalHas w' l b g d 256 ((pcxMapL s).take i) ∧ FB w' f 0 0 0 ∧ Turn [g] w0 w' := by
  have h1 := I.P.src I.S
  have h2 := I.P.led I.L
  refine ⟨I.P.turn k ?_ ?_ ?_, I.F.turn k ?_, I.T.next k ?_⟩
  · simp only [List.mem_cons, List.not_mem_nil, or_false, not_or]; exact ⟨h1.1, h2.1⟩
  · simp only [List.mem_cons, List.not_mem_nil, or_false, not_or]; exact ⟨h1.2.1, h2.2.1⟩
  · simp only [List.mem_cons, List.not_mem_nil, or_false, not_or]; exact ⟨h1.2.2, h2.2.2⟩
  · simp only [List.mem_cons, List.not_mem_nil, or_false, not_or]; exact ⟨Blk.ne_ I.F I.S (by decide), Blk.ne_ I.F I.L (by decide)⟩
  · intro j hj
    simp only [List.mem_cons, List.not_mem_nil, or_false] at hj ⊢
    rcases hj with rfl | rfl
    · exact .inr I.nq
    · exact .inl rfl
end
set_option maxRecDepth 100000 in
set_option maxHeartbeats 2000000 in
theorem pcxEnding_no {w : World} {p g m : Nat} {s : ByteArray} {y y1 : Led} (S0 : SrcAt w p g s 0 s.size 128) (L0 : LedAt w g y) (ok : y.Ok) (hr : y.reason = 0) (e1 : y.take ((4 * 256 : Nat) : Int) = (y1, false)) :
    Calls Tryz.prog 153 #[.pointer (some ⟨p, 0, none⟩), .int .i64 (m : Int)] w fun e w' => PEndPost w w' g s y e := by
  have F0 := FB.new w
  have S1 : SrcAt (w.alloc (.cells #[.int .i64 0, .int .i64 0, .int .i64 0] 31)) p g s 0 s.size 128 := Blk.alloc S0 _
  have L1 : LedAt (w.alloc (.cells #[.int .i64 0, .int .i64 0, .int .i64 0] 31)) g y := Blk.alloc L0 _
  have T1 : Turn [g] w (w.alloc (.cells #[.int .i64 0, .int .i64 0, .int .i64 0] 31)) := (Turn.refl _ _).alloc _
  have nf : w.heap.size ∉ [g] := by have := Blk.lt L0; simp; omega
  have np : p ∉ [g] := by simpa using Blk.ne_ S0 L0 (by decide)
  obtain ⟨yr1, yb1⟩ := led_take_no (x := y) (n := ((4 * 256 : Nat) : Int)) (by rw [e1]) hr
  rw [e1] at yr1 yb1
  have ok1 : y1.Ok := by have := ok.take ((4 * 256 : Nat) : Int); rw [e1] at this; exact this
  have HN := Lib.hid (palNew_no (m := 256) L1 ok e1 (by decide) (by decide))
  have HR := Lib.hid (fun z k => run_hold_no (x := y) (y := y1) (k := k) (n := 1024) (fr := z) (a := 128) e1)
  have HS := Lib.hid S1
  have HT := Lib.hid T1
  have HF := Lib.hid F0
  have HY := Lib.hid (And.intro yr1 (And.intro yb1 ok1))
  clear S0 L0 S1 L1 T1 F0 ok hr e1 yr1 yb1 ok1
  go_enter Tryz.func153, Tryz.ntmps153
  go_wp2_with (first
    | (go_at_call 61; refine (srcFault_is 7 s2 l2 (.inl ⟨HY.out.1, rfl, rfl⟩)).mono ?_; rintro e w3 ⟨rfl, b3⟩; have l3 := Blk.below l2 b3 (Blk.lt l2); have F3 := FB.below F2 b3; have T3 := (HT.out.trans t2).trans (Turn.of_below (S := [g]) b3); obtain ⟨f0, f1, f2', z0, z1, z2, fl⟩ := FB.all F3)
    | (go_at_call 97; refine HN.out.mono ?_; rintro e w2 ⟨rfl, l2, t2⟩; have s2 := HS.out.turn t2 np; have F2 := FB.turn HF.out t2 nf)
    | (go_at_call 60; refine (srcLedger_at HS.out).mono ?_; rintro e w1 ⟨rfl, rfl⟩))
  exact bodyPost_ret (v := .tuple #[.pointer none, pFlt 4 128]) (by simp [results, Tryz.results153, go_sem, f0, f1, f2', pFlt]) rfl ⟨y1, Blk.st3 l3 (Blk.ne_ l3 F3 (by decide)), HY.out.2.2, Turn.st3 T3 (.inr (Nat.le_refl _)), .inl ⟨4, 128, by decide, rfl, HY.out.2.1, fun z k _ => HR.out z _⟩⟩
set_option maxRecDepth 100000 in
set_option maxHeartbeats 4000000 in
theorem pcxEnding_yes {w : World} {p g m : Nat} {s : ByteArray} {y y1 : Led} (hs : 897 ≤ s.size) (hsm : s.size ≤ 1099511627776) (hm : s.size - 768 = m) (S0 : SrcAt w p g s 0 s.size 128) (L0 : LedAt w g y) (ok : y.Ok) (hr : y.reason = 0) (e1 : y.take ((4 * 256 : Nat) : Int) = (y1, true)) :
    Calls Tryz.prog 153 #[.pointer (some ⟨p, 0, none⟩), .int .i64 (m : Int)] w fun e w' => PEndPost w w' g s y e := by
  have F0 := FB.new w
  have S1 : SrcAt (w.alloc (.cells #[.int .i64 0, .int .i64 0, .int .i64 0] 31)) p g s 0 s.size 128 := Blk.alloc S0 _
  have L1 : LedAt (w.alloc (.cells #[.int .i64 0, .int .i64 0, .int .i64 0] 31)) g y := Blk.alloc L0 _
  have T1 : Turn [g] w (w.alloc (.cells #[.int .i64 0, .int .i64 0, .int .i64 0] 31)) := (Turn.refl _ _).alloc _
  have nf : w.heap.size ∉ [g] := by have := Blk.lt L0; simp; omega
  have np : p ∉ [g] := by simpa using Blk.ne_ S0 L0 (by decide)
  obtain ⟨_, yr1, yb1, _⟩ := led_take_yes (x := y) (n := ((4 * 256 : Nat) : Int)) (by rw [e1])
  rw [e1] at yr1 yb1
  have ok1 : y1.Ok := by have := ok.take ((4 * 256 : Nat) : Int); rw [e1] at this; exact this
  have HN := Lib.hid (palNew_yes (m := 256) L1 ok e1 (by decide) (by decide))
  have HR := Lib.hid (fun z k => run_hold_yes (x := y) (y := y1) (k := k) (n := 1024) (fr := z) (a := 128) e1)
  have HS := Lib.hid S1
  have HT := Lib.hid T1
  have HF := Lib.hid F0
  have HY := Lib.hid (And.intro yr1 (And.intro yb1 ok1))
  have HSZ := Lib.hid (And.intro hs (And.intro hsm hm))
  have HY0 := Lib.hid ok.y0
  have hw1 : (w.alloc (.cells #[.int .i64 0, .int .i64 0, .int .i64 0] 31)).heap.size = w.heap.size + 1 := by simp
  clear S0 L0 S1 L1 T1 F0 ok hr e1 yr1 yb1 ok1 hs hsm hm
  go_enter Tryz.func153, Tryz.ntmps153
  go_upto_region 4 with (first
    | (go_at_call 97; refine HN.out.mono ?_; rintro e w2 ⟨l, b, d, rfl, P2, B2, l2, hl, hb, hd, t2⟩)
    | (go_at_call 60; refine (srcLedger_at HS.out).mono ?_; rintro e w1 ⟨rfl, rfl⟩))
  have s2 := HS.out.turn t2 np
  have F2 := FB.turn HF.out t2 nf
  have T2 := HT.out.trans t2
  have PH : PalHas w2 l b g d 256 [] := has_new P2 B2
  have HI2 := Lib.hid (And.intro s2 (And.intro F2 (And.intro T2 (And.intro PH l2))))
  have HNN : Hid (w.heap.size ≤ l ∧ w.heap.size ≤ b ∧ w.heap.size ≤ d) := Lib.hid (by omega)
  clear P2 B2 t2 HN hl hb hd s2 F2 T2 PH l2 HF HS HT
  go_upto_region 5 with (go_at_call 155; refine (srcWindow_yes (m := m) (n := 768) (q := s.size) HI2.out.1 (Nat.zero_le _) (by have := HSZ.out; omega) (Nat.le_refl _) HSZ.out.2.1).mono ?_; rintro e w3 ⟨q, rfl, s3, hq, b3⟩)
  have hI3 : EndI w w3 g l b d q w.heap.size s 0 y y1 := by
    obtain ⟨s2, F2, T2, PH, l2⟩ := HI2.out
    have hz := T2.size
    exact ⟨by rw [List.take_zero]; exact PH.below b3, by rw [HSZ.out.2.2]; exact s3, Blk.below l2 b3 (Blk.lt l2), FB.below F2 b3, T2.trans (Turn.of_below b3), HNN.out.1, HNN.out.2.1, HNN.out.2.2, by omega, Nat.le_refl _, HY.out.2.2, HY.out.1, HY.out.2.1⟩
  have HI3 := Lib.hid hI3
  have HR0 : Hid (∀ (z : Nat) k, (pcxTabD s z k).run y = (pcxPal (z + 1024) k 256 (s.size - 768 + 3 * 0)).run y1) := Lib.hid (fun z k => HR.out z _)
  clear hI3 HI2 s3 b3 hq HR
  go_wp2_with fail
  go_loopg [10, 11, 28] 256 (fun gh v10 v11 v28 wr => ∃ (i : Nat) (yy : Led), i + gh = 256 ∧ v28 = .int .i64 (i : Int) ∧ Hid (EndI w wr g l b d q w.heap.size s i y yy) ∧ Hid (∀ (z : Nat) k, (pcxTabD s z k).run y = (pcxPal (z + 1024) k gh (s.size - 768 + 3 * i)).run yy))
  case atStart => exact ⟨0, y1, rfl, rfl, HI3, HR0⟩
  case round =>
    obtain ⟨i, yy, hi, rfl, HI, HRUN⟩ := hrel
    clear HI3 HR0
    by_cases hi6 : i < 256
    · have hiI : (i : Int) < 256 := by omega
      obtain ⟨gm, rfl⟩ : ∃ q, gk = q + 1 := ⟨gk - 1, by omega⟩
      have hle : s.size - 768 + 3 * i + 3 ≤ s.size := by have := HSZ.out; omega
      have HTK := Lib.hid (srcTake_ways 3 HI.out.S ⟨by omega, by omega, Nat.le_refl _, HSZ.out.2.1⟩ HI.out.L HI.out.yok HI.out.yr)
      have HLE := Lib.hid hle
      have hBs := extract_size s (s.size - 768 + 3 * i) 3 hle
      have hBb : ∀ j, j < 3 → bat (s.extract (s.size - 768 + 3 * i) (s.size - 768 + 3 * i + 3)) j = bat s (s.size - 768 + 3 * i + j) := fun j hj => bat_extract s _ 3 j hj
      generalize s.extract (s.size - 768 + 3 * i) (s.size - 768 + 3 * i + 3) = B at HTK hBs hBb
      have HBB := Lib.hid hBb
      have HII := Lib.hid hi
      clear hle hBb hi
      go_upto_region 8 with (go_at_call 90; refine HTK.out.mono ?_; rintro e w4 ⟨y4, l4, ok4, b4, t4, hor⟩; rcases hor with ⟨kk, aa, rfl, s4, n4, r4⟩ | ⟨rfl, s4, yr4, hle4, hw4⟩)
      · obtain ⟨P4, F4, T4⟩ := HI.out.fail t4
        obtain ⟨n', m', l', PA, PB', hlen⟩ := pal_fullP P4
        have hby : y4.bytes = y.bytes + 1024 := b4.trans HI.out.yb
        have hy0 := HY0.out
        have hg := give_all hlen (show ((4 * 256 : Nat) : Int) ≤ y4.bytes by omega)
        have hgv := led_give_yes (x := y4) (n := ((4 * 256 : Nat) : Int)) (by omega) (by omega)
        obtain ⟨y5, hy5⟩ : ∃ y5, (y4.give ((4 * 256 : Nat) : Int)).1 = y5 := ⟨_, rfl⟩
        rw [hy5] at hg hgv
        have ok5 : y5.Ok := by have := ok4.give ((4 * 256 : Nat) : Int); rw [hy5] at this; exact this
        have hr5 : y5.reason = y4.reason := by rw [hgv]
        have hb5 : y5.bytes = y.bytes := by rw [hgv]; show y4.bytes - _ = _; omega
        have n5 : NoRead y5 (s.size - 768 + 3 * i) s.size kk aa := by unfold NoRead at n4 ⊢; rw [hr5]; exact n4
        have HK := Lib.hid n4.ne
        have HG5 : Hid (∀ z : Nat, (z : Int) ≤ y.bytes → (y4.give ((z + 1024 : Nat) : Int)).1 = (y5.give (z : Int)).1) := Lib.hid (fun z hz => by rw [← hy5]; exact (give_give (m := 4 * 256) (n := z) (by omega)).symm)
        have qn : q ∉ [l, b, g] := by have h1 := P4.src s4; simp only [List.mem_cons, List.not_mem_nil, or_false, not_or]; exact ⟨Ne.symm h1.1, Ne.symm h1.2.1, Blk.ne_ s4 l4 (by decide)⟩
        have fn' : w.heap.size ∉ [l, b, g] := by simp only [List.mem_cons, List.not_mem_nil, or_false, not_or]; exact ⟨Blk.ne_ F4 PA (by decide), Blk.ne_ F4 PB'.blk (by decide), Blk.ne_ F4 l4 (by decide)⟩
        have HPF := Lib.hid (palFree_yes PA PB' l4 ok4 hg)
        have HS4 := Lib.hid s4
        have HF4 := Lib.hid F4
        have HT4 := Lib.hid T4
        have HN5 := Lib.hid n5
        have HO5 := Lib.hid (And.intro ok5 hb5)
        have HRN : Hid (∀ (z : Nat) k, (z : Int) ≤ y.bytes → (pcxTabD s z k).run y = ((y5.give (z : Int)).1, .bad kk aa)) := Lib.hid (fun z k hz => by
          have h1 := r4 (z + 1024) (pcxPal (z + 1024) k gm (s.size - 768 + 3 * i + 3))
          rw [if_pos HLE.out] at h1
          rw [HRUN.out z k, ← HG5.out z hz]
          exact h1)
        clear PA PB' P4 l4 ok4 hg hgv hy5 ok5 hr5 hb5 n5 n4 s4 F4 T4 hby hy0 t4 r4 HG5
        go_wp2_with (first
          | (go_at_call 61; refine (srcFault_is 7 s5 l5 HN5.out).mono ?_; rintro e w6 ⟨rfl, b6⟩; have l6 := Blk.below l5 b6 (Blk.lt l5); have F6 := FB.below F5 b6; have T6 := (HT4.out.next t5 (by have h1 := HNN.out; intro j hj; simp only [List.mem_cons, List.not_mem_nil, or_false] at hj ⊢; rcases hj with rfl | rfl | rfl; exact .inr h1.1; exact .inr h1.2.1; exact .inl rfl)).trans (Turn.of_below (S := [g]) b6); obtain ⟨f0, f1, f2', z0, z1, z2, fl⟩ := FB.all F6)
          | (go_at_call 99; refine HPF.out.mono ?_; rintro e w5 ⟨rfl, pz, pw, l5, t5⟩; clear pz pw; have s5 := HS4.out.turn t5 qn; have F5 := FB.turn HF4.out t5 fn'))
        exact bodyPost_ret (v := .tuple #[.pointer none, pFlt kk aa]) (by simp [results, Tryz.results153, go_sem, f0, f1, f2', pFlt]) rfl ⟨y5, Blk.st3 l6 (Blk.ne_ l6 F6 (by decide)), HO5.out.1, Turn.st3 T6 (.inr (Nat.le_refl _)), .inl ⟨kk, aa, HK.out, rfl, HO5.out.2, HRN.out⟩⟩
      · have I4 := HI.out.take t4 s4 l4
        obtain ⟨a, ha⟩ : ∃ a, s.size - 768 + 3 * i = a := ⟨_, rfl⟩
        have c0 : 0 < B.size := by omega
        have c1 : 1 < B.size := by omega
        have c2 : 2 < B.size := by omega
        have b0 : (0 : Int) < (B.size : Int) := by omega
        have b1 : (1 : Int) < (B.size : Int) := by omega
        have b2 : (2 : Int) < (B.size : Int) := by omega
        obtain ⟨c, hc⟩ : ∃ c : Qc, c = pcxEnt s a := ⟨_, rfl⟩
        have u0 : ((B[0].toNat : Nat) : Int) = (c.r.toNat : Int) := by rw [hc, pcxEnt, b8_int, ← bat_eq c0, HBB.out 0 (by omega), ha, Nat.add_zero]
        have u1 : ((B[1].toNat : Nat) : Int) = (c.g.toNat : Int) := by rw [hc, pcxEnt, b8_int, ← bat_eq c1, HBB.out 1 (by omega), ha]
        have u2 : ((B[2].toNat : Nat) : Int) = (c.b.toNat : Int) := by rw [hc, pcxEnt, b8_int, ← bat_eq c2, HBB.out 2 (by omega), ha]
        have HU3 : Hid ((255 : Int) = (c.a.toNat : Int)) := Lib.hid (by rw [hc]; rfl)
        have HTL : Hid ((pcxMapL s).take (i + 1) = (pcxMapL s).take i ++ [c]) := Lib.hid (by rw [hc, ← ha]; exact pcxMapL_take hi6)
        have HLI : Hid (((pcxMapL s).take i).length < 256) := Lib.hid (by rw [List.length_take, pcxMapL_len]; omega)
        have HI4 := Lib.hid I4
        have HY4 := Lib.hid (And.intro ok4 (And.intro yr4 (b4.trans HI.out.yb)))
        have HRN : Hid (∀ (z : Nat) k, (pcxTabD s z k).run y = (pcxPal (z + 1024) k gm (s.size - 768 + 3 * (i + 1))).run y4) := Lib.hid (fun z k => by
          rw [HRUN.out z k, show s.size - 768 + 3 * (i + 1) = s.size - 768 + 3 * i + 3 by omega]
          exact run_work_yes hw4)
        have HNI := Lib.hid (And.intro HI.out.nl (And.intro HI.out.nb (And.intro HI.out.nd (And.intro HI.out.nq HI.out.nf))))
        clear hc ha t4 s4 l4 ok4 yr4 hle4 hw4 I4 HRUN HI b4 hBs hi6
        go_upto_region 11 with fail
        refine wp_region_held_drew (S := (fun _ => True)) (by kernel_rfl) trivial (fun hHeld => ?_)
        refine wpAnyH_take (i := 0) (v := ?_) rfl (by kernel_rfl) (by kernel_rfl) (by kernel_rfl) (fun _ _ _ h => h) (Or.inl ⟨by kernel_rfl, ?_⟩) (by assumption) ?_
        rotate_left
        · intro w hSw; (try dsimp only at hSw); go_simp; (try with_reducible rfl)
        (try simp only [Act.put, List.getElem_toArray, List.getElem_cons_succ, List.getElem_cons_zero, List.setIfInBounds_toArray, List.set_cons_zero, List.set_cons_succ])
        refine wpAnyH_take (i := 1) (v := ?_) rfl (by kernel_rfl) (by kernel_rfl) (by kernel_rfl) (fun _ _ _ h => h) (Or.inl ⟨by kernel_rfl, ?_⟩) (by assumption) ?_
        rotate_left
        · intro w hSw; (try dsimp only at hSw); go_simp; (try with_reducible rfl)
        (try simp only [Act.put, List.getElem_toArray, List.getElem_cons_succ, List.getElem_cons_zero, List.setIfInBounds_toArray, List.set_cons_zero, List.set_cons_succ])
        refine wpAnyH_take (i := 2) (v := ?_) rfl (by kernel_rfl) (by kernel_rfl) (by kernel_rfl) (fun _ _ _ h => h) (Or.inl ⟨by kernel_rfl, ?_⟩) (by assumption) ?_
        rotate_left
        · intro w hSw; (try dsimp only at hSw); go_simp; (try with_reducible rfl)
        (try simp only [Act.put, List.getElem_toArray, List.getElem_cons_succ, List.getElem_cons_zero, List.setIfInBounds_toArray, List.set_cons_zero, List.set_cons_succ])
        refine wpAnyH_take (i := 3) (v := ?_) rfl (by kernel_rfl) (by kernel_rfl) (by kernel_rfl) (fun _ _ _ h => h) (Or.inl ⟨by kernel_rfl, ?_⟩) (by assumption) ?_
        rotate_left
        · intro w hSw; (try dsimp only at hSw); go_simp; (try with_reducible rfl)
        (try simp only [Act.put, List.getElem_toArray, List.getElem_cons_succ, List.getElem_cons_zero, List.setIfInBounds_toArray, List.set_cons_zero, List.set_cons_succ])
        refine wpAnyH_take (i := 4) (v := ?_) rfl (by kernel_rfl) (by kernel_rfl) (by kernel_rfl) (fun _ _ _ h => h) (Or.inl ⟨by kernel_rfl, ?_⟩) (by assumption) ?_
        rotate_left
        · intro w hSw; (try dsimp only at hSw); go_simp; (try with_reducible rfl)
        (try simp only [Act.put, List.getElem_toArray, List.getElem_cons_succ, List.getElem_cons_zero, List.setIfInBounds_toArray, List.set_cons_zero, List.set_cons_succ])
        refine wpAnyH_take (i := 5) (v := ?_) rfl (by kernel_rfl) (by kernel_rfl) (by kernel_rfl) (fun _ _ _ h => h) (Or.inl ⟨by kernel_rfl, ?_⟩) (by assumption) ?_
        rotate_left
        · intro w hSw; (try dsimp only at hSw); go_simp; (try with_reducible rfl)
        (try simp only [Act.put, List.getElem_toArray, List.getElem_cons_succ, List.getElem_cons_zero, List.setIfInBounds_toArray, List.set_cons_zero, List.set_cons_succ])
        refine wpAnyH_take (i := 6) (v := ?_) rfl (by kernel_rfl) (by kernel_rfl) (by kernel_rfl) (fun _ _ _ h => h) (Or.inl ⟨by kernel_rfl, ?_⟩) (by assumption) ?_
        rotate_left
        · intro w hSw; (try dsimp only at hSw); go_simp; (try with_reducible rfl)
        (try simp only [Act.put, List.getElem_toArray, List.getElem_cons_succ, List.getElem_cons_zero, List.setIfInBounds_toArray, List.set_cons_zero, List.set_cons_succ])
        refine wpAnyH_take (i := 7) (v := ?_) rfl (by kernel_rfl) (by kernel_rfl) (by kernel_rfl) (fun _ _ _ h => h) (Or.inl ⟨by kernel_rfl, ?_⟩) (by assumption) ?_
        rotate_left
        · intro w hSw; (try dsimp only at hSw); go_simp; (try with_reducible rfl)
        (try simp only [Act.put, List.getElem_toArray, List.getElem_cons_succ, List.getElem_cons_zero, List.setIfInBounds_toArray, List.set_cons_zero, List.set_cons_succ])
        refine wpAnyH_ready (rs := [8]) (by kernel_rfl) (by simp) ?_
        refine AllReadyH.cons rfl (fun K hK => ?_) AllReadyH.nil
        go_simp
        rw [HU3.out]
        refine (has_add (Blk_drewP2 HI4.out.1) HLI.out (by omega) c).mono ?_
        rintro e w5 ⟨rfl, P5, t5⟩
        have hs5 := HI4.out.2.1
        have hl5 := HI4.out.2.2.1
        have hf5 := HI4.out.2.2.2.1
        have hpp := HI4.out.1
        have h1 := hpp.src hs5
        have h2 := hpp.led hl5
        have h3 : l ≠ w.heap.size ∧ d ≠ w.heap.size := by
          obtain ⟨k1, _, rest, k3, _⟩ := hpp
          exact ⟨Blk.ne_ k1 hf5 (by decide), Blk.ne_ k3.row hf5 (by decide)⟩
        have HQ : Hid (EndI w w5 g l b d q w.heap.size s (i + 1) y y4) := Lib.hid ⟨by rw [HTL.out]; exact P5, (Blk.drew hs5).turn t5 (by simp only [List.mem_cons, List.not_mem_nil, or_false, not_or]; exact ⟨Ne.symm h1.1, Ne.symm h1.2.2⟩), LedAt.turn (Blk.drew hl5) t5 (by simp only [List.mem_cons, List.not_mem_nil, or_false, not_or]; exact ⟨Ne.symm h2.1, Ne.symm h2.2.2⟩), FB.turn (Blk.drew hf5) t5 (by simp only [List.mem_cons, List.not_mem_nil, or_false, not_or]; exact ⟨Ne.symm h3.1, Ne.symm h3.2⟩), (HI4.out.2.2.2.2.drew).next t5 (by have := HNN.out; intro j hj; simp only [List.mem_cons, List.not_mem_nil, or_false] at hj ⊢; rcases hj with rfl | rfl; exact .inr this.1; exact .inr this.2.2), HNI.out.1, HNI.out.2.1, HNI.out.2.2.1, HNI.out.2.2.2.1, HNI.out.2.2.2.2, HY4.out.1, HY4.out.2.1, HY4.out.2.2⟩
        refine hK.out _ _ trivial (fun hHeld' => ?_)
        clear hK K hHeld
        have hHeld := hHeld'
        clear hHeld'
        (try simp only [Act.put, List.getElem_toArray, List.getElem_cons_succ, List.getElem_cons_zero, List.setIfInBounds_toArray, List.set_cons_zero, List.set_cons_succ])
        refine wpAnyH_done (by kernel_rfl) ?_ _
        (try simp only [List.getElem_toArray, List.getElem_cons_succ, List.getElem_cons_zero, List.set_cons_zero, List.set_cons_succ])
        go_wp2_with fail
        go_roundg gm
        case measure => omega
        case rel => exact ⟨i + 1, y4, by have := HII.out; omega, by go_num, HQ, HRN⟩
    · obtain rfl : i = 256 := by omega
      obtain rfl : gk = 0 := by omega
      obtain ⟨f0, f1, f2', z0, z1, z2, fl⟩ := FB.all HI.out.F
      have HPP : Hid (PalHas wr l b g d 256 (pcxMapL s)) := Lib.hid (by have := HI.out.P; rw [List.take_of_length_le (by rw [pcxMapL_len]; exact Nat.le_refl _)] at this; exact this)
      go_wp2_with fail
      have hf := HI.out.F
      have hpm := HPP.out
      have pnf : l ≠ w.heap.size ∧ b ≠ w.heap.size ∧ d ≠ w.heap.size := by
        obtain ⟨k1, _, rest, k3, _⟩ := hpm
        exact ⟨Blk.ne_ k1 hf (by decide), Blk.ne_ k3.blk hf (by decide), Blk.ne_ k3.row hf (by decide)⟩
      exact bodyPost_ret (v := .tuple #[.pointer (some ⟨l, 0, none⟩), pFlt0]) (by simp [results, Tryz.results153, go_sem, f0, f1, f2', pFlt0]) rfl ⟨yy, Blk.st3 HI.out.L (Blk.ne_ HI.out.L hf (by decide)), HI.out.yok, Turn.st3 HI.out.T (.inr (Nat.le_refl _)), .inr ⟨l, b, d, rfl, HPP.out.turn (Turn.st3 (Turn.refl [w.heap.size] _) (.inl (by simp))) (by simpa using pnf.1) (by simpa using pnf.2.1) (by simpa using pnf.2.2), HI.out.nl, HI.out.nb, HI.out.nd, HI.out.yr, HI.out.yb, HRUN.out⟩⟩
theorem pcxEndingC {w : World} {p g m : Nat} {s : ByteArray} {y : Led} (hs : 897 ≤ s.size) (hsm : s.size ≤ 1099511627776) (hm : s.size - 768 = m) (S0 : SrcAt w p g s 0 s.size 128) (L0 : LedAt w g y) (ok : y.Ok) (hr : y.reason = 0) :
    Calls Tryz.prog 153 #[.pointer (some ⟨p, 0, none⟩), .int .i64 (m : Int)] w fun e w' => PEndPost w w' g s y e := by
  obtain ⟨y1, v, hw⟩ : ∃ y1 v, y.take ((4 * 256 : Nat) : Int) = (y1, v) := ⟨_, _, rfl⟩
  cases v with
  | false => exact pcxEnding_no S0 L0 ok hr hw
  | true => exact pcxEnding_yes hs hsm hm S0 L0 ok hr hw
end Go.Proofs.YtccldalagbfmhaaGreat
