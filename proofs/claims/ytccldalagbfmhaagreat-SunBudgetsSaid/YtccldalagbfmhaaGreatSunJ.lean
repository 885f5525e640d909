/- sun: the map. sun: a head is read. -/
import Derived.Test.YtccldalagbfmhaaGreatSunF
import Derived.Test.YtccldalagbfmhaaGreatPal1
import Derived.Test.YtccldalagbfmhaaGreatFfE
import Derived.Test.YtccldalagbfmhaaGreatSunC
namespace Go.Proofs.YtccldalagbfmhaaGreat
open Go.RowKit
set_option linter.unusedVariables false
set_option linter.unusedSimpArgs false

theorem Blk_drewP {w : World} {l b g d n : Nat} {L : List Qc} (P : PalHas w l b g d n L) : PalHas w.drew l b g d n L := by
  obtain ⟨h1, h2, rest, h3, h4⟩ := P
  exact ⟨Blk.drew h1, h2, rest, ⟨h3.blk.drew, h3.row.drew⟩, h4⟩
theorem SrcAt.drew' {w : World} {p g f t a : Nat} {s : ByteArray} (h : SrcAt w p g s f t a) : SrcAt w.drew p g s f t a := Blk.drew h
def tabD (s : ByteArray) (n z : Nat) (k : Dec) : Dec := .hold (4 * n) z 32 (.work 1 (z + 4 * n) 32 (if 32 + 3 * n ≤ s.size then k else sunShort s (z + 4 * n)))
def TabPost (w w' : World) (p g : Nat) (s : ByteArray) (h : SunHd) (y : Led) (e : Ending) : Prop :=
  ∃ y', LedAt w' g y' ∧ y'.Ok ∧ Turn [p, g] w w' ∧
    ((∃ kk aa : Nat, kk ≠ 0 ∧ e = .returned (.tuple #[.pointer none, fltV kk aa]) ∧ y'.bytes = y.bytes ∧ ∀ (z : Nat) k, (z : Int) ≤ y.bytes → (tabD s h.n z k).run y = ((y'.give (z : Int)).1, .bad kk aa)) ∨
     (∃ l b d : Nat, e = .returned (.tuple #[.pointer (some ⟨l, 0, none⟩), flt0]) ∧ PalHas w' l b g d h.n (sunPal s h) ∧ w.heap.size ≤ l ∧ w.heap.size ≤ b ∧ w.heap.size ≤ d ∧ y'.reason = 0 ∧ y'.bytes = y.bytes + 4 * (h.n : Int) ∧ 32 + 3 * h.n ≤ s.size ∧ SrcAt w' p g s 0 s.size (32 + 3 * h.n) ∧ ∀ z k, (tabD s h.n z k).run y = k.run y'))
theorem pal_full {w : World} {l b g d n : Nat} {L : List Qc} (P : PalHas w l b g d n L) : ∃ n' m' l', PalAt w l b n' m' ∧ BufAt w b g d l' ∧ l'.length = 4 * n := by
  obtain ⟨h1, _, rest, h3, h4⟩ := P
  exact ⟨_, _, _, h1, h3, by rw [List.length_append, flat_len, h4]⟩
theorem sunPal_take {s : ByteArray} {h : SunHd} {i : Nat} (hi : i < h.n) : (sunPal s h).take (i + 1) = (sunPal s h).take i ++ [⟨b8 s (32 + i), b8 s (32 + h.n + i), b8 s (32 + 2 * h.n + i), 255⟩] := by
  rw [List.take_add_one, sunPal_at hi]
  rfl
set_option maxRecDepth 100000 in
set_option maxHeartbeats 2000000 in
theorem sunTable_no {w : World} {p g : Nat} {s : ByteArray} {h : SunHd} {y y1 : Led} (hh : h.Ok) (hn : 0 < h.n) (hsm : s.size ≤ 1099511627776) (h32 : 32 ≤ s.size) (S0 : SrcAt w p g s 0 s.size 32) (L0 : LedAt w g y) (ok : y.Ok) (hr : y.reason = 0) (e1 : y.take ((4 * h.n : Nat) : Int) = (y1, false)) :
    Calls Tryz.prog 140 #[.pointer (some ⟨p, 0, none⟩), .int .i64 (h.n : Int)] w fun e w' => TabPost w w' p g s h y e := by
  have F0 := FB.new w
  have S1 : SrcAt (w.alloc (.cells #[.int .i64 0, .int .i64 0, .int .i64 0] 31)) p g s 0 s.size 32 := Blk.alloc S0 _
  have L1 : LedAt (w.alloc (.cells #[.int .i64 0, .int .i64 0, .int .i64 0] 31)) g y := Blk.alloc L0 _
  have T1 : Turn [p, g] w (w.alloc (.cells #[.int .i64 0, .int .i64 0, .int .i64 0] 31)) := (Turn.refl _ _).alloc _
  have nf : w.heap.size ∉ [g] := by have := Blk.lt L0; simp; omega
  have np : p ∉ [g] := by simpa using Blk.ne_ S0 L0 (by decide)
  have hn2 := hh.n
  obtain ⟨yr1, yb1⟩ := led_take_no (x := y) (n := ((4 * h.n : Nat) : Int)) (by rw [e1]) hr
  rw [e1] at yr1 yb1
  have ok1 : y1.Ok := by have := ok.take ((4 * h.n : Nat) : Int); rw [e1] at this; exact this
  have HN := Lib.hid (palNew_no L1 ok e1 hn (by omega))
  have hrun := fun z k => run_hold_no (x := y) (y := y1) (k := k) (n := 4 * h.n) (fr := z) (a := 32) e1
  have HR := Lib.hid hrun
  have HS := Lib.hid S1
  have HT := Lib.hid T1
  have HF := Lib.hid F0
  have HY := Lib.hid (And.intro yr1 (And.intro yb1 ok1))
  clear S0 L0 S1 L1 T1 F0 ok hr e1 hrun hh hn yr1 yb1 ok1
  go_enter Tryz.func140, Tryz.ntmps140
  go_wp2_with (first
    | (go_at_call 61; refine (srcFault_is 8 s2 l2 (.inl ⟨HY.out.1, rfl, rfl⟩)).mono ?_; rintro e w3 ⟨rfl, b3⟩; have l3 := Blk.below l2 b3 (Blk.lt l2); have F3 := FB.below F2 b3; have T3 := (HT.out.trans (t2.mono (by simp))).trans (Turn.of_below (S := [p, g]) b3); obtain ⟨f0, f1, f2', z0, z1, z2, fl⟩ := FB.all F3)
    | (go_at_call 97; refine HN.out.mono ?_; rintro e w2 ⟨rfl, l2, t2⟩; have s2 := HS.out.turn t2 np; have F2 := FB.turn HF.out t2 nf)
    | (go_at_call 60; refine (srcLedger_at HS.out).mono ?_; rintro e w1 ⟨rfl, rfl⟩))
  exact bodyPost_ret (v := .tuple #[.pointer none, fltV 4 32]) (by simp [results, Tryz.results140, go_sem, f0, f1, f2', fltV]) rfl ⟨y1, Blk.st3 l3 (Blk.ne_ l3 F3 (by decide)), HY.out.2.2, Turn.st3 T3 (.inr (Nat.le_refl _)), .inl ⟨4, 32, by decide, rfl, HY.out.2.1, fun z k _ => HR.out z _⟩⟩
set_option maxRecDepth 100000 in
set_option maxHeartbeats 4000000 in
theorem sunTable_yes {w : World} {p g : Nat} {s : ByteArray} {h : SunHd} {y y1 : Led} (hh : h.Ok) (hn : 0 < h.n) (hsm : s.size ≤ 1099511627776) (h32 : 32 ≤ s.size) (S0 : SrcAt w p g s 0 s.size 32) (L0 : LedAt w g y) (ok : y.Ok) (hr : y.reason = 0) (e1 : y.take ((4 * h.n : Nat) : Int) = (y1, true)) :
    Calls Tryz.prog 140 #[.pointer (some ⟨p, 0, none⟩), .int .i64 (h.n : Int)] w fun e w' => TabPost w w' p g s h y e := by
  have F0 := FB.new w
  have S1 : SrcAt (w.alloc (.cells #[.int .i64 0, .int .i64 0, .int .i64 0] 31)) p g s 0 s.size 32 := Blk.alloc S0 _
  have L1 : LedAt (w.alloc (.cells #[.int .i64 0, .int .i64 0, .int .i64 0] 31)) g y := Blk.alloc L0 _
  have T1 : Turn [p, g] w (w.alloc (.cells #[.int .i64 0, .int .i64 0, .int .i64 0] 31)) := (Turn.refl _ _).alloc _
  have nf : w.heap.size ∉ [g] := by have := Blk.lt L0; simp; omega
  have np : p ∉ [g] := by simpa using Blk.ne_ S0 L0 (by decide)
  have nf2 : w.heap.size ∉ [p, g] := by have := Blk.lt S0; have := Blk.lt L0; simp; omega
  have hn2 := hh.n
  have hnI : (h.n : Int) ≤ 256 := by omega
  obtain ⟨_, yr1, yb1, _⟩ := led_take_yes (x := y) (n := ((4 * h.n : Nat) : Int)) (by rw [e1])
  rw [e1] at yr1 yb1
  have ok1 : y1.Ok := by have := ok.take ((4 * h.n : Nat) : Int); rw [e1] at this; exact this
  have HN := Lib.hid (palNew_yes L1 ok e1 hn (by omega))
  have hrun := fun z k => run_hold_yes (x := y) (y := y1) (k := k) (n := 4 * h.n) (fr := z) (a := 32) e1
  have HR := Lib.hid hrun
  have HS := Lib.hid S1
  have HT := Lib.hid T1
  have HF := Lib.hid F0
  have HY := Lib.hid (And.intro yr1 (And.intro yb1 ok1))
  obtain ⟨m3, hm3⟩ : ∃ m3, 3 * h.n = m3 := ⟨_, rfl⟩
  have e3 : 3 * (h.n : Int) = (m3 : Int) := by omega
  have HM3 := Lib.hid hm3
  have HO := Lib.hid (srcOk0 hsm h32)
  have HSM := Lib.hid hsm
  have HNN := Lib.hid hn
  have HN2 := Lib.hid hn2
  have HY0 := Lib.hid ok.y0
  have hsz := Blk.lt S0
  clear S0 L0 S1 L1 T1 F0 ok hr e1 hrun hh hn yr1 yb1 ok1 hm3 hsm h32 hn2
  go_enter Tryz.func140, Tryz.ntmps140
  go_upto_region 4 with (first
    | (go_at_call 97; refine HN.out.mono ?_; rintro e w2 ⟨l, b, d, rfl, P2, B2, l2, hl, hb, hd, t2⟩)
    | (go_at_call 60; refine (srcLedger_at HS.out).mono ?_; rintro e w1 ⟨rfl, rfl⟩))
  have s2 := HS.out.turn t2 np
  have F2 := FB.turn HF.out t2 nf
  have T2 := Lib.hid (HT.out.trans (t2.mono (S' := [p, g]) (by simp)))
  have hl' : w.heap.size ≤ l := by have := Nat.le_of_lt_succ (show w.heap.size < w.heap.size + 1 by omega); have h2 : (w.alloc (.cells #[.int .i64 0, .int .i64 0, .int .i64 0] 31)).heap.size = w.heap.size + 1 := sz1 _ _; omega
  have hb' : w.heap.size ≤ b := by have h2 : (w.alloc (.cells #[.int .i64 0, .int .i64 0, .int .i64 0] 31)).heap.size = w.heap.size + 1 := sz1 _ _; omega
  have hd' : w.heap.size ≤ d := by have h2 : (w.alloc (.cells #[.int .i64 0, .int .i64 0, .int .i64 0] 31)).heap.size = w.heap.size + 1 := sz1 _ _; omega
  have PH : PalHas w2 l b g d h.n [] := has_new P2 B2
  have HP2 := Lib.hid PH
  have HB := Lib.hid (And.intro hl' (And.intro hb' hd'))
  clear P2 B2 PH t2 HN hl hb hd hl' hb' hd' HF HS HT
  go_wp2_with (go_at_call 90; refine (srcTake_ways m3 s2 HO.out l2 HY.out.2.2 HY.out.1).mono ?_; rintro e w3 ⟨y3, l3, ok3, b3, t3, hor⟩; have F3 := FB.turn F2 t3 nf2; have P3 : PalHas w3 l b g d h.n [] := HP2.out.turn t3 (by have h1 := HP2.out.src s2; have h2 := HP2.out.led l2; simp only [List.mem_cons, List.not_mem_nil, or_false, not_or]; exact ⟨h1.1, h2.1⟩) (by have h1 := HP2.out.src s2; have h2 := HP2.out.led l2; simp only [List.mem_cons, List.not_mem_nil, or_false, not_or]; exact ⟨h1.2.1, h2.2.1⟩) (by have h1 := HP2.out.src s2; have h2 := HP2.out.led l2; simp only [List.mem_cons, List.not_mem_nil, or_false, not_or]; exact ⟨h1.2.2, h2.2.2⟩); have T3 := Lib.hid (T2.out.trans t3); rcases hor with ⟨kk, aa, rfl, s3, n3, r3⟩ | ⟨rfl, s3, yr3, hle3, hw3⟩)
  · obtain ⟨n', m', l', PA, PB, hlen⟩ := pal_full P3
    have hby : y3.bytes = y.bytes + 4 * (h.n : Int) := by rw [b3]; have : y1.bytes = y.bytes + ((4 * h.n : Nat) : Int) := HY.out.2.1; omega
    have hy0 := HY0.out
    have hg := give_all hlen (show ((4 * h.n : Nat) : Int) ≤ y3.bytes by omega)
    have hgv := led_give_yes (x := y3) (n := ((4 * h.n : Nat) : Int)) (by omega) (by omega)
    obtain ⟨y4, hy4⟩ : ∃ y4, (y3.give ((4 * h.n : Nat) : Int)).1 = y4 := ⟨_, rfl⟩
    rw [hy4] at hg hgv
    have ok4 : y4.Ok := by have := ok3.give ((4 * h.n : Nat) : Int); rw [hy4] at this; exact this
    have hr4 : y4.reason = y3.reason := by rw [hgv]
    have hb4 : y4.bytes = y.bytes := by rw [hgv]; show y3.bytes - _ = _; omega
    have n4 : NoRead y4 32 s.size kk aa := by unfold NoRead at n3 ⊢; rw [hr4]; exact n3
    have HK := Lib.hid n3.ne
    have HG4 : Hid (∀ z : Nat, (z : Int) ≤ y.bytes → (y3.give ((z + 4 * h.n : Nat) : Int)).1 = (y4.give (z : Int)).1) := Lib.hid (fun z hz => by rw [← hy4]; exact (give_give (by omega)).symm)
    have pn : p ∉ [l, b, g] := by have h1 := P3.src s3; simp only [List.mem_cons, List.not_mem_nil, or_false, not_or]; exact ⟨Ne.symm h1.1, Ne.symm h1.2.1, Blk.ne_ s3 l3 (by decide)⟩
    have fn' : w.heap.size ∉ [l, b, g] := by simp only [List.mem_cons, List.not_mem_nil, or_false, not_or]; exact ⟨Blk.ne_ F3 PA (by decide), Blk.ne_ F3 PB.blk (by decide), Blk.ne_ F3 l3 (by decide)⟩
    have HPF := Lib.hid (palFree_yes PA PB l3 ok3 hg)
    have HS3 := Lib.hid s3
    have HF3 := Lib.hid F3
    have HN4 := Lib.hid n4
    have HO4 := Lib.hid (And.intro ok4 hb4)
    clear PA PB P3 l3 ok3 hg hgv hy4 ok4 hr4 hb4 n4 n3 s3 F3 hby hy0 F2 s2 l2
    go_wp2_with (first
      | (go_at_call 61; refine (srcFault_is 8 s5 l5 HN4.out).mono ?_; rintro e w6 ⟨rfl, b6⟩; have l6 := Blk.below l5 b6 (Blk.lt l5); have F6 := FB.below F5 b6; have T6 := ((T3.out.next t5 (by have := HB.out; simp; omega))).trans (Turn.of_below (S := [p, g]) b6); obtain ⟨f0, f1, f2', z0, z1, z2, fl⟩ := FB.all F6)
      | (go_at_call 99; refine HPF.out.mono ?_; rintro e w5 ⟨rfl, pz, pw, l5, t5⟩; clear pz pw; have s5 := HS3.out.turn t5 pn; have F5 := FB.turn HF3.out t5 fn'))
    exact bodyPost_ret (v := .tuple #[.pointer none, fltV kk aa]) (by simp [results, Tryz.results140, go_sem, f0, f1, f2', fltV]) rfl ⟨y4, Blk.st3 l6 (Blk.ne_ l6 F6 (by decide)), HO4.out.1, Turn.st3 T6 (.inr (Nat.le_refl _)), .inl ⟨kk, aa, HK.out, rfl, HO4.out.2, fun z k hz => by unfold tabD; rw [HR.out, HM3.out]; exact (r3 _ _).trans (by rw [HG4.out z hz])⟩⟩
  · have hby : y3.bytes = y.bytes + 4 * (h.n : Int) := by rw [b3]; have : y1.bytes = y.bytes + ((4 * h.n : Nat) : Int) := HY.out.2.1; omega
    have hsB := extract_size s 32 m3 hle3
    have hbB : ∀ j, j < m3 → bat (s.extract 32 (32 + m3)) j = bat s (32 + j) := fun j hj => bat_extract s 32 m3 j hj
    generalize s.extract 32 (32 + m3) = B at hsB hbB ⊢
    have HBY := Lib.hid hby
    have HBB := Lib.hid hbB
    have HI := Lib.hid (And.intro s3 (And.intro l3 (And.intro F3 T3.out)))
    have HP3 := Lib.hid P3
    have HR3 := Lib.hid (And.intro ok3 (And.intro yr3 (And.intro hle3 hw3)))
    clear s3 l3 F3 T3 P3 hby hbB ok3 yr3 hle3 hw3 F2 s2 l2 HP2 HO
    go_wp2_with fail
    go_loopg [36] h.n (fun gh v wr => ∃ i gk : Nat, gk = gh ∧ i + gk = h.n ∧ v = .int .i64 (i : Int) ∧ Hid (PalHas wr l b g d h.n ((sunPal s h).take i) ∧ SrcAt wr p g s 0 s.size (32 + m3) ∧ LedAt wr g y3 ∧ FB wr w.heap.size 0 0 0 ∧ Turn [p, g] w wr))
    case atStart => exact ⟨0, h.n, rfl, by omega, rfl, Lib.hid ⟨HP3.out, HI.out⟩⟩
    case round =>
      obtain ⟨i, gk, rfl, hi, rfl, hP⟩ := hrel
      clear HI HP3
      by_cases hi4 : i < h.n
      · have hiI : (i : Int) < (h.n : Int) := by omega
        have m3e := HM3.out
        obtain ⟨gm, rfl⟩ : ∃ gm, gk = gm + 1 := ⟨gk - 1, by omega⟩
        obtain ⟨j1, hj1⟩ : ∃ j1, h.n + i = j1 := ⟨_, rfl⟩
        obtain ⟨n2, hn2⟩ : ∃ n2, 2 * h.n = n2 := ⟨_, rfl⟩
        obtain ⟨j2, hj2⟩ : ∃ j2, n2 + i = j2 := ⟨_, rfl⟩
        have q1 : (h.n : Int) + (i : Int) = (j1 : Int) := by omega
        have q2 : 2 * (h.n : Int) = (n2 : Int) := by omega
        have q3 : (n2 : Int) + (i : Int) = (j2 : Int) := by omega
        have b0 : (i : Int) < (B.size : Int) := by omega
        have b1 : (j1 : Int) < (B.size : Int) := by omega
        have b2 : (j2 : Int) < (B.size : Int) := by omega
        have c0 : i < B.size := by omega
        have c1 : j1 < B.size := by omega
        have c2 : j2 < B.size := by omega
        have w1 : (j1 : Int) ≤ 768 := by omega
        have w2 : (n2 : Int) ≤ 768 := by omega
        have w3 : (j2 : Int) ≤ 768 := by omega
        have v1 : IntKind.i64.wrap (j1 : Int) = (j1 : Int) := IntWalk.i64_in _ (by omega)
        have v2 : IntKind.i64.wrap (n2 : Int) = (n2 : Int) := IntWalk.i64_in _ (by omega)
        have v3 : IntKind.i64.wrap (j2 : Int) = (j2 : Int) := IntWalk.i64_in _ (by omega)
        obtain ⟨c, hc⟩ : ∃ c : Qc, c = ⟨b8 s (32 + i), b8 s (32 + h.n + i), b8 s (32 + 2 * h.n + i), 255⟩ := ⟨_, rfl⟩
        have u0 : ((B[i].toNat : Nat) : Int) = (c.r.toNat : Int) := by rw [hc, b8_int, ← bat_eq c0, HBB.out i (by omega)]
        have u1 : ((B[j1].toNat : Nat) : Int) = (c.g.toNat : Int) := by rw [hc, b8_int, ← bat_eq c1, HBB.out j1 (by omega), ← hj1, Nat.add_assoc]
        have u2 : ((B[j2].toNat : Nat) : Int) = (c.b.toNat : Int) := by rw [hc, b8_int, ← bat_eq c2, HBB.out j2 (by omega), ← hj2, ← hn2, Nat.add_assoc]
        have u3 : (255 : Int) = (c.a.toNat : Int) := by rw [hc]; rfl
        have HU3 := Lib.hid u3
        have ht : (sunPal s h).take (i + 1) = (sunPal s h).take i ++ [c] := by rw [hc]; exact sunPal_take hi4
        have HTK := Lib.hid ht
        have HLI : Hid (((sunPal s h).take i).length < h.n) := Lib.hid (by rw [List.length_take]; omega)
        have HGI := Lib.hid hi
        clear hc hj1 hn2 hj2 m3e u3 ht hsB hi
        go_upto_region 11 with fail
        refine wp_region_held_drew (S := (fun _ => True)) (by kernel_rfl) trivial (fun hHeld => ?_)
        refine wpAnyH_take (i := 0) (v := ?_) rfl (by kernel_rfl) (by kernel_rfl) (by kernel_rfl) (fun _ _ _ h => h) (Or.inl ⟨by kernel_rfl, ?_⟩) (by assumption) ?_
        rotate_left
        · intro w hSw; (try dsimp only at hSw); go_simp; (try with_reducible rfl)
        (try simp only [Act.put, List.setIfInBounds_toArray, List.set_cons_zero, List.set_cons_succ])
        refine wpAnyH_take (i := 1) (v := ?_) rfl (by kernel_rfl) (by kernel_rfl) (by kernel_rfl) (fun _ _ _ h => h) (Or.inl ⟨by kernel_rfl, ?_⟩) (by assumption) ?_
        rotate_left
        · intro w hSw; (try dsimp only at hSw); go_simp; (try with_reducible rfl)
        (try simp only [Act.put, List.setIfInBounds_toArray, List.set_cons_zero, List.set_cons_succ])
        refine wpAnyH_take (i := 2) (v := ?_) rfl (by kernel_rfl) (by kernel_rfl) (by kernel_rfl) (fun _ _ _ h => h) (Or.inl ⟨by kernel_rfl, ?_⟩) (by assumption) ?_
        rotate_left
        · intro w hSw; (try dsimp only at hSw); go_simp; (try with_reducible rfl)
        (try simp only [Act.put, List.setIfInBounds_toArray, List.set_cons_zero, List.set_cons_succ])
        refine wpAnyH_take (i := 3) (v := ?_) rfl (by kernel_rfl) (by kernel_rfl) (by kernel_rfl) (fun _ _ _ h => h) (Or.inl ⟨by kernel_rfl, ?_⟩) (by assumption) ?_
        rotate_left
        · intro w hSw; (try dsimp only at hSw); go_simp; (try with_reducible rfl)
        (try simp only [Act.put, List.setIfInBounds_toArray, List.set_cons_zero, List.set_cons_succ])
        refine wpAnyH_take (i := 4) (v := ?_) rfl (by kernel_rfl) (by kernel_rfl) (by kernel_rfl) (fun _ _ _ h => h) (Or.inl ⟨by kernel_rfl, ?_⟩) (by assumption) ?_
        rotate_left
        · intro w hSw; (try dsimp only at hSw); go_simp; (try with_reducible rfl)
        (try simp only [Act.put, List.setIfInBounds_toArray, List.set_cons_zero, List.set_cons_succ])
        refine wpAnyH_take (i := 5) (v := ?_) rfl (by kernel_rfl) (by kernel_rfl) (by kernel_rfl) (fun _ _ _ h => h) (Or.inl ⟨by kernel_rfl, ?_⟩) (by assumption) ?_
        rotate_left
        · intro w hSw; (try dsimp only at hSw); go_simp; (try with_reducible rfl)
        (try simp only [Act.put, List.setIfInBounds_toArray, List.set_cons_zero, List.set_cons_succ])
        refine wpAnyH_take (i := 6) (v := ?_) rfl (by kernel_rfl) (by kernel_rfl) (by kernel_rfl) (fun _ _ _ h => h) (Or.inl ⟨by kernel_rfl, ?_⟩) (by assumption) ?_
        rotate_left
        · intro w hSw; (try dsimp only at hSw); go_simp; (try with_reducible rfl)
        (try simp only [Act.put, List.setIfInBounds_toArray, List.set_cons_zero, List.set_cons_succ])
        refine wpAnyH_take (i := 7) (v := ?_) rfl (by kernel_rfl) (by kernel_rfl) (by kernel_rfl) (fun _ _ _ h => h) (Or.inl ⟨by kernel_rfl, ?_⟩) (by assumption) ?_
        rotate_left
        · intro w hSw; (try dsimp only at hSw); go_simp; (try with_reducible rfl)
        (try simp only [Act.put, List.setIfInBounds_toArray, List.set_cons_zero, List.set_cons_succ])
        refine wpAnyH_take (i := 8) (v := ?_) rfl (by kernel_rfl) (by kernel_rfl) (by kernel_rfl) (fun _ _ _ h => h) (Or.inl ⟨by kernel_rfl, ?_⟩) (by assumption) ?_
        rotate_left
        · intro w hSw; (try dsimp only at hSw); go_simp; (try with_reducible rfl)
        (try simp only [Act.put, List.setIfInBounds_toArray, List.set_cons_zero, List.set_cons_succ])
        refine wpAnyH_take (i := 9) (v := ?_) rfl (by kernel_rfl) (by kernel_rfl) (by kernel_rfl) (fun _ _ _ h => h) (Or.inl ⟨by kernel_rfl, ?_⟩) (by assumption) ?_
        rotate_left
        · intro w hSw; (try dsimp only at hSw); go_simp; (try with_reducible rfl)
        (try simp only [Act.put, List.setIfInBounds_toArray, List.set_cons_zero, List.set_cons_succ])
        refine wpAnyH_take (i := 10) (v := ?_) rfl (by kernel_rfl) (by kernel_rfl) (by kernel_rfl) (fun _ _ _ h => h) (Or.inl ⟨by kernel_rfl, ?_⟩) (by assumption) ?_
        rotate_left
        · intro w hSw; (try dsimp only at hSw); go_simp; (try with_reducible rfl)
        (try simp only [Act.put, List.setIfInBounds_toArray, List.set_cons_zero, List.set_cons_succ])
        refine wpAnyH_take (i := 11) (v := ?_) rfl (by kernel_rfl) (by kernel_rfl) (by kernel_rfl) (fun _ _ _ h => h) (Or.inl ⟨by kernel_rfl, ?_⟩) (by assumption) ?_
        rotate_left
        · intro w hSw; (try dsimp only at hSw); go_simp; (try with_reducible rfl)
        (try simp only [Act.put, List.setIfInBounds_toArray, List.set_cons_zero, List.set_cons_succ])
        refine wpAnyH_take (i := 12) (v := ?_) rfl (by kernel_rfl) (by kernel_rfl) (by kernel_rfl) (fun _ _ _ h => h) (Or.inl ⟨by kernel_rfl, ?_⟩) (by assumption) ?_
        rotate_left
        · intro w hSw; (try dsimp only at hSw); go_simp; (try with_reducible rfl)
        (try simp only [Act.put, List.setIfInBounds_toArray, List.set_cons_zero, List.set_cons_succ])
        refine wpAnyH_take (i := 13) (v := ?_) rfl (by kernel_rfl) (by kernel_rfl) (by kernel_rfl) (fun _ _ _ h => h) (Or.inl ⟨by kernel_rfl, ?_⟩) (by assumption) ?_
        rotate_left
        · intro w hSw; (try dsimp only at hSw); go_simp; (try with_reducible rfl)
        (try simp only [Act.put, List.setIfInBounds_toArray, List.set_cons_zero, List.set_cons_succ])
        refine wpAnyH_take (i := 14) (v := ?_) rfl (by kernel_rfl) (by kernel_rfl) (by kernel_rfl) (fun _ _ _ h => h) (Or.inl ⟨by kernel_rfl, ?_⟩) (by assumption) ?_
        rotate_left
        · intro w hSw; (try dsimp only at hSw); go_simp; (try with_reducible rfl)
        (try simp only [Act.put, List.setIfInBounds_toArray, List.set_cons_zero, List.set_cons_succ])
        refine wpAnyH_take (i := 15) (v := ?_) rfl (by kernel_rfl) (by kernel_rfl) (by kernel_rfl) (fun _ _ _ h => h) (Or.inl ⟨by kernel_rfl, ?_⟩) (by assumption) ?_
        rotate_left
        · intro w hSw; (try dsimp only at hSw); go_simp; (try with_reducible rfl)
        (try simp only [Act.put, List.setIfInBounds_toArray, List.set_cons_zero, List.set_cons_succ])
        refine wpAnyH_ready (rs := [16]) (by kernel_rfl) (by simp) ?_
        refine AllReadyH.cons rfl (fun K hK => ?_) AllReadyH.nil
        go_simp
        rw [HU3.out]
        refine (has_add (Blk_drewP hP.out.1) HLI.out (by omega) c).mono ?_
        rintro e w5 ⟨rfl, P5, t5⟩
        have hs5 := hP.out.2.1
        have hl5 := hP.out.2.2.1
        have hf5 := hP.out.2.2.2.1
        have hpp := hP.out.1
        have h1 := hpp.src hs5
        have h2 := hpp.led hl5
        have h3 : l ≠ w.heap.size ∧ d ≠ w.heap.size := by
          obtain ⟨k1, _, rest, k3, _⟩ := hpp
          exact ⟨Blk.ne_ k1 hf5 (by decide), Blk.ne_ k3.row hf5 (by decide)⟩
        have HQ : Hid (PalHas w5 l b g d h.n ((sunPal s h).take (i + 1)) ∧ SrcAt w5 p g s 0 s.size (32 + m3) ∧ LedAt w5 g y3 ∧ FB w5 w.heap.size 0 0 0 ∧ Turn [p, g] w w5) := Lib.hid ⟨by rw [HTK.out]; exact P5, (SrcAt.drew' hs5).turn t5 (by simp only [List.mem_cons, List.not_mem_nil, or_false, not_or]; exact ⟨Ne.symm h1.1, Ne.symm h1.2.2⟩), LedAt.turn (Blk.drew hl5) t5 (by simp only [List.mem_cons, List.not_mem_nil, or_false, not_or]; exact ⟨Ne.symm h2.1, Ne.symm h2.2.2⟩), FB.turn (Blk.drew hf5) t5 (by simp only [List.mem_cons, List.not_mem_nil, or_false, not_or]; exact ⟨Ne.symm h3.1, Ne.symm h3.2⟩), (hP.out.2.2.2.2.drew).next t5 (by have := HB.out; simp; omega)⟩
        refine hK.out _ _ trivial (fun hHeld' => ?_)
        clear hK K hHeld
        have hHeld := hHeld'
        clear hHeld'
        (try simp only [Act.put, List.setIfInBounds_toArray, List.set_cons_zero, List.set_cons_succ])
        refine wpAnyH_done (by kernel_rfl) ?_ _
        (try simp only [List.getElem_toArray, List.getElem_cons_succ, List.getElem_cons_zero, List.set_cons_zero, List.set_cons_succ])
        clear hHeld
        go_wp2_with fail
        go_roundg gm
        case measure => omega
        case rel => exact ⟨i + 1, gm, rfl, by have := HGI.out; omega, by go_num, HQ⟩
      · have hin : i = h.n := by omega
        have hg0 : gk = 0 := by omega
        have hiI : ¬ (i : Int) < (h.n : Int) := by omega
        obtain ⟨f0, f1, f2', z0, z1, z2, fl⟩ := FB.all hP.out.2.2.2.1
        have HPP : Hid (PalHas wr l b g d h.n (sunPal s h)) := Lib.hid (by have := hP.out.1; rw [hin, List.take_of_length_le (by rw [sunPal_len]; exact Nat.le_refl _)] at this; exact this)
        clear hin hi hi4 hg0
        go_wp2_with fail
        have hf := hP.out.2.2.2.1
        have hpm := HPP.out
        have pnf : l ≠ w.heap.size ∧ b ≠ w.heap.size ∧ d ≠ w.heap.size := by
          obtain ⟨k1, _, rest, k3, _⟩ := hpm
          exact ⟨Blk.ne_ k1 hf (by decide), Blk.ne_ k3.blk hf (by decide), Blk.ne_ k3.row hf (by decide)⟩
        exact bodyPost_ret (v := .tuple #[.pointer (some ⟨l, 0, none⟩), flt0]) (by simp [results, Tryz.results140, go_sem, f0, f1, f2', flt0]) rfl ⟨y3, Blk.st3 hP.out.2.2.1 (Blk.ne_ hP.out.2.2.1 hf (by decide)), HR3.out.1, Turn.st3 hP.out.2.2.2.2 (.inr (Nat.le_refl _)), .inr ⟨l, b, d, rfl, HPP.out.turn (Turn.st3 (Turn.refl [w.heap.size] _) (.inl (by simp))) (by simpa using pnf.1) (by simpa using pnf.2.1) (by simpa using pnf.2.2), HB.out.1, HB.out.2.1, HB.out.2.2, HR3.out.2.1, HBY.out, by rw [HM3.out]; exact HR3.out.2.2.1, by rw [HM3.out]; exact Blk.st3 hP.out.2.1 (Blk.ne_ hP.out.2.1 hf (by decide)), fun z k => by unfold tabD; rw [HR.out, run_work_yes HR3.out.2.2.2, HM3.out, if_pos HR3.out.2.2.1]⟩⟩
theorem sunTableC {w : World} {p g : Nat} {s : ByteArray} {h : SunHd} {y : Led} (hh : h.Ok) (hn : 0 < h.n) (hsm : s.size ≤ 1099511627776) (h32 : 32 ≤ s.size) (S0 : SrcAt w p g s 0 s.size 32) (L0 : LedAt w g y) (ok : y.Ok) (hr : y.reason = 0) :
    Calls Tryz.prog 140 #[.pointer (some ⟨p, 0, none⟩), .int .i64 (h.n : Int)] w fun e w' => TabPost w w' p g s h y e := by
  obtain ⟨y1, v, hw⟩ : ∃ y1 v, y.take ((4 * h.n : Nat) : Int) = (y1, v) := ⟨_, _, rfl⟩
  cases v with
  | false => exact sunTable_no hh hn hsm h32 S0 L0 ok hr hw
  | true => exact sunTable_yes hh hn hsm h32 S0 L0 ok hr hw
end Go.Proofs.YtccldalagbfmhaaGreat
namespace Go.Proofs.YtccldalagbfmhaaGreat
open Go.RowKit
set_option linter.unusedVariables false
set_option linter.unusedSimpArgs false

theorem sunHead_cut (s : ByteArray) : sunHead (s.extract 0 (0 + 32)) = sunHead s ∧ sunHd (s.extract 0 (0 + 32)) = sunHd s := by
  have h : ∀ k, k < 32 → bat (s.extract 0 (0 + 32)) k = bat s k := fun k hk => by rw [bat_extract s 0 32 k hk, Nat.zero_add]
  unfold sunHead sunChecks sunHd
  rw [offFrom_ext h 4 0 (by omega), beN_ext h 4 4 (by omega), beN_ext h 8 4 (by omega), beN_ext h 12 4 (by omega), beN_ext h 20 4 (by omega), beN_ext h 24 4 (by omega), beN_ext h 28 4 (by omega)]
  exact ⟨rfl, rfl⟩
theorem sunParseC {b : ByteArray} (hb : b.size = 32) (w : World) :
    Calls Tryz.prog 137 #[.string b, .int .i64 0] w fun e w' => ((∃ f : Nat × Nat, sunHead b = some f ∧ e = .returned (.tuple #[sunPic0, fltV f.1 f.2])) ∨ (sunHead b = none ∧ e = .returned (.tuple #[sunPicV (sunHd b), flt0]))) ∧ Below w.heap.size w w' := by
  have o := offFrom_is b sunW 4 0
  unfold sunHead
  by_cases h : offFrom b sunW 4 0 < 4
  · rw [if_pos h]
    refine (sunParse_word hb h o w).mono ?_
    rintro e w' ⟨rfl, bl⟩
    exact ⟨.inl ⟨_, rfl, rfl⟩, bl⟩
  · rw [if_neg h]
    have e : offFrom b sunW 4 0 = 4 := by have := o.hi; omega
    rw [e] at o
    refine (sunParse_rest hb o rfl rfl rfl rfl rfl rfl w).mono ?_
    rintro e w' ⟨hor, bl⟩
    refine ⟨?_, bl⟩
    rcases hor with ⟨f, h1, rfl⟩ | ⟨h1, rfl⟩
    · exact .inl ⟨f, h1, rfl⟩
    · exact .inr ⟨h1, rfl⟩
theorem sunDec_run_no {s : ByteArray} {x y : Led} (e : x.work 1 = (y, false)) (hb : 0 ≤ y.bytes) : (sunDec s).run x = (y, .bad 4 0) := by
  unfold sunDec
  rw [run_work_no e, give_zero hb]
theorem sunDec_run_yes {s : ByteArray} {x y : Led} (e : x.work 1 = (y, true)) : (sunDec s).run x = (if s.size < 32 then Dec.fin (.bad 1 s.size) else match sunHead s with | some f => .fin (.bad f.1 f.2) | none => sunBody s (sunHd s)).run y := by
  unfold sunDec
  exact run_work_yes e
/-- what a head's reading leaves -/
def BegPost (w w' : World) (p g : Nat) (s : ByteArray) (y : Led) (e : Ending) (no : Value) (yes : Value) : Prop :=
  ∃ y', LedAt w' g y' ∧ y'.Ok ∧ y'.bytes = y.bytes ∧ Turn [p, g] w w' ∧
    ((∃ kk aa : Nat, kk ≠ 0 ∧ e = .returned (.tuple #[no, fltV kk aa]) ∧ (sunDec s).run y = (y', .bad kk aa) ∧ ((y.work 1).2 = true → s.size < 32 ∨ sunHead s ≠ none)) ∨
     (e = .returned (.tuple #[yes, flt0]) ∧ SrcAt w' p g s 0 s.size 32 ∧ y'.reason = 0 ∧ 32 ≤ s.size ∧ sunHead s = none ∧ y.work 1 = (y', true)))
theorem Turn.st5 {S : List Nat} {a w : World} {b : Nat} {u0 u1 u2 u3 u4 : Value} (h : Turn S a w) (hb : b ∈ S ∨ a.heap.size ≤ b) : Turn S a (st5 w b u0 u1 u2 u3 u4) := ((((h.set_ 0 u0 hb).set_ 1 u1 hb).set_ 2 u2 hb).set_ 3 u3 hb).set_ 4 u4 hb
theorem pf_all {w : World} {T : TypeId} {p f : Nat} (P : Blk w p T #[.int .i64 0, .int .i64 0, .int .i64 0, .int .i64 0, .int .i64 0]) (F : FB w f 0 0 0) : w.cell? ⟨p, 0, none⟩ = some (.int .i64 0) ∧ w.cell? ⟨p, 1, none⟩ = some (.int .i64 0) ∧ w.cell? ⟨p, 2, none⟩ = some (.int .i64 0) ∧ w.cell? ⟨p, 3, none⟩ = some (.int .i64 0) ∧ w.cell? ⟨p, 4, none⟩ = some (.int .i64 0) ∧ w.frozen? ⟨p, 0, none⟩ = false ∧ w.frozen? ⟨p, 1, none⟩ = false ∧ w.frozen? ⟨p, 2, none⟩ = false ∧ w.frozen? ⟨p, 3, none⟩ = false ∧ w.frozen? ⟨p, 4, none⟩ = false ∧ p < w.heap.size ∧
    w.cell? ⟨f, 0, none⟩ = some (.int .i64 0) ∧ w.cell? ⟨f, 1, none⟩ = some (.int .i64 0) ∧ w.cell? ⟨f, 2, none⟩ = some (.int .i64 0) ∧ w.frozen? ⟨f, 0, none⟩ = false ∧ w.frozen? ⟨f, 1, none⟩ = false ∧ w.frozen? ⟨f, 2, none⟩ = false ∧ f < w.heap.size :=
  ⟨Blk.cell P 0, Blk.cell P 1, Blk.cell P 2, Blk.cell P 3, Blk.cell P 4, Blk.frozen P 0, Blk.frozen P 1, Blk.frozen P 2, Blk.frozen P 3, Blk.frozen P 4, Blk.lt P, Blk.cell F 0, Blk.cell F 1, Blk.cell F 2, Blk.frozen F 0, Blk.frozen F 1, Blk.frozen F 2, Blk.lt F⟩
def PicB (w : World) (q : Nat) : Prop := Blk w q 97 #[.int .i64 0, .int .i64 0, .int .i64 0, .int .i64 0, .int .i64 0]
set_option maxRecDepth 100000 in
set_option maxHeartbeats 2000000 in
theorem sunBeginC {w : World} {p g : Nat} {s : ByteArray} {y : Led} (hsm : s.size ≤ 1099511627776) (S0 : SrcAt w p g s 0 s.size 0) (L0 : LedAt w g y) (ok : y.Ok) (hr : y.reason = 0) :
    Calls Tryz.prog 59 #[.pointer (some ⟨p, 0, none⟩)] w fun e w' => BegPost w w' p g s y e sunPic0 (sunPicV (sunHd s)) := by
  have I0 := PF.new w 97 (by decide)
  have S1 : SrcAt ((w.alloc (.cells #[.int .i64 0, .int .i64 0, .int .i64 0, .int .i64 0, .int .i64 0] 97)).alloc (.cells #[.int .i64 0, .int .i64 0, .int .i64 0] 31)) p g s 0 s.size 0 := Blk.alloc (Blk.alloc S0 _) _
  have L1 : LedAt ((w.alloc (.cells #[.int .i64 0, .int .i64 0, .int .i64 0, .int .i64 0, .int .i64 0] 97)).alloc (.cells #[.int .i64 0, .int .i64 0, .int .i64 0] 31)) g y := Blk.alloc (Blk.alloc L0 _) _
  have T1 : Turn [p, g] w ((w.alloc (.cells #[.int .i64 0, .int .i64 0, .int .i64 0, .int .i64 0, .int .i64 0] 97)).alloc (.cells #[.int .i64 0, .int .i64 0, .int .i64 0] 31)) := ((Turn.refl _ _).alloc _).alloc _
  have HO := Lib.hid (srcOk0 hsm (Nat.zero_le s.size))
  have hpf : w.heap.size ≠ w.heap.size + 1 := by omega
  have hfp := hpf.symm
  have hlp := Blk.lt S0
  have hlg := Blk.lt L0
  have n1 : p ≠ w.heap.size := by omega
  have n2 : p ≠ w.heap.size + 1 := by omega
  have n3 : g ≠ w.heap.size := by omega
  have n4 : g ≠ w.heap.size + 1 := by omega
  generalize hws : (w.alloc (.cells #[.int .i64 0, .int .i64 0, .int .i64 0, .int .i64 0, .int .i64 0] 97)).alloc (.cells #[.int .i64 0, .int .i64 0, .int .i64 0] 31) = ws at I0 S1 L1 T1
  have HWS := Lib.hid hws
  generalize hf : w.heap.size + 1 = f at I0 hpf hfp n2 n4
  have HF := Lib.hid hf
  have hfl : w.heap.size ≤ f := by omega
  have HI := Lib.hid I0
  have HS := Lib.hid S1
  have HL := Lib.hid L1
  have HT := Lib.hid T1
  have HK := Lib.hid ok
  have HR := Lib.hid hr
  have HSM := Lib.hid hsm
  clear I0 S1 L1 T1 hws hf S0 L0 ok hr hsm hlp hlg
  go_enter Tryz.func59, Tryz.ntmps59
  go_upto_region 2 with (go_at_call 89; refine (srcAt_at (a := 0) (by rw [HWS.out]; exact HS.out)).mono ?_; rintro e w1 ⟨rfl, rfl⟩)
  rw [HWS.out, HF.out]
  go_wp2_with (go_at_call 90; refine (srcTake_ways 32 HS.out HO.out HL.out HK.out HR.out).mono ?_; rintro e w2 ⟨y2, l2, ok2, b2, t2, hor⟩; have P2 : Blk w2 w.heap.size 97 #[.int .i64 0, .int .i64 0, .int .i64 0, .int .i64 0, .int .i64 0] := Blk.turn HI.out.P t2 (by simp only [List.mem_cons, List.not_mem_nil, or_false, not_or]; exact ⟨n1.symm, n3.symm⟩); have F2 : FB w2 f 0 0 0 := Blk.turn HI.out.F t2 (by simp only [List.mem_cons, List.not_mem_nil, or_false, not_or]; exact ⟨n2.symm, n4.symm⟩); have T2 := HT.out.trans t2; rcases hor with ⟨kk, aa, rfl, s2, nr2, r2⟩ | ⟨rfl, s2, yr2, hle2, hw2⟩)
  · have HN := Lib.hid nr2
    have hrun : (sunDec s).run y = (y2, .bad kk aa) ∧ ((y.work 1).2 = true → s.size < 32 ∨ sunHead s ≠ none) := by
      rcases led_work_ways 1 HK.out HR.out with ⟨yy, e, _, yyr, _⟩ | ⟨yy, e, _, yyr, _⟩
      · have h1 := r2 0 (.fin (.bad 0 0))
        rw [run_work_no e] at h1
        have h2 := sunDec_run_no (s := s) e (by have := (by have := HK.out.work 1; rw [e] at this; exact this : yy.Ok).y0; exact this)
        have h3 : (yy, DRes.bad 4 0) = ((y2.give ((0 : Nat) : Int)).1, DRes.bad kk aa) := by rw [← give_zero (x := yy) ((by have := HK.out.work 1; rw [e] at this; exact this : yy.Ok).y0)]; exact h1
        exact ⟨by rw [h2, h3, give_zero ok2.y0], fun h => by rw [e] at h; cases h⟩
      · have h1 := r2 0 (.fin (.bad 0 0))
        rw [run_work_yes e] at h1
        have h2 := sunDec_run_yes (s := s) e
        by_cases hs : 0 + 32 ≤ s.size
        · rw [if_pos hs] at h1
          have h4 : DRes.bad 0 0 = DRes.bad kk aa := congrArg Prod.snd h1
          injection h4 with h5 h6
          exact absurd h5.symm nr2.ne
        · rw [if_neg hs] at h1
          have h4 : ((yy.give ((0 : Nat) : Int)).1, DRes.bad 1 s.size) = ((y2.give ((0 : Nat) : Int)).1, DRes.bad kk aa) := h1
          rw [give_zero (by have := HK.out.work 1; rw [e] at this; exact this.y0), give_zero ok2.y0] at h4
          exact ⟨by rw [h2, if_pos (by omega)]; exact h4, fun _ => .inl (by omega)⟩
    have HRN := Lib.hid hrun
    have HS2 := Lib.hid s2
    have HL2 := Lib.hid l2
    have HP2 := Lib.hid P2
    have HF2 := Lib.hid F2
    have HT2 := Lib.hid T2
    clear s2 l2 P2 F2 T2 t2 r2 nr2 hrun
    go_wp2_with (go_at_call 61; refine (srcFault_is 8 HS2.out HL2.out HN.out).mono ?_; rintro e w3 ⟨rfl, b3⟩; have P3 := Blk.below HP2.out b3 (Blk.lt HP2.out); have F3 : FB w3 f 0 0 0 := Blk.below HF2.out b3 (Blk.lt HF2.out); have l3 := Blk.below HL2.out b3 (Blk.lt HL2.out); have T3 := HT2.out.trans (Turn.of_below (S := [p, g]) b3); obtain ⟨c0, c1, c2, c3, c4, z0, z1, z2, z3, z4, zl, d0, d1, d2, y0, y1, y2', yl⟩ := pf_all P3 F3)
    exact bodyPost_ret (v := .tuple #[sunPic0, fltV kk aa]) (by simp [results, Tryz.results59, go_sem, c0, c1, c2, c3, c4, d0, d1, d2, hpf, hfp, sunPic0, fltV]) rfl ⟨y2, Blk.st3 (Blk.st5 l3 n3) n4, ok2, b2, Turn.st3 (Turn.st5 T3 (.inr (Nat.le_refl _))) (.inr hfl), .inl ⟨kk, aa, HN.out.ne, rfl, HRN.out.1, HRN.out.2⟩⟩
  · have hrun : y.work 1 = (y2, true) := hw2
    have e0 : s.extract 0 (0 + 32) = s.extract 0 (0 + 32) := rfl
    obtain ⟨hc1, hc2⟩ := sunHead_cut s
    have HP := Lib.hid (fun w => sunParseC (b := s.extract 0 (0 + 32)) (extract_size s 0 32 hle2) w)
    rw [hc1, hc2] at HP
    have HL2 := Lib.hid (And.intro l2 (And.intro s2 (And.intro yr2 (And.intro hle2 hw2))))
    have HP2 := Lib.hid P2
    have HF2 := Lib.hid F2
    have HT2 := Lib.hid T2
    have HRY := Lib.hid (sunDec_run_yes (s := s) hw2)
    clear l2 s2 yr2 hle2 hw2 P2 F2 T2 t2 hc1 hc2 e0 hrun
    generalize s.extract 0 (0 + 32) = bb at HP ⊢
    go_wp2_with (go_at_call 137; refine (HP.out _).mono ?_; rintro e w3 ⟨hor, b3⟩; have P3 := Blk.below HP2.out b3 (Blk.lt HP2.out); have F3 : FB w3 f 0 0 0 := Blk.below HF2.out b3 (Blk.lt HF2.out); have l3 := Blk.below HL2.out.1 b3 (Blk.lt HL2.out.1); have s3 := Blk.below HL2.out.2.1 b3 (Blk.lt HL2.out.2.1); have T3 := HT2.out.trans (Turn.of_below (S := [p, g]) b3); obtain ⟨c0, c1, c2, c3, c4, z0, z1, z2, z3, z4, zl, d0, d1, d2, y0, y1, y2', yl⟩ := pf_all P3 F3; simp only [sunPic0, fltV, flt0, sunPicV] at hor; rcases hor with ⟨ff, hh, rfl⟩ | ⟨hh, rfl⟩)
    · exact bodyPost_ret (v := .tuple #[sunPic0, fltV ff.1 ff.2]) (by simp [results, Tryz.results59, go_sem, c0, c1, c2, c3, c4, d0, d1, d2, hpf, hfp, sunPic0, fltV]) rfl ⟨y2, Blk.st3 (Blk.st5 l3 n3) n4, ok2, b2, Turn.st3 (Turn.st5 T3 (.inr (Nat.le_refl _))) (.inr hfl), .inl ⟨ff.1, ff.2, (sunHead_some hh).1, rfl, by rw [HRY.out, if_neg (by have := HL2.out.2.2.2.1; omega), hh]; rfl, fun _ => .inr (by rw [hh]; simp)⟩⟩
    · exact bodyPost_ret (v := .tuple #[sunPicV (sunHd s), flt0]) (by simp [results, Tryz.results59, go_sem, c0, c1, c2, c3, c4, d0, d1, d2, hpf, hfp, sunPicV, flt0]) rfl ⟨y2, Blk.st3 (Blk.st5 l3 n3) n4, ok2, b2, Turn.st3 (Turn.st5 T3 (.inr (Nat.le_refl _))) (.inr hfl), .inr ⟨rfl, Blk.st3 (Blk.st5 s3 n1) n2, HL2.out.2.2.1, HL2.out.2.2.2.1, hh, HL2.out.2.2.2.2⟩⟩
end Go.Proofs.YtccldalagbfmhaaGreat
