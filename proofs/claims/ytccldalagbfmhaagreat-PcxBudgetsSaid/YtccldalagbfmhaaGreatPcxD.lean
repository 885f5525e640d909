/- pcx: the mark ahead of the map; a head is read. -/
import Derived.Test.YtccldalagbfmhaaGreatPcxC
namespace Go.Proofs.YtccldalagbfmhaaGreat
open Go.RowKit
set_option linter.unusedVariables false
set_option linter.unusedSimpArgs false

def pcxPicV (s : ByteArray) (h : PcxHd) : Value := .agg #[.int .i64 (h.W : Int), .int .i64 (h.H : Int), .int .i64 (h.bits : Int), .int .i64 (h.planes : Int), .int .i64 (h.line : Int), .string (s.extract 16 64), .nilFunc]
theorem le2_extract (s : ByteArray) {n i : Nat} (h : i + 1 < n) : le2 (s.extract 0 (0 + n)) i = le2 s i := by
  unfold le2
  rw [bat_extract s 0 n i (by omega), bat_extract s 0 n (i + 1) (by omega), Nat.zero_add, Nat.zero_add]
theorem extract_in (s : ByteArray) {n a b : Nat} (h : b ≤ n) (hn : n ≤ s.size) : (s.extract 0 (0 + n)).extract a b = s.extract a b := by
  rw [ByteArray.extract_extract, Nat.zero_add, Nat.zero_add, Nat.zero_add, Nat.min_eq_left h]
theorem pcxParseC {s : ByteArray} (h : 128 ≤ s.size) (w : World) : Calls Tryz.prog 150 #[.string (s.extract 0 (0 + 128)), .int .i64 0] w fun e w' => ((∃ f : Nat × Nat, pcxHead s = some f ∧ e = .returned (.tuple #[.agg pcx0, pFlt f.1 f.2])) ∨ (pcxHead s = none ∧ e = .returned (.tuple #[pcxPicV s (pcxHd s), pFlt0]))) ∧ Below w.heap.size w w' := by
  have eb : ∀ i, i < 128 → bat (s.extract 0 (0 + 128)) i = bat s i := fun i hi => by rw [bat_extract s 0 128 i hi, Nat.zero_add]
  have eW : pcxW (s.extract 0 (0 + 128)) = pcxW s := by unfold pcxW; rw [le2_extract s (by omega), le2_extract s (by omega)]
  have eH : pcxH (s.extract 0 (0 + 128)) = pcxH s := by unfold pcxH; rw [le2_extract s (by omega), le2_extract s (by omega)]
  refine (pcxParse_any (extract_size s 0 128 (by omega)) (eb 0 (by omega)) (eb 1 (by omega)) (eb 2 (by omega)) eW eH (eb 3 (by omega)) (eb 65 (by omega)) (le2_extract s (by omega)) rfl w).mono ?_
  rintro e w' ⟨⟨f, hf, rfl⟩ | ⟨hf, rfl⟩, b⟩
  · exact ⟨.inl ⟨f, hf, rfl⟩, b⟩
  · refine ⟨.inr ⟨hf, ?_⟩, b⟩
    obtain ⟨_, _, _, _, e1, e2⟩ := pcxHead_none hf
    unfold pcxPicV pcxCs
    rw [e1, e2, extract_in s (by omega) h]
    rfl
/-- the mark's way -/
def MarkPost (w w' : World) (p g : Nat) (s : ByteArray) (m : Nat) (y : Led) (e : Ending) : Prop :=
  ∃ y', LedAt w' g y' ∧ y'.Ok ∧ y'.bytes = y.bytes ∧ Turn [p, g] w w' ∧ SrcAt w' p g s 0 s.size 128 ∧
    ((y.work 1 = (y', false) ∧ e = .returned (pFlt 4 128)) ∨ (y.work 1 = (y', true) ∧ y'.reason = 0 ∧ ((bat s m = 12 ∧ e = .returned pFlt0) ∨ (bat s m ≠ 12 ∧ e = .returned (pFlt 2 m)))))
theorem srcOk0' {s : ByteArray} {a : Nat} (h : s.size ≤ 1099511627776) (ha : a ≤ s.size) : SrcOk s 0 s.size a := ⟨Nat.zero_le _, ha, Nat.le_refl _, h⟩
theorem pcxMark_short {w : World} {p g : Nat} {s : ByteArray} {m : Int} (hm : m < 128) (S0 : SrcAt w p g s 0 s.size 128) :
    Calls Tryz.prog 152 #[.pointer (some ⟨p, 0, none⟩), .int .i64 m] w fun e w' => e = .returned (pFlt 1 s.size) ∧ Below w.heap.size w w' := by
  have S1 : Hid (SrcAt (w.alloc (.cells #[.int .i64 0, .int .i64 0, .int .i64 0] 31)) p g s 0 s.size 128) := Lib.hid (Blk.alloc S0 _)
  have F1 := FB.new w
  have B1 : Below w.heap.size w (w.alloc (.cells #[.int .i64 0, .int .i64 0, .int .i64 0] 31)) := (Below.refl _ _).alloc (Nat.le_refl _) _
  have HF := Lib.hid (And.intro F1 B1)
  clear S0 F1 B1
  go_enter Tryz.func152, Tryz.ntmps152
  go_wp2_with (first
    | (go_at_call 197; refine (pcxBadC 1 _ _).mono ?_; rintro e w3 ⟨rfl, b3⟩; have F3 := FB.below HF.out.1 b3; have B3 := below_next HF.out.2 b3; obtain ⟨f0, f1, f2', z0, z1, z2, fl⟩ := FB.all F3)
    | (go_at_call 151; refine (srcTo_at S1.out).mono ?_; rintro e w2 ⟨rfl, rfl⟩)
    | (go_at_call 89; refine (srcAt_at S1.out).mono ?_; rintro e w1 ⟨rfl, rfl⟩))
  exact bodyPost_ret (v := pFlt 1 s.size) (by simp [results, Tryz.results152, go_sem, f0, f1, f2', pFlt]) rfl ⟨rfl, below_set3 B3 (Nat.le_refl _)⟩
set_option maxRecDepth 100000 in
set_option maxHeartbeats 2000000 in
theorem pcxMark_far {w : World} {p g m : Nat} {s : ByteArray} {y : Led} (hm : 128 ≤ m) (hm2 : m < s.size) (hsm : s.size ≤ 1099511627776) (S0 : SrcAt w p g s 0 s.size 128) (L0 : LedAt w g y) (ok : y.Ok) (hr : y.reason = 0) :
    Calls Tryz.prog 152 #[.pointer (some ⟨p, 0, none⟩), .int .i64 (m : Int)] w fun e w' => MarkPost w w' p g s m y e := by
  have F0 := FB.new w
  have S1 : SrcAt (w.alloc (.cells #[.int .i64 0, .int .i64 0, .int .i64 0] 31)) p g s 0 s.size 128 := Blk.alloc S0 _
  have L1 : LedAt (w.alloc (.cells #[.int .i64 0, .int .i64 0, .int .i64 0] 31)) g y := Blk.alloc L0 _
  have T1 : Turn [p, g] w (w.alloc (.cells #[.int .i64 0, .int .i64 0, .int .i64 0] 31)) := (Turn.refl _ _).alloc _
  have hpf : p ≠ w.heap.size := Nat.ne_of_lt (Blk.lt S0)
  have hgf : g ≠ w.heap.size := Nat.ne_of_lt (Blk.lt L0)
  have hgp : g ∉ [p] := by simpa using Ne.symm (Blk.ne_ S0 L0 (by decide))
  have nf : w.heap.size ∉ [p, g] := by simp only [List.mem_cons, List.not_mem_nil, or_false, not_or]; exact ⟨hpf.symm, hgf.symm⟩
  have nf1 : w.heap.size ∉ [p] := by simpa using hpf.symm
  have hmI : ¬ (m : Int) < 128 := by omega
  have HF := Lib.hid F0
  have HT := Lib.hid T1
  have HS := Lib.hid S1
  have HL := Lib.hid L1
  have HM := Lib.hid (And.intro hm (And.intro hm2 hsm))
  have HK := Lib.hid ok
  have HR := Lib.hid hr
  clear S0 L0 F0 S1 L1 T1 ok hr hm hm2 hsm
  rcases led_work_ways 1 HK.out HR.out with ⟨y2, e2, yok2, yr2, yb2⟩ | ⟨y2, e2, yok2, yr2, yb2⟩
  · have HE := Lib.hid (And.intro e2 (And.intro yok2 (And.intro yr2 yb2)))
    clear e2 yok2 yr2 yb2
    go_enter Tryz.func152, Tryz.ntmps152
    go_wp2_with (first
      | (go_at_call 61; refine (srcFault_is 7 s4 l4 (.inl ⟨HE.out.2.2.1, rfl, rfl⟩)).mono ?_; rintro e w5 ⟨rfl, b5⟩; have s5 := Blk.below s4 b5 (Blk.lt s4); have l5 := Blk.below l4 b5 (Blk.lt l4); have F5 := FB.below F4 b5; have T5 := T4.trans (Turn.of_below (S := [p, g]) b5); obtain ⟨f0, f1, f2', z0, z1, z2, fl⟩ := FB.all F5)
      | (go_at_call 198; refine (srcSeek_yes 128 s3 (by omega) (by have := HM.out; omega)).mono ?_; rintro e w4 ⟨rfl, s4, t4⟩; have l4 := Blk.turn l3 t4 hgp; have F4 := FB.turn F3 t4 nf1; have T4 := T3.trans (t4.mono (by simp)))
      | (go_at_call 177; refine (srcU8_spent s2 l2 HK.out HE.out.1).mono ?_; rintro e w3 ⟨rfl, s3, l3, t3⟩; have F3 := FB.turn F2 t3 nf; have T3 := T2.trans t3)
      | (go_at_call 198; refine (srcSeek_yes m HS.out (by omega) (by have := HM.out; omega)).mono ?_; rintro e w2 ⟨rfl, s2, t2⟩; have l2 := Blk.turn HL.out t2 hgp; have F2 := FB.turn HF.out t2 nf1; have T2 := HT.out.trans (t2.mono (S' := [p, g]) (by simp)))
      | (go_at_call 89; refine (srcAt_at HS.out).mono ?_; rintro e w1 ⟨rfl, rfl⟩))
    exact bodyPost_ret (v := pFlt 4 128) (by simp [results, Tryz.results152, go_sem, f0, f1, f2', pFlt]) rfl ⟨y2, Blk.st3 l5 hgf, HE.out.2.1, HE.out.2.2.2, Turn.st3 T5 (.inr (Nat.le_refl _)), Blk.st3 s5 hpf, .inl ⟨HE.out.1, rfl⟩⟩
  · have HE := Lib.hid (And.intro e2 (And.intro yok2 (And.intro yr2 yb2)))
    clear e2 yok2 yr2 yb2
    obtain ⟨v, hv⟩ : ∃ v, bat s m = v := ⟨_, rfl⟩
    have hv8 := bat_lt s m
    have HU := Lib.hid (fun w (h : SrcAt w p g s 0 s.size m) (k : LedAt w g y) => srcU8_yes h (srcOk0' HM.out.2.2 (Nat.le_of_lt HM.out.2.1)) k HK.out HE.out.1 HM.out.2.1)
    rw [hv] at HU hv8
    have HV := Lib.hid hv
    clear hv
    by_cases h12 : v = 12
    · have h12I : (v : Int) = 12 := by omega
      have H12 := Lib.hid (HV.out.trans h12)
      clear h12
      go_enter Tryz.func152, Tryz.ntmps152
      go_wp2_with (first
        | (go_at_call 198; refine (srcSeek_yes 128 s3 (by omega) (by have := HM.out; omega)).mono ?_; rintro e w4 ⟨rfl, s4, t4⟩; have l4 := Blk.turn l3 t4 hgp; have F4 := FB.turn F3 t4 nf1; have T4 := T3.trans (t4.mono (by simp)); obtain ⟨f0, f1, f2', z0, z1, z2, fl⟩ := FB.all F4)
        | (go_at_call 177; refine (HU.out _ s2 l2).mono ?_; rintro e w3 ⟨rfl, s3, l3, t3⟩; have F3 := FB.turn F2 t3 nf; have T3 := T2.trans t3)
        | (go_at_call 198; refine (srcSeek_yes m HS.out (by omega) (by have := HM.out; omega)).mono ?_; rintro e w2 ⟨rfl, s2, t2⟩; have l2 := Blk.turn HL.out t2 hgp; have F2 := FB.turn HF.out t2 nf1; have T2 := HT.out.trans (t2.mono (S' := [p, g]) (by simp)))
        | (go_at_call 89; refine (srcAt_at HS.out).mono ?_; rintro e w1 ⟨rfl, rfl⟩))
      exact bodyPost_ret (v := pFlt0) (by simp [results, Tryz.results152, go_sem, f0, f1, f2', pFlt0]) rfl ⟨y2, Blk.st3 l4 hgf, HE.out.2.1, HE.out.2.2.2, Turn.st3 T4 (.inr (Nat.le_refl _)), Blk.st3 s4 hpf, .inr ⟨HE.out.1, HE.out.2.2.1, .inl ⟨H12.out, rfl⟩⟩⟩
    · have h12I : ¬ (v : Int) = 12 := by omega
      have H12 : Hid (bat s m ≠ 12) := Lib.hid (fun e => h12 (HV.out.symm.trans e))
      clear h12
      go_enter Tryz.func152, Tryz.ntmps152
      go_wp2_with (first
        | (go_at_call 197; refine (pcxBadC 2 _ _).mono ?_; rintro e w5 ⟨rfl, b5⟩; have s5 := Blk.below s4 b5 (Blk.lt s4); have l5 := Blk.below l4 b5 (Blk.lt l4); have F5 := FB.below F4 b5; have T5 := T4.trans (Turn.of_below (S := [p, g]) b5); obtain ⟨f0, f1, f2', z0, z1, z2, fl⟩ := FB.all F5)
        | (go_at_call 198; refine (srcSeek_yes 128 s3 (by omega) (by have := HM.out; omega)).mono ?_; rintro e w4 ⟨rfl, s4, t4⟩; have l4 := Blk.turn l3 t4 hgp; have F4 := FB.turn F3 t4 nf1; have T4 := T3.trans (t4.mono (by simp)))
        | (go_at_call 177; refine (HU.out _ s2 l2).mono ?_; rintro e w3 ⟨rfl, s3, l3, t3⟩; have F3 := FB.turn F2 t3 nf; have T3 := T2.trans t3)
        | (go_at_call 198; refine (srcSeek_yes m HS.out (by omega) (by have := HM.out; omega)).mono ?_; rintro e w2 ⟨rfl, s2, t2⟩; have l2 := Blk.turn HL.out t2 hgp; have F2 := FB.turn HF.out t2 nf1; have T2 := HT.out.trans (t2.mono (S' := [p, g]) (by simp)))
        | (go_at_call 89; refine (srcAt_at HS.out).mono ?_; rintro e w1 ⟨rfl, rfl⟩))
      exact bodyPost_ret (v := pFlt 2 m) (by simp [results, Tryz.results152, go_sem, f0, f1, f2', pFlt]) rfl ⟨y2, Blk.st3 l5 hgf, HE.out.2.1, HE.out.2.2.2, Turn.st3 T5 (.inr (Nat.le_refl _)), Blk.st3 s5 hpf, .inr ⟨HE.out.1, HE.out.2.2.1, .inr ⟨H12.out, rfl⟩⟩⟩
end Go.Proofs.YtccldalagbfmhaaGreat
