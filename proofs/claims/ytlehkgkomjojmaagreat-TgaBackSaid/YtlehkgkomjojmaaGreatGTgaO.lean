/- tgahead: a head is read. -/
import Derived.Test.YtlehkgkomjojmaaGreatSq
import Derived.Test.YtlehkgkomjojmaaGreatGTgaM
import Derived.Test.YtlehkgkomjojmaaGreatGTgaF
namespace Go.Proofs.YtlehkgkomjojmaaGreat
open Go.RowKit
set_option linter.unusedVariables false
set_option linter.unusedSimpArgs false

theorem tgaDec_run_no {s : ByteArray} {x y : Led} (e : x.work 1 = (y, false)) (hb : 0 ≤ y.bytes) : (tgaDec s).run x = (y, .bad 4 0) := by
  unfold tgaDec
  rw [run_work_no e, give_zero hb]
theorem tgaDec_run_yes {s : ByteArray} {x y : Led} (e : x.work 1 = (y, true)) : (tgaDec s).run x = (if s.size < 18 then Dec.fin (.bad 1 s.size) else match tgaHead s with | some f => .fin (.bad f.1 f.2) | none => tgaBody s (tgaHd s)).run y := by
  unfold tgaDec
  exact run_work_yes e
theorem tgaHead_cut {s : ByteArray} (h : 18 ≤ s.size) : tgaHead (s.extract 0 (0 + 18)) = tgaHead s ∧ tgaHd (s.extract 0 (0 + 18)) = tgaHd s := by
  have hb : ∀ i, i < 18 → bat (s.extract 0 (0 + 18)) i = bat s i := fun i hi => by rw [bat_extract s 0 18 i hi, Nat.zero_add]
  have hl : ∀ i, i + 1 < 18 → le2 (s.extract 0 (0 + 18)) i = le2 s i := fun i hi => by unfold le2; rw [hb i (by omega), hb (i + 1) hi]
  unfold tgaHead tgaHd
  rw [hb 0 (by omega), hb 1 (by omega), hb 2 (by omega), hb 7 (by omega), hb 16 (by omega), hb 17 (by omega), hl 3 (by omega), hl 5 (by omega), hl 12 (by omega), hl 14 (by omega)]
  exact ⟨rfl, rfl⟩
/-- what a head's reading leaves -/
def TRdPost (w w' : World) (p g : Nat) (s : ByteArray) (y : Led) (e : Ending) : Prop :=
  ∃ y', LedAt w' g y' ∧ y'.Ok ∧ y'.bytes = y.bytes ∧ Turn [p, g] w w' ∧
    ((∃ kk aa : Nat, kk ≠ 0 ∧ e = .returned (.tuple #[tHd0, tFlt kk aa]) ∧ (tgaDec s).run y = (y', .bad kk aa) ∧ (kk ≠ 4 → tgaFault s = some (kk, aa))) ∨
     (e = .returned (.tuple #[tHdV (tgaHd s), tFlt0]) ∧ SrcAt w' p g s 0 s.size 18 ∧ y'.reason = 0 ∧ tgaFault s = none ∧ 18 ≤ s.size ∧ y.work 1 = (y', true) ∧ (tgaDec s).run y = (tgaBody s (tgaHd s)).run y'))
theorem tgaFault_of {s : ByteArray} (h : 18 ≤ s.size) : tgaFault s = tgaHead s := by unfold tgaFault; rw [if_neg (by omega)]
/-- a reading that fails at the beginning -/
theorem tgaDec_noRead {s : ByteArray} {y y2 : Led} {kk aa : Nat} (ok : y.Ok) (hr : y.reason = 0) (ok2 : y2.Ok) (nr : NoRead y2 0 s.size kk aa) (r2 : NoRun y y2 0 s.size (0 + 18 ≤ s.size) kk aa) : (tgaDec s).run y = (y2, .bad kk aa) ∧ (kk ≠ 4 → tgaFault s = some (kk, aa)) := by
  rcases led_work_ways 1 ok hr with ⟨yy, e, yok, yyr, _⟩ | ⟨yy, e, yok, yyr, _⟩
  · have h1 := r2 0 (.fin (.bad 0 0))
    rw [run_work_no e] at h1
    have h2 := tgaDec_run_no (s := s) e yok.y0
    have h3 : (yy, DRes.bad 4 0) = ((y2.give ((0 : Nat) : Int)).1, DRes.bad kk aa) := by rw [← give_zero (x := yy) yok.y0]; exact h1
    have h4 : DRes.bad 4 0 = DRes.bad kk aa := congrArg Prod.snd h3
    injection h4 with h5 h6
    exact ⟨by rw [h2, h3, give_zero ok2.y0], fun h => absurd h5.symm h⟩
  · have h1 := r2 0 (.fin (.bad 0 0))
    rw [run_work_yes e] at h1
    have h2 := tgaDec_run_yes (s := s) e
    by_cases hs : 0 + 18 ≤ s.size
    · rw [if_pos hs] at h1
      have h4 : DRes.bad 0 0 = DRes.bad kk aa := congrArg Prod.snd h1
      injection h4 with h5 h6
      exact absurd h5.symm nr.ne
    · rw [if_neg hs] at h1
      have h4 : ((yy.give ((0 : Nat) : Int)).1, DRes.bad 1 s.size) = ((y2.give ((0 : Nat) : Int)).1, DRes.bad kk aa) := h1
      have h7 : DRes.bad 1 s.size = DRes.bad kk aa := congrArg Prod.snd h4
      injection h7 with h5 h6
      rw [give_zero yok.y0, give_zero ok2.y0] at h4
      exact ⟨by rw [h2, if_pos (by omega)]; exact h4, fun _ => by unfold tgaFault; rw [if_pos (by omega), h5, h6]⟩
structure T2W (w0 w : World) (qf : Nat) : Prop where
  R : Blk w w0.heap.size 121 #[.int .i64 0, .bool false, .int .i64 0, .int .i64 0, .int .i64 0, .int .i64 0, .int .i64 0, .int .i64 0, .int .i64 0, .int .i64 0, .bool false, .bool false]
  F : FB w qf 0 0 0
section
variable {w0 w w' : World} {qf : Nat}
theorem T2W.below (I : T2W w0 w qf) (b : Below w.heap.size w w') : T2W w0 w' qf := ⟨Blk.below I.R b (Blk.lt I.R), FB.below I.F b⟩
end
set_option maxRecDepth 100000 in
set_option maxHeartbeats 4000000 in
theorem tgaReadC {w : World} {p g : Nat} {s : ByteArray} {y : Led} (hsm : s.size ≤ 1099511627776) (S0 : SrcAt w p g s 0 s.size 0) (L0 : LedAt w g y) (ok : y.Ok) (hr : y.reason = 0) :
    Calls Tryz.prog 70 #[.pointer (some ⟨p, 0, none⟩)] w fun e w' => TRdPost w w' p g s y e := by
  have S1 : SrcAt ((w.alloc (.cells #[.int .i64 0, .bool false, .int .i64 0, .int .i64 0, .int .i64 0, .int .i64 0, .int .i64 0, .int .i64 0, .int .i64 0, .int .i64 0, .bool false, .bool false] 121)).alloc (.cells #[.int .i64 0, .int .i64 0, .int .i64 0] 34)) p g s 0 s.size 0 := Blk.alloc (Blk.alloc S0 _) _
  have L1 : LedAt ((w.alloc (.cells #[.int .i64 0, .bool false, .int .i64 0, .int .i64 0, .int .i64 0, .int .i64 0, .int .i64 0, .int .i64 0, .int .i64 0, .int .i64 0, .bool false, .bool false] 121)).alloc (.cells #[.int .i64 0, .int .i64 0, .int .i64 0] 34)) g y := Blk.alloc (Blk.alloc L0 _) _
  have T1 : Turn [p, g] w ((w.alloc (.cells #[.int .i64 0, .bool false, .int .i64 0, .int .i64 0, .int .i64 0, .int .i64 0, .int .i64 0, .int .i64 0, .int .i64 0, .int .i64 0, .bool false, .bool false] 121)).alloc (.cells #[.int .i64 0, .int .i64 0, .int .i64 0] 34)) := ((Turn.refl _ _).alloc _).alloc _
  have I1 : T2W w ((w.alloc (.cells #[.int .i64 0, .bool false, .int .i64 0, .int .i64 0, .int .i64 0, .int .i64 0, .int .i64 0, .int .i64 0, .int .i64 0, .int .i64 0, .bool false, .bool false] 121)).alloc (.cells #[.int .i64 0, .int .i64 0, .int .i64 0] 34)) (w.heap.size + 1) := ⟨Blk.alloc (Blk.new _ _ _) _, Blk.new_at _ _ _ (by simp)⟩
  have hlp := Blk.lt S0
  have hlg := Blk.lt L0
  have nh : w.heap.size ∉ [p, g] := by simp; omega
  have nf : w.heap.size + 1 ∉ [p, g] := by simp; omega
  have hfl : w.heap.size ≤ w.heap.size + 1 := by omega
  have k1 : w.heap.size ≠ w.heap.size + 1 := by omega
  have HTK := Lib.hid (srcTake_ways 18 S1 (srcOkT hsm (Nat.zero_le _)) L1 ok hr)
  have HI := Lib.hid (And.intro I1 (And.intro T1 S1))
  have HY := Lib.hid (And.intro ok (And.intro hr hsm))
  have np1 : p ≠ w.heap.size := by omega
  have ng1 : g ≠ w.heap.size := by omega
  clear S0 L0 S1 L1 T1 I1 ok hr hsm hlp hlg
  go_enter Tryz.func70, Tryz.ntmps70
  go_upto_region 1 with fail
  generalize ((w.alloc (.cells #[.int .i64 0, .bool false, .int .i64 0, .int .i64 0, .int .i64 0, .int .i64 0, .int .i64 0, .int .i64 0, .int .i64 0, .int .i64 0, .bool false, .bool false] 121)).alloc (.cells #[.int .i64 0, .int .i64 0, .int .i64 0] 34)) = w1 at HTK HI ⊢
  generalize w.heap.size + 1 = qf at HI nf hfl k1 ⊢
  have k2 := k1.symm
  go_upto_region 3 with (first
    | (go_at_call 82; refine HTK.out.mono ?_; rintro e w2 ⟨y2, l2, ok2, b2, t2, hor⟩; have I2 : T2W w w2 qf := ⟨Blk.turn HI.out.1.R t2 nh, FB.turn HI.out.1.F t2 nf⟩; have T2 := HI.out.2.1.trans t2; rcases hor with ⟨kk, aa, rfl, s2, nr, nrun⟩ | ⟨rfl, s2, yr2, hle, hw2⟩)
    | (go_at_call 81; refine (srcAt_at HI.out.2.2).mono ?_; rintro e w9 ⟨rfl, rfl⟩))
  · have HRN := Lib.hid (tgaDec_noRead HY.out.1 HY.out.2.1 ok2 nr nrun)
    go_wp2_with (go_at_call 43; refine (srcFault_is 2 s2 l2 nr).mono ?_; rintro e w3 ⟨rfl, b3⟩; have I3 := I2.below b3; have l3 := Blk.below l2 b3 (Blk.lt l2); have T3 := T2.trans (Turn.of_below (S := [p, g]) b3); obtain ⟨f0, f1, f2', z0, z1, z2, fl⟩ := FB.all I3.F; have r0 := Blk.cell I3.R 0; have rz0 := Blk.frozen I3.R 0; have r1 := Blk.cell I3.R 1; have rz1 := Blk.frozen I3.R 1; have r2 := Blk.cell I3.R 2; have rz2 := Blk.frozen I3.R 2; have r3 := Blk.cell I3.R 3; have rz3 := Blk.frozen I3.R 3; have r4 := Blk.cell I3.R 4; have rz4 := Blk.frozen I3.R 4; have r5 := Blk.cell I3.R 5; have rz5 := Blk.frozen I3.R 5; have r6 := Blk.cell I3.R 6; have rz6 := Blk.frozen I3.R 6; have r7 := Blk.cell I3.R 7; have rz7 := Blk.frozen I3.R 7; have r8 := Blk.cell I3.R 8; have rz8 := Blk.frozen I3.R 8; have r9 := Blk.cell I3.R 9; have rz9 := Blk.frozen I3.R 9; have r10 := Blk.cell I3.R 10; have rz10 := Blk.frozen I3.R 10; have r11 := Blk.cell I3.R 11; have rz11 := Blk.frozen I3.R 11; have rl := Blk.lt I3.R)
    exact bodyPost_ret (v := .tuple #[tHd0, tFlt kk aa]) (by simp [results, Tryz.results70, go_sem, f0, f1, f2', r0, r1, r2, r3, r4, r5, r6, r7, r8, r9, r10, r11, k1, k2, tHd0, tFlt]) rfl ⟨y2, Blk.st3 (Blk.far (Blk.far (Blk.far (Blk.far (Blk.far (Blk.far (Blk.far (Blk.far (Blk.far (Blk.far (Blk.far (Blk.far (l3) (p := ⟨w.heap.size, 0, none⟩) ng1 _) (p := ⟨w.heap.size, 1, none⟩) ng1 _) (p := ⟨w.heap.size, 2, none⟩) ng1 _) (p := ⟨w.heap.size, 3, none⟩) ng1 _) (p := ⟨w.heap.size, 4, none⟩) ng1 _) (p := ⟨w.heap.size, 5, none⟩) ng1 _) (p := ⟨w.heap.size, 6, none⟩) ng1 _) (p := ⟨w.heap.size, 7, none⟩) ng1 _) (p := ⟨w.heap.size, 8, none⟩) ng1 _) (p := ⟨w.heap.size, 9, none⟩) ng1 _) (p := ⟨w.heap.size, 10, none⟩) ng1 _) (p := ⟨w.heap.size, 11, none⟩) ng1 _) (Blk.ne_ l3 I3.F (by decide)), ok2, b2, Turn.st3 (((((((((((((T3).set_ 0 _ (.inr (Nat.le_refl _))).set_ 1 _ (.inr (Nat.le_refl _))).set_ 2 _ (.inr (Nat.le_refl _))).set_ 3 _ (.inr (Nat.le_refl _))).set_ 4 _ (.inr (Nat.le_refl _))).set_ 5 _ (.inr (Nat.le_refl _))).set_ 6 _ (.inr (Nat.le_refl _))).set_ 7 _ (.inr (Nat.le_refl _))).set_ 8 _ (.inr (Nat.le_refl _))).set_ 9 _ (.inr (Nat.le_refl _))).set_ 10 _ (.inr (Nat.le_refl _))).set_ 11 _ (.inr (Nat.le_refl _))) (.inr hfl), .inl ⟨kk, aa, nr.ne, rfl, HRN.out.1, HRN.out.2⟩⟩
  · have h18 : 18 ≤ s.size := by omega
    obtain ⟨hcut1, hcut2⟩ := tgaHead_cut h18
    have hbs : (s.extract 0 (0 + 18)).size = 18 := extract_size s 0 18 hle
    have HRY := Lib.hid (tgaDec_run_yes (s := s) hw2)
    have HWK := Lib.hid hw2
    generalize s.extract 0 (0 + 18) = bb at hbs hcut1 hcut2 ⊢
    have HQC := Lib.hid (fun w => tgaChecksC (b := bb) hbs rfl rfl rfl rfl rfl rfl rfl rfl w)
    have HHD := Lib.hid (fun w => tgaHeadC (b := bb) hbs rfl rfl rfl rfl rfl rfl rfl w)
    rw [hcut2] at HHD
    replace hcut1 : firstBad (tgaChks (bat bb 1) (bat bb 2) (bat bb 7) (le2 bb 5) (le2 bb 12) (le2 bb 14) (bat bb 16) (bat bb 17)) = tgaHead s := hcut1
    obtain ⟨L, hL⟩ : ∃ L, tgaChks (bat bb 1) (bat bb 2) (bat bb 7) (le2 bb 5) (le2 bb 12) (le2 bb 14) (bat bb 16) (bat bb 17) = L := ⟨_, rfl⟩
    have hlen : L.length = 12 := by rw [← hL]; rfl
    have hle' : ∀ x ∈ L, x.2.2 ≤ 17 := by rw [← hL]; simp [tgaChks]
    rw [hL] at HQC hcut1
    have HLL := Lib.hid hcut1
    have H18 := Lib.hid h18
    have HI2 := Lib.hid (And.intro I2 (And.intro s2 (And.intro l2 T2)))
    clear hL hcut1 hcut2 hle hw2 I2 s2 l2 T2 t2 h18
    go_upto_region 6 with (go_at_call 117; refine (HQC.out _).mono ?_; rintro e w3 ⟨sb, rfl, hsb, b3, K3⟩; have HI3 := Lib.hid (And.intro (HI2.out.1.below b3) (And.intro (Blk.below HI2.out.2.1 b3 (Blk.lt HI2.out.2.1)) (And.intro (Blk.below HI2.out.2.2.1 b3 (Blk.lt HI2.out.2.2.1)) (And.intro (HI2.out.2.2.2.trans (Turn.of_below (S := [p, g]) b3)) K3)))); clear b3 K3 hsb)
    go_loopg [8, 24] 12 (fun m v8 v24 wr => ∃ i : Nat, i + m = 12 ∧ v24 = .int .i64 (i : Int) ∧ Hid (∀ j, j < i → (L[j]?.map (·.1)) = some false) ∧ Hid (T2W w wr qf ∧ SrcAt wr p g s 0 s.size 18 ∧ LedAt wr g y2 ∧ Turn [p, g] w wr ∧ Blk wr sb 205 (chkW L).toArray))
    case atStart => exact ⟨0, rfl, rfl, Lib.hid (fun j hj => by omega), Lib.hid ⟨HI3.out.1, HI3.out.2.1, HI3.out.2.2.1, HI3.out.2.2.2.1, HI3.out.2.2.2.2⟩⟩
    case round =>
      obtain ⟨i, hi, rfl, HOK, HX⟩ := hrel
      clear HI3 HI2
      by_cases hi9 : i < 12
      · have hi9I : (i : Int) < 12 := by omega
        obtain ⟨x, hx⟩ : ∃ x, L[i]? = some x := ⟨L[i]'(by omega), List.getElem?_eq_getElem (by omega)⟩
        obtain ⟨k0, k1', k2', k3'⟩ := chkW_at hx
        have c0 := (Blk.cell HX.out.2.2.2.2 (i * 4)).trans ((List.getElem?_toArray).trans k0)
        have c1 := (Blk.cell HX.out.2.2.2.2 (i * 4 + 1)).trans ((List.getElem?_toArray).trans k1')
        have c2 := (Blk.cell HX.out.2.2.2.2 (i * 4 + 2)).trans ((List.getElem?_toArray).trans k2')
        have c3 := (Blk.cell HX.out.2.2.2.2 (i * 4 + 3)).trans ((List.getElem?_toArray).trans k3')
        have hsl := Blk.lt HX.out.2.2.2.2
        have HXX := Lib.hid hx
        have hII := Lib.hid hi
        obtain ⟨bo, kk, aa⟩ := x
        obtain ⟨lo, hlo⟩ : ∃ lo, tgaLoose (bo, kk, aa) = lo := ⟨_, rfl⟩
        rw [hlo] at c3
        clear k0 k1' k2' k3' hx hi hlo
        cases bo with
        | false =>
          go_wp2_with fail
          go_roundg (12 - (i + 1))
          case measure => have := hII.out; omega
          case rel =>
            refine ⟨i + 1, by omega, by go_num, Lib.hid (fun j hj => ?_), Lib.hid ⟨HX.out.1.below ((Below.refl _ _).alloc (Nat.le_refl _) _), Blk.alloc HX.out.2.1 _, Blk.alloc HX.out.2.2.1 _, HX.out.2.2.2.1.alloc _, Blk.alloc HX.out.2.2.2.2 _⟩⟩
            by_cases e : j = i
            · rw [e, HXX.out]; rfl
            · exact HOK.out j (by omega)
        | true =>
          have haa : (aa : Int) ≤ 17 := by have := hle' _ (List.mem_of_getElem? HXX.out); simp only at this; omega
          go_upto_region 8 with fail
          have I4 := HX.out.1.below ((Below.refl _ _).alloc (Nat.le_refl _) (.cells #[.bool true, .int .i64 (kk : Int), .int .i64 (aa : Int), .bool lo] 205))
          have l4 : LedAt (wr.alloc (.cells #[.bool true, .int .i64 (kk : Int), .int .i64 (aa : Int), .bool lo] 205)) g y2 := Blk.alloc HX.out.2.2.1 _
          have T4 := HX.out.2.2.2.1.alloc (.cells #[.bool true, .int .i64 (kk : Int), .int .i64 (aa : Int), .bool lo] 205)
          have N4 : Blk (wr.alloc (.cells #[.bool true, .int .i64 (kk : Int), .int .i64 (aa : Int), .bool lo] 205)) wr.heap.size 205 #[.bool true, .int .i64 (kk : Int), .int .i64 (aa : Int), .bool lo] := Blk.new _ _ _
          generalize wr.alloc (.cells #[.bool true, .int .i64 (kk : Int), .int .i64 (aa : Int), .bool lo] 205) = w4 at I4 l4 T4 N4 ⊢
          generalize wr.heap.size = q8 at N4 ⊢
          have m0 := Blk.cell N4 0
          have m1 := Blk.cell N4 1
          have m2 := Blk.cell N4 2
          have ml := Blk.lt N4
          clear c0 c1 c2 c3 hsl
          go_upto_region 9 with fail
          have wra : IntKind.i64.wrap (aa : Int) = (aa : Int) := IntWalk.i64_in _ (by omega)
          have R9 := Blk.drew I4.R
          have F9 : FB w4.drew qf 0 0 0 := Blk.drew I4.F
          have l9 : LedAt w4.drew g y2 := Blk.drew l4
          have T9 := T4.drew
          have N9 : Blk w4.drew q8 205 #[.bool true, .int .i64 (kk : Int), .int .i64 (aa : Int), .bool lo] := Blk.drew N4
          have p1 : w4.drew.cell? ⟨q8, 1, none⟩ = some (.int .i64 (kk : Int)) := Blk.cell N9 1
          have p2 : w4.drew.cell? ⟨q8, 2, none⟩ = some (.int .i64 (aa : Int)) := Blk.cell N9 2
          refine wp_region_held_drew (S := (fun w9 => w9.cell? ⟨q8, 1, none⟩ = some (.int .i64 (kk : Int)) ∧ w9.cell? ⟨q8, 2, none⟩ = some (.int .i64 (aa : Int)))) (by kernel_rfl) ⟨p1, p2⟩ (fun hHeld => ?_)
          generalize w4.drew = w9 at R9 F9 l9 T9 N9 p1 p2 hHeld ⊢
          refine tk 0 ?_
          (try simp only [sps])
          refine tk 1 ?_
          (try simp only [sps])
          refine tk 2 ?_
          (try simp only [sps])
          refine tk 3 ?_
          (try simp only [sps])
          refine tk 4 ?_
          (try simp only [sps])
          refine tk 5 ?_
          (try simp only [sps])
          refine tk 6 ?_
          (try simp only [sps])
          refine tk 7 ?_
          (try simp only [sps])
          have r0 := Blk.cell R9 0
          have rz0 := Blk.frozen R9 0
          have r1 := Blk.cell R9 1
          have rz1 := Blk.frozen R9 1
          have r2 := Blk.cell R9 2
          have rz2 := Blk.frozen R9 2
          have r3 := Blk.cell R9 3
          have rz3 := Blk.frozen R9 3
          have r4 := Blk.cell R9 4
          have rz4 := Blk.frozen R9 4
          have r5 := Blk.cell R9 5
          have rz5 := Blk.frozen R9 5
          have r6 := Blk.cell R9 6
          have rz6 := Blk.frozen R9 6
          have r7 := Blk.cell R9 7
          have rz7 := Blk.frozen R9 7
          have r8 := Blk.cell R9 8
          have rz8 := Blk.frozen R9 8
          have r9 := Blk.cell R9 9
          have rz9 := Blk.frozen R9 9
          have r10 := Blk.cell R9 10
          have rz10 := Blk.frozen R9 10
          have r11 := Blk.cell R9 11
          have rz11 := Blk.frozen R9 11
          have rl := Blk.lt R9
          obtain ⟨f0, f1, f2', z0, z1, z2, fl⟩ := FB.all F9
          refine rdy 8 (fun K hK => ?_)
          go_simp
          have N10 := Blk.far (Blk.far (Blk.far (Blk.far (Blk.far (Blk.far (Blk.far (Blk.far (Blk.far (Blk.far (Blk.far (Blk.far (N9) (p := ⟨w.heap.size, 0, none⟩) (Blk.ne_ N9 R9 (by decide)) (.int .i64 0)) (p := ⟨w.heap.size, 1, none⟩) (Blk.ne_ N9 R9 (by decide)) (.bool false)) (p := ⟨w.heap.size, 2, none⟩) (Blk.ne_ N9 R9 (by decide)) (.int .i64 0)) (p := ⟨w.heap.size, 3, none⟩) (Blk.ne_ N9 R9 (by decide)) (.int .i64 0)) (p := ⟨w.heap.size, 4, none⟩) (Blk.ne_ N9 R9 (by decide)) (.int .i64 0)) (p := ⟨w.heap.size, 5, none⟩) (Blk.ne_ N9 R9 (by decide)) (.int .i64 0)) (p := ⟨w.heap.size, 6, none⟩) (Blk.ne_ N9 R9 (by decide)) (.int .i64 0)) (p := ⟨w.heap.size, 7, none⟩) (Blk.ne_ N9 R9 (by decide)) (.int .i64 0)) (p := ⟨w.heap.size, 8, none⟩) (Blk.ne_ N9 R9 (by decide)) (.int .i64 0)) (p := ⟨w.heap.size, 9, none⟩) (Blk.ne_ N9 R9 (by decide)) (.int .i64 0)) (p := ⟨w.heap.size, 10, none⟩) (Blk.ne_ N9 R9 (by decide)) (.bool false)) (p := ⟨w.heap.size, 11, none⟩) (Blk.ne_ N9 R9 (by decide)) (.bool false)
          refine hK.out _ _ ⟨Blk.cell N10 1, Blk.cell N10 2⟩ ?_
          clear hK K hHeld
          intro hHeld
          (try simp only [sps])
          refine rdy 9 (fun K hK => ?_)
          go_simp
          have N11 := Blk.st3 (u := .int .i64 (kk : Int)) (v := .int .i64 2) (x := .int .i64 (aa : Int)) N10 (Blk.ne_ N9 F9 (by decide))
          refine hK.out _ _ ⟨Blk.cell N11 1, Blk.cell N11 2⟩ ?_
          clear hK K hHeld
          intro hHeld
          (try simp only [sps])
          refine wpAnyH_done (by kernel_rfl) ?_ _
          (try simp only [sps])
          go_wp2_with fail
          exact bodyPost_ret (v := .tuple #[tHd0, tFlt kk aa]) (by simp [results, Tryz.results70, go_sem, f0, f1, f2', r0, r1, r2, r3, r4, r5, r6, r7, r8, r9, r10, r11, k1, k2, tHd0, tFlt]) rfl ⟨y2, Blk.st3 (Blk.far (Blk.far (Blk.far (Blk.far (Blk.far (Blk.far (Blk.far (Blk.far (Blk.far (Blk.far (Blk.far (Blk.far (l9) (p := ⟨w.heap.size, 0, none⟩) (ng1) _) (p := ⟨w.heap.size, 1, none⟩) (ng1) _) (p := ⟨w.heap.size, 2, none⟩) (ng1) _) (p := ⟨w.heap.size, 3, none⟩) (ng1) _) (p := ⟨w.heap.size, 4, none⟩) (ng1) _) (p := ⟨w.heap.size, 5, none⟩) (ng1) _) (p := ⟨w.heap.size, 6, none⟩) (ng1) _) (p := ⟨w.heap.size, 7, none⟩) (ng1) _) (p := ⟨w.heap.size, 8, none⟩) (ng1) _) (p := ⟨w.heap.size, 9, none⟩) (ng1) _) (p := ⟨w.heap.size, 10, none⟩) (ng1) _) (p := ⟨w.heap.size, 11, none⟩) (ng1) _) (Blk.ne_ l9 F9 (by decide)), ok2, b2, Turn.st3 (((((((((((((T9).set_ 0 _ (.inr (Nat.le_refl _))).set_ 1 _ (.inr (Nat.le_refl _))).set_ 2 _ (.inr (Nat.le_refl _))).set_ 3 _ (.inr (Nat.le_refl _))).set_ 4 _ (.inr (Nat.le_refl _))).set_ 5 _ (.inr (Nat.le_refl _))).set_ 6 _ (.inr (Nat.le_refl _))).set_ 7 _ (.inr (Nat.le_refl _))).set_ 8 _ (.inr (Nat.le_refl _))).set_ 9 _ (.inr (Nat.le_refl _))).set_ 10 _ (.inr (Nat.le_refl _))).set_ 11 _ (.inr (Nat.le_refl _))) (.inr hfl), .inl ⟨kk, aa, by have h1 := (tgaHead_some (s := s) (by rw [← HLL.out]; exact firstBad_at HOK.out HXX.out)).1; exact h1, rfl, by rw [HRY.out, if_neg (by have := H18.out; omega), ← HLL.out, firstBad_at HOK.out HXX.out]; rfl, fun _ => by rw [tgaFault_of H18.out, ← HLL.out, firstBad_at HOK.out HXX.out]⟩⟩
      · obtain rfl : i = 12 := by omega
        have hn : firstBad L = none := firstBad_all (fun x hx => by
          obtain ⟨j, hj, rfl⟩ := List.getElem_of_mem hx
          have := HOK.out j (by omega)
          rw [List.getElem?_eq_getElem hj] at this
          simpa using this)
        have HN9 := Lib.hid hn
        clear hn
        go_wp2_with (go_at_call 118; have hH := HHD.out; unfold tHdV at hH; refine (hH _).mono ?_; clear hH; rintro e w5 ⟨rfl, b5⟩; have I5 := HX.out.1.below b5; have l5 := Blk.below HX.out.2.2.1 b5 (Blk.lt HX.out.2.2.1); have s5 := Blk.below HX.out.2.1 b5 (Blk.lt HX.out.2.1); have T5 := HX.out.2.2.2.1.trans (Turn.of_below (S := [p, g]) b5); obtain ⟨f0, f1, f2', z0, z1, z2, fl⟩ := FB.all I5.F; have r0 := Blk.cell I5.R 0; have rz0 := Blk.frozen I5.R 0; have r1 := Blk.cell I5.R 1; have rz1 := Blk.frozen I5.R 1; have r2 := Blk.cell I5.R 2; have rz2 := Blk.frozen I5.R 2; have r3 := Blk.cell I5.R 3; have rz3 := Blk.frozen I5.R 3; have r4 := Blk.cell I5.R 4; have rz4 := Blk.frozen I5.R 4; have r5 := Blk.cell I5.R 5; have rz5 := Blk.frozen I5.R 5; have r6 := Blk.cell I5.R 6; have rz6 := Blk.frozen I5.R 6; have r7 := Blk.cell I5.R 7; have rz7 := Blk.frozen I5.R 7; have r8 := Blk.cell I5.R 8; have rz8 := Blk.frozen I5.R 8; have r9 := Blk.cell I5.R 9; have rz9 := Blk.frozen I5.R 9; have r10 := Blk.cell I5.R 10; have rz10 := Blk.frozen I5.R 10; have r11 := Blk.cell I5.R 11; have rz11 := Blk.frozen I5.R 11; have rl := Blk.lt I5.R)
        exact bodyPost_ret (v := .tuple #[tHdV (tgaHd s), tFlt0]) (by simp [results, Tryz.results70, go_sem, f0, f1, f2', r0, r1, r2, r3, r4, r5, r6, r7, r8, r9, r10, r11, k1, k2, tHdV, tFlt0]) rfl ⟨y2, Blk.st3 (Blk.far (Blk.far (Blk.far (Blk.far (Blk.far (Blk.far (Blk.far (Blk.far (Blk.far (Blk.far (Blk.far (Blk.far (l5) (p := ⟨w.heap.size, 0, none⟩) (ng1) _) (p := ⟨w.heap.size, 1, none⟩) (ng1) _) (p := ⟨w.heap.size, 2, none⟩) (ng1) _) (p := ⟨w.heap.size, 3, none⟩) (ng1) _) (p := ⟨w.heap.size, 4, none⟩) (ng1) _) (p := ⟨w.heap.size, 5, none⟩) (ng1) _) (p := ⟨w.heap.size, 6, none⟩) (ng1) _) (p := ⟨w.heap.size, 7, none⟩) (ng1) _) (p := ⟨w.heap.size, 8, none⟩) (ng1) _) (p := ⟨w.heap.size, 9, none⟩) (ng1) _) (p := ⟨w.heap.size, 10, none⟩) (ng1) _) (p := ⟨w.heap.size, 11, none⟩) (ng1) _) (Blk.ne_ l5 I5.F (by decide)), ok2, b2, Turn.st3 (((((((((((((T5).set_ 0 _ (.inr (Nat.le_refl _))).set_ 1 _ (.inr (Nat.le_refl _))).set_ 2 _ (.inr (Nat.le_refl _))).set_ 3 _ (.inr (Nat.le_refl _))).set_ 4 _ (.inr (Nat.le_refl _))).set_ 5 _ (.inr (Nat.le_refl _))).set_ 6 _ (.inr (Nat.le_refl _))).set_ 7 _ (.inr (Nat.le_refl _))).set_ 8 _ (.inr (Nat.le_refl _))).set_ 9 _ (.inr (Nat.le_refl _))).set_ 10 _ (.inr (Nat.le_refl _))).set_ 11 _ (.inr (Nat.le_refl _))) (.inr hfl), .inr ⟨rfl, Blk.st3 (Blk.far (Blk.far (Blk.far (Blk.far (Blk.far (Blk.far (Blk.far (Blk.far (Blk.far (Blk.far (Blk.far (Blk.far (s5) (p := ⟨w.heap.size, 0, none⟩) (np1) _) (p := ⟨w.heap.size, 1, none⟩) (np1) _) (p := ⟨w.heap.size, 2, none⟩) (np1) _) (p := ⟨w.heap.size, 3, none⟩) (np1) _) (p := ⟨w.heap.size, 4, none⟩) (np1) _) (p := ⟨w.heap.size, 5, none⟩) (np1) _) (p := ⟨w.heap.size, 6, none⟩) (np1) _) (p := ⟨w.heap.size, 7, none⟩) (np1) _) (p := ⟨w.heap.size, 8, none⟩) (np1) _) (p := ⟨w.heap.size, 9, none⟩) (np1) _) (p := ⟨w.heap.size, 10, none⟩) (np1) _) (p := ⟨w.heap.size, 11, none⟩) (np1) _) (Blk.ne_ s5 I5.F (by decide)), yr2, by rw [tgaFault_of H18.out, ← HLL.out, HN9.out], H18.out, HWK.out, by rw [HRY.out, if_neg (by have := H18.out; omega), ← HLL.out, HN9.out]⟩⟩
end Go.Proofs.YtlehkgkomjojmaaGreat
