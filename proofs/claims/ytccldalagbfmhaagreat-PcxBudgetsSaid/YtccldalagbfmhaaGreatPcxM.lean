/- pcx: the reading of pixels (no map). -/
import Derived.Test.YtccldalagbfmhaaGreatPcxL
import Derived.Deep.CutRange
import Derived.Laws.EntriesVeiled
namespace Go.Proofs.YtccldalagbfmhaaGreat
open Go.RowKit
set_option linter.unusedVariables false
set_option linter.unusedSimpArgs false

set_option maxRecDepth 100000 in
set_option maxHeartbeats 8000000 in
theorem pcxPixels_none {w : World} {p g r b d te : Nat} {s : ByteArray} {h : PcxHd} {y : Led} (hh : h.Ok) (hM : ¬ h.Map) (hsm : s.size ≤ 1099511627776) (h128 : 128 ≤ s.size) (hte : pcxTo s h = te) (S0 : SrcAt w p g s 0 s.size 128) (L0 : LedAt w g y) (R0 : RasAt w r g b (h.W : Int) (h.H : Int) true) (B0 : BufAt w b g d (pixL [] (4 * (h.W * h.H)))) (ok : y.Ok) (hr : y.reason = 0) (hzb : ((4 * (h.W * h.H) : Nat) : Int) ≤ y.bytes) :
    Calls Tryz.prog 77 #[.pointer (some ⟨p, 0, none⟩), pcxPicV s h, .int .i64 (te : Int), .pointer (some ⟨r, 0, none⟩)] w fun e w' => PPxPost w w' p g r b d s h y e := by
  have hmf : ∀ (fn : Fn) (first cap : Array Value) (w : World), (Instr.makeFunc fn first cap).run Tryz.prog w = .ok (.func fn first cap) w := fun _ _ _ _ => rfl
  have hte1 : te ≤ s.size := by rw [← hte]; exact pcxTo_le
  have hte2 : 128 ≤ te := by rw [← hte]; unfold pcxTo; rw [if_neg hM]; omega
  obtain ⟨S1, L1, R1, B1, F1, Q1, T1⟩ := PM.new (.inr trivial) S0 L0 R0 B0
  have opp := Blk.lt S0
  have obb := Blk.lt B0.blk
  have odd := Blk.lt B0.row
  obtain ⟨_, hN, _, _, _⟩ := hh.sizes
  have HH := Lib.hid hh
  have HM := Lib.hid hM
  have HSZ := Lib.hid (And.intro hsm (And.intro h128 (And.intro hte (And.intro hte1 hte2))))
  have HOK := Lib.hid (And.intro ok (And.intro hr hzb))
  have HN := Lib.hid hN
  generalize hw1 : (w.alloc (.cells #[.int .i64 (h.W : Int), .int .i64 (h.H : Int), .int .i64 (h.bits : Int), .int .i64 (h.planes : Int), .int .i64 (h.line : Int), .string (s.extract 16 64), .nilFunc] 145)).alloc (.cells #[.int .i64 0, .int .i64 0, .int .i64 0] 31) = w1 at S1 L1 R1 B1 F1 Q1 T1
  have HW1 := Lib.hid hw1
  unfold pcxPicV
  have hteI : (te : Int) ≤ 1099511627776 := by omega
  clear hh hM hsm h128 hte S0 L0 R0 B0 ok hr hzb hte1 hte2 hN hw1
  go_enter_defers Tryz.func77, Tryz.ntmps77
  refine Code.wp_mono bodyPostN_D ?_
  go_upto_region 2 with fail
  rw [HW1.out]
  generalize hqq : w.heap.size = q at F1 Q1 opp obb odd ⊢
  have hfq : q ≠ q + 1 := by omega
  generalize hff : q + 1 = f at F1 hfq ⊢
  have HQF := Lib.hid (And.intro hqq hff)
  have q2 : w1.cell? ⟨q, 2, none⟩ = some (.int .i64 (h.bits : Int)) := Blk.cell Q1 2
  have q3 : w1.cell? ⟨q, 3, none⟩ = some (.int .i64 (h.planes : Int)) := Blk.cell Q1 3
  go_cut [28] from 21 to 28 (fun c28 wx => c28 = .bool false ∧ wx = w1)
  case first =>
    by_cases hb8 : h.bits = 8
    · have hb8I : ((h.bits : Int) == 8) = true := by rw [beq_iff_eq]; omega
      have hp1I : ((h.planes : Int) == 1) = false := by rw [beq_eq_false_iff_ne]; exact fun e => HM.out ⟨hb8, by omega⟩
      clear hb8
      go_wp2_with fail
      go_meet
      case rel => exact ⟨rfl, rfl⟩
    · have hb8I : ((h.bits : Int) == 8) = false := by rw [beq_eq_false_iff_ne]; omega
      clear hb8
      go_wp2_with fail
      go_meet
      case rel => exact ⟨rfl, rfl⟩
  case rest =>
    obtain ⟨rfl, rfl⟩ := hcut
    clear q2 q3
    have HI1 : Hid (PM w wc p g r b d f q 0 0 0 s h .nilFunc [] y) := Lib.hid ⟨S1, L1, R1, B1, F1, Q1, fun hm => absurd hm HM.out, T1, by have := HQF.out; omega, by have := HQF.out; omega, by have := HQF.out; omega, by have := HQF.out; omega, by have := HQF.out; omega⟩
    have HY0 := HOK
    have HRUN0 : Hid ((pcxPix s h (4 * (h.W * h.H))).run y = (Dec.hold h.row (4 * (h.W * h.H)) 128 (pcxRows s h te (4 * (h.W * h.H) + h.row) h.row h.H 128 [])).run y) := Lib.hid (by unfold pcxPix; rw [if_neg HM.out, HSZ.out.2.2.1])
    obtain ⟨y2, hy2⟩ : ∃ y2, y = y2 := ⟨_, rfl⟩
    rw [hy2] at HI1
    have HYY := Lib.hid hy2
    clear S1 L1 R1 B1 F1 Q1 T1 hy2
    go_upto_region 8 with fail
    have HY2 : Hid (y2.Ok ∧ y2.reason = 0 ∧ y2.bytes = y.bytes + 0) := Lib.hid ⟨by rw [← HYY.out]; exact HOK.out.1, by rw [← HYY.out]; exact HOK.out.2.1, by rw [← HYY.out]; omega⟩
    have HRUN2 : Hid ((pcxPix s h (4 * (h.W * h.H))).run y = (Dec.hold h.row (4 * (h.W * h.H)) 128 (pcxRows s h te (4 * (h.W * h.H) + h.row) h.row h.H 128 [])).run y2) := Lib.hid (by rw [HRUN0.out, HYY.out])
    clear HRUN0 HYY
    have q3 : wc.cell? ⟨q, 3, none⟩ = some (.int .i64 (h.planes : Int)) := Blk.cell HI1.out.Q 3
    have q4 : wc.cell? ⟨q, 4, none⟩ = some (.int .i64 (h.line : Int)) := Blk.cell HI1.out.Q 4
    have hrowI : IntKind.i64.wrap ((h.planes : Int) * (h.line : Int)) = (h.row : Int) := by rw [← Int.natCast_mul]; exact IntWalk.i64_in _ (by have := HN.out; unfold PcxHd.row at this; omega)
    have hnl : ∀ {x : Nat}, wc.heap.size ≤ x → h.Map → 0 ≠ x := fun {x} hx hm => by
      obtain ⟨P, _⟩ := HI1.out.M hm
      have := P.lt
      omega
    have hnd : ∀ {x : Nat}, wc.heap.size ≤ x → h.Map → 0 ≠ x := fun {x} hx hm => by
      obtain ⟨P, _⟩ := HI1.out.M hm
      have := P.lt
      omega
    have hfb := Blk.lt HI1.out.F
    have hgb := Blk.lt HI1.out.L
    obtain ⟨y3, bv, hw3⟩ : ∃ y3 bv, y2.take ((h.row : Nat) : Int) = (y3, bv) := ⟨_, _, rfl⟩
    have ok3 : y3.Ok := by have := HY2.out.1.take ((h.row : Nat) : Int); rw [hw3] at this; exact this
    cases bv with
    | false =>
      obtain ⟨yr3, yb3⟩ := led_take_no (x := y2) (n := ((h.row : Nat) : Int)) (by rw [hw3]) HY2.out.2.1
      rw [hw3] at yr3 yb3
      have HY3 := Lib.hid (And.intro ok3 (And.intro yr3 (yb3.trans HY2.out.2.2)))
      have HRUN3 : Hid ((pcxPix s h (4 * (h.W * h.H))).run y = ((y3.give (((4 * (h.W * h.H)) : Nat) : Int)).1, .bad 4 128)) := Lib.hid (by rw [HRUN2.out]; exact run_hold_no hw3)
      have HMK := Lib.hid (fun w (k : LedAt w g y2) => bufMake_no k HY2.out.1 hw3 (Int.natCast_nonneg _))
      clear ok3 yr3 yb3 hw3
      go_cut [11, 12] from 41 to 51 (fun c11 c12 wx => c12 = .int .i64 4 ∧ Hid (PM w wx p g r b d f q 0 0 0 s h .nilFunc [] y3))
      case first =>
        refine wp_region_held_drew (S := (fun w' => w'.cell? ⟨q, 3, none⟩ = some (.int .i64 (h.planes : Int)) ∧ w'.cell? ⟨q, 4, none⟩ = some (.int .i64 (h.line : Int)))) (by kernel_rfl) ⟨q3, q4⟩ (fun hHeld => ?_)
        refine wpAnyH_take (i := 0) (v := ?_) rfl (by kernel_rfl) (by kernel_rfl) (by kernel_rfl) (fun _ _ _ h => h) (Or.inl ⟨by kernel_rfl, ?_⟩) (by assumption) ?_
        rotate_left
        · intro w hSw; (try dsimp only at hSw); go_simp; (try with_reducible rfl)
        (try simp only [Act.put, List.getElem_toArray, List.getElem_cons_succ, List.getElem_cons_zero, List.setIfInBounds_toArray, List.set_cons_zero, List.set_cons_succ])
        refine wpAnyH_take (i := 2) (v := ?_) rfl (by kernel_rfl) (by kernel_rfl) (by kernel_rfl) (fun _ _ _ h => h) (Or.inl ⟨by kernel_rfl, ?_⟩) (by assumption) ?_
        rotate_left
        · intro w hSw; (try dsimp only at hSw); go_simp; (try with_reducible rfl)
        (try simp only [Act.put, List.getElem_toArray, List.getElem_cons_succ, List.getElem_cons_zero, List.setIfInBounds_toArray, List.set_cons_zero, List.set_cons_succ])
        refine wpAnyH_take (i := 3) (v := ?_) rfl (by kernel_rfl) (by kernel_rfl) (by kernel_rfl) (fun _ _ _ h => h) (Or.inl ⟨by kernel_rfl, ?_⟩) (by assumption) ?_
        rotate_left
        · intro w hSw; (try dsimp only at hSw); go_simp; (try with_reducible rfl)
        (try simp only [Act.put, List.getElem_toArray, List.getElem_cons_succ, List.getElem_cons_zero, List.setIfInBounds_toArray, List.set_cons_zero, List.set_cons_succ])
        refine wpAnyH_take (i := 4) (v := ?_) rfl (by kernel_rfl) (by kernel_rfl) (by kernel_rfl) (fun _ _ _ h => h) (Or.inl ⟨by kernel_rfl, ?_⟩) (by assumption) ?_
        rotate_left
        · intro w hSw; (try dsimp only at hSw); go_simp; (try with_reducible rfl)
        (try simp only [Act.put, List.getElem_toArray, List.getElem_cons_succ, List.getElem_cons_zero, List.setIfInBounds_toArray, List.set_cons_zero, List.set_cons_succ])
        refine wpAnyH_take (i := 5) (v := ?_) rfl (by kernel_rfl) (by kernel_rfl) (by kernel_rfl) (fun _ _ _ h => h) (Or.inl ⟨by kernel_rfl, ?_⟩) (by assumption) ?_
        rotate_left
        · intro w hSw; (try dsimp only at hSw); go_simp; (try with_reducible rfl)
        (try simp only [Act.put, List.getElem_toArray, List.getElem_cons_succ, List.getElem_cons_zero, List.setIfInBounds_toArray, List.set_cons_zero, List.set_cons_succ])
        refine wpAnyH_take (i := 6) (v := ?_) rfl (by kernel_rfl) (by kernel_rfl) (by kernel_rfl) (fun _ _ _ h => h) (Or.inl ⟨by kernel_rfl, ?_⟩) (by assumption) ?_
        rotate_left
        · intro w hSw; (try dsimp only at hSw); go_simp; (try with_reducible rfl)
        (try simp only [Act.put, List.getElem_toArray, List.getElem_cons_succ, List.getElem_cons_zero, List.setIfInBounds_toArray, List.set_cons_zero, List.set_cons_succ])
        refine wpAnyH_ready (rs := [1, 11]) (by kernel_rfl) (by simp) ?_
        refine AllReadyH.cons rfl (fun K hK => ?_) (AllReadyH.cons rfl (fun K hK => ?_) AllReadyH.nil)
        · go_simp
          refine (srcLedger_at HI1.out.drew.S).mono ?_
          rintro e w9 ⟨rfl, rfl⟩
          refine hK.out _ _ ⟨q3, q4⟩ (fun hHeld' => ?_)
          clear hK K hHeld
          have hHeld := hHeld'
          clear hHeld'
          (try simp only [Act.put, List.getElem_toArray, List.getElem_cons_succ, List.getElem_cons_zero, List.setIfInBounds_toArray, List.set_cons_zero, List.set_cons_succ])
          refine wpAnyH_ready (rs := [7, 11]) (by kernel_rfl) (by simp) ?_
          refine AllReadyH.cons rfl (fun K hK => ?_) (AllReadyH.cons rfl (fun K hK => ?_) AllReadyH.nil)
          · go_simp
            refine (HMK.out _ HI1.out.drew.L).mono ?_
            rintro e w4 ⟨rfl, l4, t4⟩
            have I4 := HI1.out.drew.led t4 l4
            refine hK.out _ _ ⟨Blk.cell I4.Q 3, Blk.cell I4.Q 4⟩ (fun hHeld' => ?_)
            clear hK K hHeld
            have hHeld := hHeld'
            clear hHeld'
            (try simp only [Act.put, List.getElem_toArray, List.getElem_cons_succ, List.getElem_cons_zero, List.setIfInBounds_toArray, List.set_cons_zero, List.set_cons_succ])
            refine wpAnyH_take (i := 8) (v := ?_) rfl (by kernel_rfl) (by kernel_rfl) (by kernel_rfl) (fun _ _ _ h => h) (Or.inl ⟨by kernel_rfl, ?_⟩) (by assumption) ?_
            rotate_left
            · intro w hSw; (try dsimp only at hSw); go_simp; (try with_reducible rfl)
            (try simp only [Act.put, List.getElem_toArray, List.getElem_cons_succ, List.getElem_cons_zero, List.setIfInBounds_toArray, List.set_cons_zero, List.set_cons_succ])
            refine wpAnyH_take (i := 9) (v := ?_) rfl (by kernel_rfl) (by kernel_rfl) (by kernel_rfl) (fun _ _ _ h => h) (Or.inl ⟨by kernel_rfl, ?_⟩) (by assumption) ?_
            rotate_left
            · intro w hSw; (try dsimp only at hSw); go_simp; (try with_reducible rfl)
            (try simp only [Act.put, List.getElem_toArray, List.getElem_cons_succ, List.getElem_cons_zero, List.setIfInBounds_toArray, List.set_cons_zero, List.set_cons_succ])
            refine wpAnyH_take (i := 10) (v := ?_) rfl (by kernel_rfl) (by kernel_rfl) (by kernel_rfl) (fun _ _ _ h => h) (Or.inl ⟨by kernel_rfl, ?_⟩) (by assumption) ?_
            rotate_left
            · intro w hSw; (try dsimp only at hSw); go_simp; (try with_reducible rfl)
            (try simp only [Act.put, List.getElem_toArray, List.getElem_cons_succ, List.getElem_cons_zero, List.setIfInBounds_toArray, List.set_cons_zero, List.set_cons_succ])
            refine wpAnyH_ready (rs := [11]) (by kernel_rfl) (by simp) ?_
            refine AllReadyH.cons rfl (fun K hK => ?_) AllReadyH.nil
            go_simp
            refine hK.out _ _ ⟨keepAl (Blk.cell I4.Q 3) _, keepAl (Blk.cell I4.Q 4) _⟩ (fun hHeld' => ?_)
            clear hK K hHeld
            have hHeld := hHeld'
            clear hHeld'
            (try simp only [Act.put, List.getElem_toArray, List.getElem_cons_succ, List.getElem_cons_zero, List.setIfInBounds_toArray, List.set_cons_zero, List.set_cons_succ])
            refine wpAnyH_ready (rs := [12]) (by kernel_rfl) (by simp) ?_
            refine AllReadyH.cons rfl (fun K hK => ?_) AllReadyH.nil
            go_simp
            refine hK.out _ _ ⟨keepAl (Blk.cell I4.Q 3) _, keepAl (Blk.cell I4.Q 4) _⟩ (fun hHeld' => ?_)
            clear hK K hHeld
            have hHeld := hHeld'
            clear hHeld'
            (try simp only [Act.put, List.getElem_toArray, List.getElem_cons_succ, List.getElem_cons_zero, List.setIfInBounds_toArray, List.set_cons_zero, List.set_cons_succ])
            refine wpAnyH_take (i := 13) (v := ?_) rfl (by kernel_rfl) (by kernel_rfl) (by kernel_rfl) (fun _ _ _ h => h) (Or.inl ⟨by kernel_rfl, ?_⟩) (by assumption) ?_
            rotate_left
            · intro w hSw; (try dsimp only at hSw); go_simp; (try with_reducible rfl)
            (try simp only [Act.put, List.getElem_toArray, List.getElem_cons_succ, List.getElem_cons_zero, List.setIfInBounds_toArray, List.set_cons_zero, List.set_cons_succ])
            refine wpAnyH_done (by kernel_rfl) ?_ _
            (try simp only [List.getElem_toArray, List.getElem_cons_succ, List.getElem_cons_zero, List.set_cons_zero, List.set_cons_succ])
            go_wp2_with fail
            go_meet
            case rel => exact ⟨rfl, Lib.hid (I4.alloc _)⟩
          · go_simp
            refine hK.out _ _ ⟨keepAl q3 _, keepAl q4 _⟩ (fun hHeld' => ?_)
            clear hK K hHeld
            have hHeld := hHeld'
            clear hHeld'
            (try simp only [Act.put, List.getElem_toArray, List.getElem_cons_succ, List.getElem_cons_zero, List.setIfInBounds_toArray, List.set_cons_zero, List.set_cons_succ])
            refine wpAnyH_ready (rs := [7]) (by kernel_rfl) (by simp) ?_
            refine AllReadyH.cons rfl (fun K hK => ?_) AllReadyH.nil
            go_simp
            have IA := (HI1.out.alloc (.cells #[.pointer none] 178)).drew
            have hxg : wc.heap.size ∉ [g] := by simp; omega
            refine (HMK.out _ IA.L).mono ?_
            rintro e w4 ⟨rfl, l4, t4⟩
            have I4 := IA.led t4 l4
            have X4 : Blk w4 wc.heap.size 178 #[.pointer none] := Blk.turn (Blk.drew (Blk.new wc 178 #[.pointer none])) t4 hxg
            have x0 := Blk.cell X4 0
            have xz := Blk.frozen X4 0
            have xl := Blk.lt X4
            have hqx : q ≠ wc.heap.size := Blk.ne_ I4.Q X4 (by decide)
            refine hK.out _ _ ⟨Blk.cell I4.Q 3, Blk.cell I4.Q 4⟩ (fun hHeld' => ?_)
            clear hK K hHeld
            have hHeld := hHeld'
            clear hHeld'
            (try simp only [Act.put, List.getElem_toArray, List.getElem_cons_succ, List.getElem_cons_zero, List.setIfInBounds_toArray, List.set_cons_zero, List.set_cons_succ])
            refine wpAnyH_take (i := 8) (v := ?_) rfl (by kernel_rfl) (by kernel_rfl) (by kernel_rfl) (fun _ _ _ h => h) (Or.inl ⟨by kernel_rfl, ?_⟩) (by assumption) ?_
            rotate_left
            · intro w hSw; (try dsimp only at hSw); go_simp; (try with_reducible rfl)
            (try simp only [Act.put, List.getElem_toArray, List.getElem_cons_succ, List.getElem_cons_zero, List.setIfInBounds_toArray, List.set_cons_zero, List.set_cons_succ])
            refine wpAnyH_take (i := 9) (v := ?_) rfl (by kernel_rfl) (by kernel_rfl) (by kernel_rfl) (fun _ _ _ h => h) (Or.inl ⟨by kernel_rfl, ?_⟩) (by assumption) ?_
            rotate_left
            · intro w hSw; (try dsimp only at hSw); go_simp; (try with_reducible rfl)
            (try simp only [Act.put, List.getElem_toArray, List.getElem_cons_succ, List.getElem_cons_zero, List.setIfInBounds_toArray, List.set_cons_zero, List.set_cons_succ])
            refine wpAnyH_take (i := 10) (v := ?_) rfl (by kernel_rfl) (by kernel_rfl) (by kernel_rfl) (fun _ _ _ h => h) (Or.inl ⟨by kernel_rfl, ?_⟩) (by assumption) ?_
            rotate_left
            · intro w hSw; (try dsimp only at hSw); go_simp; (try with_reducible rfl)
            (try simp only [Act.put, List.getElem_toArray, List.getElem_cons_succ, List.getElem_cons_zero, List.setIfInBounds_toArray, List.set_cons_zero, List.set_cons_succ])
            refine wpAnyH_ready (rs := [12]) (by kernel_rfl) (by simp) ?_
            refine AllReadyH.cons rfl (fun K hK => ?_) AllReadyH.nil
            go_simp
            refine hK.out _ _ ⟨cell_other1 hqx (Blk.cell I4.Q 3), cell_other1 hqx (Blk.cell I4.Q 4)⟩ (fun hHeld' => ?_)
            clear hK K hHeld
            have hHeld := hHeld'
            clear hHeld'
            (try simp only [Act.put, List.getElem_toArray, List.getElem_cons_succ, List.getElem_cons_zero, List.setIfInBounds_toArray, List.set_cons_zero, List.set_cons_succ])
            refine wpAnyH_take (i := 13) (v := ?_) rfl (by kernel_rfl) (by kernel_rfl) (by kernel_rfl) (fun _ _ _ h => h) (Or.inl ⟨by kernel_rfl, ?_⟩) (by assumption) ?_
            rotate_left
            · intro w hSw; (try dsimp only at hSw); go_simp; (try with_reducible rfl)
            (try simp only [Act.put, List.getElem_toArray, List.getElem_cons_succ, List.getElem_cons_zero, List.setIfInBounds_toArray, List.set_cons_zero, List.set_cons_succ])
            refine wpAnyH_done (by kernel_rfl) ?_ _
            (try simp only [List.getElem_toArray, List.getElem_cons_succ, List.getElem_cons_zero, List.set_cons_zero, List.set_cons_succ])
            go_wp2_with fail
            go_meet
            case rel => exact ⟨rfl, Lib.hid (I4.own ((Turn.refl [wc.heap.size] _).set_ 0 _ (.inl (by simp))) X4 HI1.out.T.size (by decide) (by decide) (by decide) (by decide) (by decide) (by decide) (by decide) (by omega))⟩
        · go_simp
          refine hK.out _ _ ⟨keepAl q3 _, keepAl q4 _⟩ (fun hHeld' => ?_)
          clear hK K hHeld
          have hHeld := hHeld'
          clear hHeld'
          (try simp only [Act.put, List.getElem_toArray, List.getElem_cons_succ, List.getElem_cons_zero, List.setIfInBounds_toArray, List.set_cons_zero, List.set_cons_succ])
          refine wpAnyH_ready (rs := [1]) (by kernel_rfl) (by simp) ?_
          refine AllReadyH.cons rfl (fun K hK => ?_) AllReadyH.nil
          go_simp
          refine (srcLedger_at (HI1.out.alloc (.cells #[.pointer none] 178)).drew.S).mono ?_
          rintro e w9 ⟨rfl, rfl⟩
          refine hK.out _ _ ⟨keepAl q3 _, keepAl q4 _⟩ (fun hHeld' => ?_)
          clear hK K hHeld
          have hHeld := hHeld'
          clear hHeld'
          (try simp only [Act.put, List.getElem_toArray, List.getElem_cons_succ, List.getElem_cons_zero, List.setIfInBounds_toArray, List.set_cons_zero, List.set_cons_succ])
          refine wpAnyH_ready (rs := [7]) (by kernel_rfl) (by simp) ?_
          refine AllReadyH.cons rfl (fun K hK => ?_) AllReadyH.nil
          go_simp
          have IA := (HI1.out.alloc (.cells #[.pointer none] 178)).drew
          have hxg : wc.heap.size ∉ [g] := by simp; omega
          refine (HMK.out _ IA.L).mono ?_
          rintro e w4 ⟨rfl, l4, t4⟩
          have I4 := IA.led t4 l4
          have X4 : Blk w4 wc.heap.size 178 #[.pointer none] := Blk.turn (Blk.drew (Blk.new wc 178 #[.pointer none])) t4 hxg
          have x0 := Blk.cell X4 0
          have xz := Blk.frozen X4 0
          have xl := Blk.lt X4
          have hqx : q ≠ wc.heap.size := Blk.ne_ I4.Q X4 (by decide)
          refine hK.out _ _ ⟨Blk.cell I4.Q 3, Blk.cell I4.Q 4⟩ (fun hHeld' => ?_)
          clear hK K hHeld
          have hHeld := hHeld'
          clear hHeld'
          (try simp only [Act.put, List.getElem_toArray, List.getElem_cons_succ, List.getElem_cons_zero, List.setIfInBounds_toArray, List.set_cons_zero, List.set_cons_succ])
          refine wpAnyH_take (i := 8) (v := ?_) rfl (by kernel_rfl) (by kernel_rfl) (by kernel_rfl) (fun _ _ _ h => h) (Or.inl ⟨by kernel_rfl, ?_⟩) (by assumption) ?_
          rotate_left
          · intro w hSw; (try dsimp only at hSw); go_simp; (try with_reducible rfl)
          (try simp only [Act.put, List.getElem_toArray, List.getElem_cons_succ, List.getElem_cons_zero, List.setIfInBounds_toArray, List.set_cons_zero, List.set_cons_succ])
          refine wpAnyH_take (i := 9) (v := ?_) rfl (by kernel_rfl) (by kernel_rfl) (by kernel_rfl) (fun _ _ _ h => h) (Or.inl ⟨by kernel_rfl, ?_⟩) (by assumption) ?_
          rotate_left
          · intro w hSw; (try dsimp only at hSw); go_simp; (try with_reducible rfl)
          (try simp only [Act.put, List.getElem_toArray, List.getElem_cons_succ, List.getElem_cons_zero, List.setIfInBounds_toArray, List.set_cons_zero, List.set_cons_succ])
          refine wpAnyH_take (i := 10) (v := ?_) rfl (by kernel_rfl) (by kernel_rfl) (by kernel_rfl) (fun _ _ _ h => h) (Or.inl ⟨by kernel_rfl, ?_⟩) (by assumption) ?_
          rotate_left
          · intro w hSw; (try dsimp only at hSw); go_simp; (try with_reducible rfl)
          (try simp only [Act.put, List.getElem_toArray, List.getElem_cons_succ, List.getElem_cons_zero, List.setIfInBounds_toArray, List.set_cons_zero, List.set_cons_succ])
          refine wpAnyH_ready (rs := [12]) (by kernel_rfl) (by simp) ?_
          refine AllReadyH.cons rfl (fun K hK => ?_) AllReadyH.nil
          go_simp
          refine hK.out _ _ ⟨cell_other1 hqx (Blk.cell I4.Q 3), cell_other1 hqx (Blk.cell I4.Q 4)⟩ (fun hHeld' => ?_)
          clear hK K hHeld
          have hHeld := hHeld'
          clear hHeld'
          (try simp only [Act.put, List.getElem_toArray, List.getElem_cons_succ, List.getElem_cons_zero, List.setIfInBounds_toArray, List.set_cons_zero, List.set_cons_succ])
          refine wpAnyH_take (i := 13) (v := ?_) rfl (by kernel_rfl) (by kernel_rfl) (by kernel_rfl) (fun _ _ _ h => h) (Or.inl ⟨by kernel_rfl, ?_⟩) (by assumption) ?_
          rotate_left
          · intro w hSw; (try dsimp only at hSw); go_simp; (try with_reducible rfl)
          (try simp only [Act.put, List.getElem_toArray, List.getElem_cons_succ, List.getElem_cons_zero, List.setIfInBounds_toArray, List.set_cons_zero, List.set_cons_succ])
          refine wpAnyH_done (by kernel_rfl) ?_ _
          (try simp only [List.getElem_toArray, List.getElem_cons_succ, List.getElem_cons_zero, List.set_cons_zero, List.set_cons_succ])
          go_wp2_with fail
          go_meet
          case rel => exact ⟨rfl, Lib.hid (I4.own ((Turn.refl [wc.heap.size] _).set_ 0 _ (.inl (by simp))) X4 HI1.out.T.size (by decide) (by decide) (by decide) (by decide) (by decide) (by decide) (by decide) (by omega))⟩
      case rest =>
        obtain ⟨rfl, HI3⟩ := hcut
        clear HI1
        go_wp2_with (go_at_call 61; refine (srcFault_is 7 HI3.out.S HI3.out.L (.inl ⟨HY3.out.2.1, rfl, rfl⟩)).mono ?_; rintro e w6 ⟨rfl, b6⟩; have I6 := HI3.out.below b6; obtain ⟨f0, f1, f2', z0, z1, z2, fl⟩ := FB.all I6.F)
        exact pleaves_none rfl (v := pFlt 4 128) (by simp [results, Tryz.results77, go_sem, f0, f1, f2', pFlt, pFlt0]) ⟨y3, [], Blk.st3 I6.L (Blk.ne_ I6.L I6.F (by decide)), HY3.out.1, by have := HY3.out.2.2; omega, Turn.st3 I6.T (.inr I6.nf), ⟨Blk.st3 I6.B.blk (Blk.ne_ I6.B.blk I6.F (by decide)), Blk.st3 I6.B.row (Blk.ne_ I6.B.row I6.F (by decide))⟩, by simp, .inl ⟨4, 128, by decide, rfl, HRUN3.out⟩⟩
    | true =>
      obtain ⟨_, yr3, yb3, _⟩ := led_take_yes (x := y2) (n := ((h.row : Nat) : Int)) (by rw [hw3])
      rw [hw3] at yr3 yb3
      have HY3 : Hid (y3.Ok ∧ y3.reason = 0 ∧ y3.bytes = y.bytes + (h.row : Nat)) := Lib.hid ⟨ok3, yr3, by have h1 : y3.bytes = y2.bytes + ((h.row : Nat) : Int) := yb3; have h2 := HY2.out.2.2; omega⟩
      have HRUN3 : Hid ((pcxPix s h (4 * (h.W * h.H))).run y = (pcxRows s h te (4 * (h.W * h.H) + h.row) h.row h.H 128 []).run y3) := Lib.hid (by rw [HRUN2.out]; exact run_hold_yes hw3)
      have HMK := Lib.hid (fun w (k : LedAt w g y2) => bufMake_yes k HY2.out.1 hw3 (by have := HN.out; omega))
      clear ok3 yr3 yb3 hw3
      go_cut [11, 12] from 41 to 51 (fun c11 c12 wx => ∃ rb bb dd, c11 = .pointer (some ⟨rb, 0, none⟩) ∧ c12 = .int .i64 0 ∧ Hid (Mk8 w wx p g r b d f q 0 0 0 rb bb dd s h y3))
      case first =>
        refine wp_region_held_drew (S := (fun w' => w'.cell? ⟨q, 3, none⟩ = some (.int .i64 (h.planes : Int)) ∧ w'.cell? ⟨q, 4, none⟩ = some (.int .i64 (h.line : Int)))) (by kernel_rfl) ⟨q3, q4⟩ (fun hHeld => ?_)
        refine wpAnyH_take (i := 0) (v := ?_) rfl (by kernel_rfl) (by kernel_rfl) (by kernel_rfl) (fun _ _ _ h => h) (Or.inl ⟨by kernel_rfl, ?_⟩) (by assumption) ?_
        rotate_left
        · intro w hSw; (try dsimp only at hSw); go_simp; (try with_reducible rfl)
        (try simp only [Act.put, List.getElem_toArray, List.getElem_cons_succ, List.getElem_cons_zero, List.setIfInBounds_toArray, List.set_cons_zero, List.set_cons_succ])
        refine wpAnyH_take (i := 2) (v := ?_) rfl (by kernel_rfl) (by kernel_rfl) (by kernel_rfl) (fun _ _ _ h => h) (Or.inl ⟨by kernel_rfl, ?_⟩) (by assumption) ?_
        rotate_left
        · intro w hSw; (try dsimp only at hSw); go_simp; (try with_reducible rfl)
        (try simp only [Act.put, List.getElem_toArray, List.getElem_cons_succ, List.getElem_cons_zero, List.setIfInBounds_toArray, List.set_cons_zero, List.set_cons_succ])
        refine wpAnyH_take (i := 3) (v := ?_) rfl (by kernel_rfl) (by kernel_rfl) (by kernel_rfl) (fun _ _ _ h => h) (Or.inl ⟨by kernel_rfl, ?_⟩) (by assumption) ?_
        rotate_left
        · intro w hSw; (try dsimp only at hSw); go_simp; (try with_reducible rfl)
        (try simp only [Act.put, List.getElem_toArray, List.getElem_cons_succ, List.getElem_cons_zero, List.setIfInBounds_toArray, List.set_cons_zero, List.set_cons_succ])
        refine wpAnyH_take (i := 4) (v := ?_) rfl (by kernel_rfl) (by kernel_rfl) (by kernel_rfl) (fun _ _ _ h => h) (Or.inl ⟨by kernel_rfl, ?_⟩) (by assumption) ?_
        rotate_left
        · intro w hSw; (try dsimp only at hSw); go_simp; (try with_reducible rfl)
        (try simp only [Act.put, List.getElem_toArray, List.getElem_cons_succ, List.getElem_cons_zero, List.setIfInBounds_toArray, List.set_cons_zero, List.set_cons_succ])
        refine wpAnyH_take (i := 5) (v := ?_) rfl (by kernel_rfl) (by kernel_rfl) (by kernel_rfl) (fun _ _ _ h => h) (Or.inl ⟨by kernel_rfl, ?_⟩) (by assumption) ?_
        rotate_left
        · intro w hSw; (try dsimp only at hSw); go_simp; (try with_reducible rfl)
        (try simp only [Act.put, List.getElem_toArray, List.getElem_cons_succ, List.getElem_cons_zero, List.setIfInBounds_toArray, List.set_cons_zero, List.set_cons_succ])
        refine wpAnyH_take (i := 6) (v := ?_) rfl (by kernel_rfl) (by kernel_rfl) (by kernel_rfl) (fun _ _ _ h => h) (Or.inl ⟨by kernel_rfl, ?_⟩) (by assumption) ?_
        rotate_left
        · intro w hSw; (try dsimp only at hSw); go_simp; (try with_reducible rfl)
        (try simp only [Act.put, List.getElem_toArray, List.getElem_cons_succ, List.getElem_cons_zero, List.setIfInBounds_toArray, List.set_cons_zero, List.set_cons_succ])
        refine wpAnyH_ready (rs := [1, 11]) (by kernel_rfl) (by simp) ?_
        refine AllReadyH.cons rfl (fun K hK => ?_) (AllReadyH.cons rfl (fun K hK => ?_) AllReadyH.nil)
        · go_simp
          refine (srcLedger_at HI1.out.drew.S).mono ?_
          rintro e w9 ⟨rfl, rfl⟩
          refine hK.out _ _ ⟨q3, q4⟩ (fun hHeld' => ?_)
          clear hK K hHeld
          have hHeld := hHeld'
          clear hHeld'
          (try simp only [Act.put, List.getElem_toArray, List.getElem_cons_succ, List.getElem_cons_zero, List.setIfInBounds_toArray, List.set_cons_zero, List.set_cons_succ])
          refine wpAnyH_ready (rs := [7, 11]) (by kernel_rfl) (by simp) ?_
          refine AllReadyH.cons rfl (fun K hK => ?_) (AllReadyH.cons rfl (fun K hK => ?_) AllReadyH.nil)
          · go_simp
            refine (HMK.out _ HI1.out.drew.L).mono ?_
            rintro e w4 ⟨bb, dd, rfl, BB4, l4, nb4, nd4, t4⟩
            have I4 := HI1.out.drew.led t4 l4
            have hs4 := t4.size
            refine hK.out _ _ ⟨Blk.cell I4.Q 3, Blk.cell I4.Q 4⟩ (fun hHeld' => ?_)
            clear hK K hHeld
            have hHeld := hHeld'
            clear hHeld'
            (try simp only [Act.put, List.getElem_toArray, List.getElem_cons_succ, List.getElem_cons_zero, List.setIfInBounds_toArray, List.set_cons_zero, List.set_cons_succ])
            refine wpAnyH_take (i := 8) (v := ?_) rfl (by kernel_rfl) (by kernel_rfl) (by kernel_rfl) (fun _ _ _ h => h) (Or.inl ⟨by kernel_rfl, ?_⟩) (by assumption) ?_
            rotate_left
            · intro w hSw; (try dsimp only at hSw); go_simp; (try with_reducible rfl)
            (try simp only [Act.put, List.getElem_toArray, List.getElem_cons_succ, List.getElem_cons_zero, List.setIfInBounds_toArray, List.set_cons_zero, List.set_cons_succ])
            refine wpAnyH_take (i := 9) (v := ?_) rfl (by kernel_rfl) (by kernel_rfl) (by kernel_rfl) (fun _ _ _ h => h) (Or.inl ⟨by kernel_rfl, ?_⟩) (by assumption) ?_
            rotate_left
            · intro w hSw; (try dsimp only at hSw); go_simp; (try with_reducible rfl)
            (try simp only [Act.put, List.getElem_toArray, List.getElem_cons_succ, List.getElem_cons_zero, List.setIfInBounds_toArray, List.set_cons_zero, List.set_cons_succ])
            refine wpAnyH_take (i := 10) (v := ?_) rfl (by kernel_rfl) (by kernel_rfl) (by kernel_rfl) (fun _ _ _ h => h) (Or.inl ⟨by kernel_rfl, ?_⟩) (by assumption) ?_
            rotate_left
            · intro w hSw; (try dsimp only at hSw); go_simp; (try with_reducible rfl)
            (try simp only [Act.put, List.getElem_toArray, List.getElem_cons_succ, List.getElem_cons_zero, List.setIfInBounds_toArray, List.set_cons_zero, List.set_cons_succ])
            refine wpAnyH_ready (rs := [11]) (by kernel_rfl) (by simp) ?_
            refine AllReadyH.cons rfl (fun K hK => ?_) AllReadyH.nil
            go_simp
            refine hK.out _ _ ⟨keepAl (Blk.cell I4.Q 3) _, keepAl (Blk.cell I4.Q 4) _⟩ (fun hHeld' => ?_)
            clear hK K hHeld
            have hHeld := hHeld'
            clear hHeld'
            (try simp only [Act.put, List.getElem_toArray, List.getElem_cons_succ, List.getElem_cons_zero, List.setIfInBounds_toArray, List.set_cons_zero, List.set_cons_succ])
            refine wpAnyH_ready (rs := [12]) (by kernel_rfl) (by simp) ?_
            refine AllReadyH.cons rfl (fun K hK => ?_) AllReadyH.nil
            go_simp
            refine hK.out _ _ ⟨keepAl (Blk.cell I4.Q 3) _, keepAl (Blk.cell I4.Q 4) _⟩ (fun hHeld' => ?_)
            clear hK K hHeld
            have hHeld := hHeld'
            clear hHeld'
            (try simp only [Act.put, List.getElem_toArray, List.getElem_cons_succ, List.getElem_cons_zero, List.setIfInBounds_toArray, List.set_cons_zero, List.set_cons_succ])
            refine wpAnyH_take (i := 13) (v := ?_) rfl (by kernel_rfl) (by kernel_rfl) (by kernel_rfl) (fun _ _ _ h => h) (Or.inl ⟨by kernel_rfl, ?_⟩) (by assumption) ?_
            rotate_left
            · intro w hSw; (try dsimp only at hSw); go_simp; (try with_reducible rfl)
            (try simp only [Act.put, List.getElem_toArray, List.getElem_cons_succ, List.getElem_cons_zero, List.setIfInBounds_toArray, List.set_cons_zero, List.set_cons_succ])
            refine wpAnyH_done (by kernel_rfl) ?_ _
            (try simp only [List.getElem_toArray, List.getElem_cons_succ, List.getElem_cons_zero, List.set_cons_zero, List.set_cons_succ])
            go_wp2_with fail
            go_meet
            case rel => exact ⟨_, bb, dd, rfl, rfl, Lib.hid (Mk8.late I4 BB4 (by have := HI1.out.T.size; simp at nb4; omega) (by have := HI1.out.T.size; simp at nd4; omega) (fun hm => ⟨hnl (by simp at nb4; omega) hm, hnd (by simp at nd4; omega) hm⟩))⟩
          · go_simp
            refine hK.out _ _ ⟨keepAl q3 _, keepAl q4 _⟩ (fun hHeld' => ?_)
            clear hK K hHeld
            have hHeld := hHeld'
            clear hHeld'
            (try simp only [Act.put, List.getElem_toArray, List.getElem_cons_succ, List.getElem_cons_zero, List.setIfInBounds_toArray, List.set_cons_zero, List.set_cons_succ])
            refine wpAnyH_ready (rs := [7]) (by kernel_rfl) (by simp) ?_
            refine AllReadyH.cons rfl (fun K hK => ?_) AllReadyH.nil
            go_simp
            have IA := (HI1.out.alloc (.cells #[.pointer none] 178)).drew
            have hxg : wc.heap.size ∉ [g] := by simp; omega
            refine (HMK.out _ IA.L).mono ?_
            rintro e w4 ⟨bb, dd, rfl, BB4, l4, nb4, nd4, t4⟩
            have I4 := IA.led t4 l4
            have X4 : Blk w4 wc.heap.size 178 #[.pointer none] := Blk.turn (Blk.drew (Blk.new wc 178 #[.pointer none])) t4 hxg
            have x0 := Blk.cell X4 0
            have xz := Blk.frozen X4 0
            have xl := Blk.lt X4
            have hqx : q ≠ wc.heap.size := Blk.ne_ I4.Q X4 (by decide)
            refine hK.out _ _ ⟨Blk.cell I4.Q 3, Blk.cell I4.Q 4⟩ (fun hHeld' => ?_)
            clear hK K hHeld
            have hHeld := hHeld'
            clear hHeld'
            (try simp only [Act.put, List.getElem_toArray, List.getElem_cons_succ, List.getElem_cons_zero, List.setIfInBounds_toArray, List.set_cons_zero, List.set_cons_succ])
            refine wpAnyH_take (i := 8) (v := ?_) rfl (by kernel_rfl) (by kernel_rfl) (by kernel_rfl) (fun _ _ _ h => h) (Or.inl ⟨by kernel_rfl, ?_⟩) (by assumption) ?_
            rotate_left
            · intro w hSw; (try dsimp only at hSw); go_simp; (try with_reducible rfl)
            (try simp only [Act.put, List.getElem_toArray, List.getElem_cons_succ, List.getElem_cons_zero, List.setIfInBounds_toArray, List.set_cons_zero, List.set_cons_succ])
            refine wpAnyH_take (i := 9) (v := ?_) rfl (by kernel_rfl) (by kernel_rfl) (by kernel_rfl) (fun _ _ _ h => h) (Or.inl ⟨by kernel_rfl, ?_⟩) (by assumption) ?_
            rotate_left
            · intro w hSw; (try dsimp only at hSw); go_simp; (try with_reducible rfl)
            (try simp only [Act.put, List.getElem_toArray, List.getElem_cons_succ, List.getElem_cons_zero, List.setIfInBounds_toArray, List.set_cons_zero, List.set_cons_succ])
            refine wpAnyH_take (i := 10) (v := ?_) rfl (by kernel_rfl) (by kernel_rfl) (by kernel_rfl) (fun _ _ _ h => h) (Or.inl ⟨by kernel_rfl, ?_⟩) (by assumption) ?_
            rotate_left
            · intro w hSw; (try dsimp only at hSw); go_simp; (try with_reducible rfl)
            (try simp only [Act.put, List.getElem_toArray, List.getElem_cons_succ, List.getElem_cons_zero, List.setIfInBounds_toArray, List.set_cons_zero, List.set_cons_succ])
            refine wpAnyH_ready (rs := [12]) (by kernel_rfl) (by simp) ?_
            refine AllReadyH.cons rfl (fun K hK => ?_) AllReadyH.nil
            go_simp
            refine hK.out _ _ ⟨cell_other1 hqx (Blk.cell I4.Q 3), cell_other1 hqx (Blk.cell I4.Q 4)⟩ (fun hHeld' => ?_)
            clear hK K hHeld
            have hHeld := hHeld'
            clear hHeld'
            (try simp only [Act.put, List.getElem_toArray, List.getElem_cons_succ, List.getElem_cons_zero, List.setIfInBounds_toArray, List.set_cons_zero, List.set_cons_succ])
            refine wpAnyH_take (i := 13) (v := ?_) rfl (by kernel_rfl) (by kernel_rfl) (by kernel_rfl) (fun _ _ _ h => h) (Or.inl ⟨by kernel_rfl, ?_⟩) (by assumption) ?_
            rotate_left
            · intro w hSw; (try dsimp only at hSw); go_simp; (try with_reducible rfl)
            (try simp only [Act.put, List.getElem_toArray, List.getElem_cons_succ, List.getElem_cons_zero, List.setIfInBounds_toArray, List.set_cons_zero, List.set_cons_succ])
            refine wpAnyH_done (by kernel_rfl) ?_ _
            (try simp only [List.getElem_toArray, List.getElem_cons_succ, List.getElem_cons_zero, List.set_cons_zero, List.set_cons_succ])
            go_wp2_with fail
            go_meet
            case rel => exact ⟨_, bb, dd, rfl, rfl, Lib.hid (Mk8.early I4 X4 HI1.out.T.size (by omega) BB4 (by have := HI1.out.T.size; simp at nb4; omega) (by have := HI1.out.T.size; simp at nd4; omega) (fun hm => ⟨hnl (by simp at nb4; omega) hm, hnd (by simp at nd4; omega) hm⟩))⟩
        · go_simp
          refine hK.out _ _ ⟨keepAl q3 _, keepAl q4 _⟩ (fun hHeld' => ?_)
          clear hK K hHeld
          have hHeld := hHeld'
          clear hHeld'
          (try simp only [Act.put, List.getElem_toArray, List.getElem_cons_succ, List.getElem_cons_zero, List.setIfInBounds_toArray, List.set_cons_zero, List.set_cons_succ])
          refine wpAnyH_ready (rs := [1]) (by kernel_rfl) (by simp) ?_
          refine AllReadyH.cons rfl (fun K hK => ?_) AllReadyH.nil
          go_simp
          refine (srcLedger_at (HI1.out.alloc (.cells #[.pointer none] 178)).drew.S).mono ?_
          rintro e w9 ⟨rfl, rfl⟩
          refine hK.out _ _ ⟨keepAl q3 _, keepAl q4 _⟩ (fun hHeld' => ?_)
          clear hK K hHeld
          have hHeld := hHeld'
          clear hHeld'
          (try simp only [Act.put, List.getElem_toArray, List.getElem_cons_succ, List.getElem_cons_zero, List.setIfInBounds_toArray, List.set_cons_zero, List.set_cons_succ])
          refine wpAnyH_ready (rs := [7]) (by kernel_rfl) (by simp) ?_
          refine AllReadyH.cons rfl (fun K hK => ?_) AllReadyH.nil
          go_simp
          have IA := (HI1.out.alloc (.cells #[.pointer none] 178)).drew
          have hxg : wc.heap.size ∉ [g] := by simp; omega
          refine (HMK.out _ IA.L).mono ?_
          rintro e w4 ⟨bb, dd, rfl, BB4, l4, nb4, nd4, t4⟩
          have I4 := IA.led t4 l4
          have X4 : Blk w4 wc.heap.size 178 #[.pointer none] := Blk.turn (Blk.drew (Blk.new wc 178 #[.pointer none])) t4 hxg
          have x0 := Blk.cell X4 0
          have xz := Blk.frozen X4 0
          have xl := Blk.lt X4
          have hqx : q ≠ wc.heap.size := Blk.ne_ I4.Q X4 (by decide)
          refine hK.out _ _ ⟨Blk.cell I4.Q 3, Blk.cell I4.Q 4⟩ (fun hHeld' => ?_)
          clear hK K hHeld
          have hHeld := hHeld'
          clear hHeld'
          (try simp only [Act.put, List.getElem_toArray, List.getElem_cons_succ, List.getElem_cons_zero, List.setIfInBounds_toArray, List.set_cons_zero, List.set_cons_succ])
          refine wpAnyH_take (i := 8) (v := ?_) rfl (by kernel_rfl) (by kernel_rfl) (by kernel_rfl) (fun _ _ _ h => h) (Or.inl ⟨by kernel_rfl, ?_⟩) (by assumption) ?_
          rotate_left
          · intro w hSw; (try dsimp only at hSw); go_simp; (try with_reducible rfl)
          (try simp only [Act.put, List.getElem_toArray, List.getElem_cons_succ, List.getElem_cons_zero, List.setIfInBounds_toArray, List.set_cons_zero, List.set_cons_succ])
          refine wpAnyH_take (i := 9) (v := ?_) rfl (by kernel_rfl) (by kernel_rfl) (by kernel_rfl) (fun _ _ _ h => h) (Or.inl ⟨by kernel_rfl, ?_⟩) (by assumption) ?_
          rotate_left
          · intro w hSw; (try dsimp only at hSw); go_simp; (try with_reducible rfl)
          (try simp only [Act.put, List.getElem_toArray, List.getElem_cons_succ, List.getElem_cons_zero, List.setIfInBounds_toArray, List.set_cons_zero, List.set_cons_succ])
          refine wpAnyH_take (i := 10) (v := ?_) rfl (by kernel_rfl) (by kernel_rfl) (by kernel_rfl) (fun _ _ _ h => h) (Or.inl ⟨by kernel_rfl, ?_⟩) (by assumption) ?_
          rotate_left
          · intro w hSw; (try dsimp only at hSw); go_simp; (try with_reducible rfl)
          (try simp only [Act.put, List.getElem_toArray, List.getElem_cons_succ, List.getElem_cons_zero, List.setIfInBounds_toArray, List.set_cons_zero, List.set_cons_succ])
          refine wpAnyH_ready (rs := [12]) (by kernel_rfl) (by simp) ?_
          refine AllReadyH.cons rfl (fun K hK => ?_) AllReadyH.nil
          go_simp
          refine hK.out _ _ ⟨cell_other1 hqx (Blk.cell I4.Q 3), cell_other1 hqx (Blk.cell I4.Q 4)⟩ (fun hHeld' => ?_)
          clear hK K hHeld
          have hHeld := hHeld'
          clear hHeld'
          (try simp only [Act.put, List.getElem_toArray, List.getElem_cons_succ, List.getElem_cons_zero, List.setIfInBounds_toArray, List.set_cons_zero, List.set_cons_succ])
          refine wpAnyH_take (i := 13) (v := ?_) rfl (by kernel_rfl) (by kernel_rfl) (by kernel_rfl) (fun _ _ _ h => h) (Or.inl ⟨by kernel_rfl, ?_⟩) (by assumption) ?_
          rotate_left
          · intro w hSw; (try dsimp only at hSw); go_simp; (try with_reducible rfl)
          (try simp only [Act.put, List.getElem_toArray, List.getElem_cons_succ, List.getElem_cons_zero, List.setIfInBounds_toArray, List.set_cons_zero, List.set_cons_succ])
          refine wpAnyH_done (by kernel_rfl) ?_ _
          (try simp only [List.getElem_toArray, List.getElem_cons_succ, List.getElem_cons_zero, List.set_cons_zero, List.set_cons_succ])
          go_wp2_with fail
          go_meet
          case rel => exact ⟨_, bb, dd, rfl, rfl, Lib.hid (Mk8.early I4 X4 HI1.out.T.size (by omega) BB4 (by have := HI1.out.T.size; simp at nb4; omega) (by have := HI1.out.T.size; simp at nd4; omega) (fun hm => ⟨hnl (by simp at nb4; omega) hm, hnd (by simp at nd4; omega) hm⟩))⟩
      case rest =>
        obtain ⟨rb, bb, dd, rfl, rfl, HI3⟩ := hcut
        clear HI1 q3 q4 hnl hnd hfb hgb hrowI
        obtain ⟨wl, hwl⟩ : ∃ k, te - 128 = k := ⟨_, rfl⟩
        have hwlI : (te : Int) - 128 = (wl : Int) := by have := HSZ.out; omega
        have c0 : wc.cell? ⟨rb, 0, none⟩ = some (.pointer (some ⟨bb, 0, none⟩)) := Blk.cell HI3.out.2.1 0
        go_upto_region 14 with (first
          | (go_at_call 155; refine (srcWindow_yes (m := 128) (n := wl) (q := te) I4.S (Nat.zero_le _) (by have := HSZ.out; omega) (by have := HSZ.out; omega) HSZ.out.1).mono ?_; rintro e w5 ⟨wq, rfl, s5, hwq, b5⟩)
          | (go_at_call 89; refine (srcAt_at I4.S).mono ?_; rintro e w9 ⟨rfl, rfl⟩)
          | (go_at_call 154; refine (pcxChooseC HH.out HI3.out.1.Q).mono ?_; rintro e w4 ⟨rfl, bx4, bl4, q4', t4⟩; have I4 := HI3.out.1.pick t4 q4'))
        have hI5 : PN w w5 p g r b d f q 0 0 0 wq rb bb dd wc.heap.size (wc.heap.size + 1) s h te 128 (List.replicate h.row 0) [] y3 := by
          obtain ⟨K3, r3, BB3, nr3, nb3, nd3, nm3⟩ := HI3.out
          have n4 : ∀ {i : Nat} {ti : TypeId} {ci : Array Value}, Blk wc i ti ci → ti ≠ 145 → Blk w4 i ti ci := fun hb hne => Blk.turn hb t4 (by simpa using Blk.ne_ hb K3.Q hne)
          have r4 := n4 r3 (by decide)
          have x4 := n4 BB3.blk (by decide)
          have d4 := n4 BB3.row (by decide)
          exact ⟨I4.below b5, s5, Blk.below r4 b5 (Blk.lt r4), ⟨Blk.below x4 b5 (Blk.lt x4), Blk.below d4 b5 (Blk.lt d4)⟩, Blk.below bx4 b5 (Blk.lt bx4), fun hm => absurd hm HM.out, by simp, by have := I4.T.size; omega, nr3, nb3, nd3, nm3, ⟨Nat.le_refl _, by have := HSZ.out; omega, by have := HSZ.out; omega, HSZ.out.1⟩⟩
        have HI5 := Lib.hid hI5
        generalize wc.heap.size = bx at HI5
        generalize hbl : bx + 1 = bl at HI5
        clear hI5 I4 bx4 bl4 q4' t4 s5 hwq b5 HI3 hbl c0 hwl
        go_upto_region 15 with fail
        have q1 : w5.cell? ⟨q, 1, none⟩ = some (.int .i64 (h.H : Int)) := Blk.cell HI5.out.K.Q 1
        go_wp2_with fail
        go_loopg [73] h.H (fun gh v wr => ∃ (i gz a' : Nat) (yy : Led) (R : List UInt8) (Lq : List Qc), gz = gh ∧ i + gz = h.H ∧ v = .int .i64 (i : Int) ∧ Hid (PN w wr p g r b d f q 0 0 0 wq rb bb dd bx bl s h te a' R Lq yy ∧ Lq.length = i * h.W ∧ yy.Ok ∧ yy.reason = 0 ∧ yy.bytes = y.bytes + (h.row : Nat)) ∧ Hid ((pcxPix s h (4 * (h.W * h.H))).run y = (pcxRows s h te (4 * (h.W * h.H) + h.row) h.row gz a' Lq).run yy))
        case atStart => exact ⟨0, h.H, 128, y3, _, [], rfl, by omega, rfl, Lib.hid ⟨HI5.out, by simp, HY3.out⟩, HRUN3⟩
        case round =>
          obtain ⟨i, gz, a', yy, R, Lq, rfl, hi, rfl, HI, HRUN⟩ := hrel
          clear HI5 q1
          have c0 : wr.cell? ⟨rb, 0, none⟩ = some (.pointer (some ⟨bb, 0, none⟩)) := Blk.cell HI.out.1.rb_ 0
          by_cases hiH : i < h.H
          · have hiI : (i : Int) < (h.H : Int) := by omega
            obtain ⟨gm, rfl⟩ : ∃ gm, gz = gm + 1 := ⟨gz - 1, by omega⟩
            have HIG := Lib.hid (And.intro hi hiH)
            have hHI : (h.H : Int) ≤ 16384 := by have := HH.out.h2; omega
            have hfn := Blk.lt HI.out.1.K.F
            have HUN := Lib.hid (pcxUnpackC HI.out.1.W HI.out.1.K.L HI.out.1.BB HI.out.1.n HN.out HI.out.1.ok HI.out.2.2.1 HI.out.2.2.2.1)
            clear hi hiH
            go_upto_region 19 with (go_at_call 158; refine HUN.out.mono ?_; rintro e w6 ⟨y6, R6, l6, ok6, yb6, t6, B6, hR6, hor⟩; obtain ⟨K6, r6, x6, lx6⟩ := HI.out.1.read t6 l6; have hsz6 := t6.size; simp only [pFlt, pFlt0] at hor; rcases hor with ⟨kk, aa, hk, rfl, hno⟩ | ⟨a6, R2, rfl, ha6, hat, hR2, hlt, hRR, yr6, s6, hyes⟩; all_goals (try (have hkI : ¬ (kk : Int) = 0 := by omega)))
            · have hf6 : f ≠ w6.heap.size := by omega
              have hnew : w.heap.size ≤ w6.heap.size := K6.T.size
              have F7 : FB (w6.alloc (.cells #[.int .i64 (kk : Int), .int .i64 7, .int .i64 (aa : Int)] 31)) f 0 0 0 := Blk.alloc K6.F _
              obtain ⟨f0, f1, f2', z0, z1, z2, fl⟩ := FB.all F7
              have HPL : Hid (PL w (st3 (w6.alloc (.cells #[.int .i64 (kk : Int), .int .i64 7, .int .i64 (aa : Int)] 31)) f (.int .i64 (kk : Int)) (.int .i64 7) (.int .i64 (aa : Int))) p g b d f 0 0 0 bb dd s h (kk : Int) 7 (aa : Int) Lq h.row y y6) := Lib.hid (by
                have I := HI.out.1
                have K7 := K6.alloc (.cells #[.int .i64 (kk : Int), .int .i64 7, .int .i64 (aa : Int)] 31)
                have B7 : BufAt (w6.alloc (.cells #[.int .i64 (kk : Int), .int .i64 7, .int .i64 (aa : Int)] 31)) bb g dd R6 := ⟨Blk.alloc B6.blk _, Blk.alloc B6.row _⟩
                refine ⟨Blk.st3 K7.L (Blk.ne_ K7.L K7.F (by decide)), ⟨Blk.st3 K7.B.blk (Blk.ne_ K7.B.blk K7.F (by decide)), Blk.st3 K7.B.row (Blk.ne_ K7.B.row K7.F (by decide))⟩, FB.st3 K7.F, fun hm => ?_, ⟨R6, ⟨Blk.st3 B7.blk (Blk.ne_ B7.blk K7.F (by decide)), Blk.st3 B7.row (Blk.ne_ B7.row K7.F (by decide))⟩, hR6⟩, Turn.st3 K7.T (.inr K7.nf), I.nb, I.nd, I.nm, I.K.ob, I.K.od, I.K.nf, ok6, yb6.trans HI.out.2.2.2.2, HOK.out.2.2, ?_⟩
                · obtain ⟨P, n1⟩ := K7.M hm
                  obtain ⟨k1, _, rest, k3, _⟩ := id P
                  exact ⟨P.turn (Turn.st3 (Turn.refl [f] _) (.inl (by simp))) (by simpa using Blk.ne_ k1 K7.F (by decide)) (by simpa using Blk.ne_ k3.blk K7.F (by decide)) (by simpa using Blk.ne_ k3.row K7.F (by decide)), n1⟩
                · have h1 := HI.out.2.1
                  have h2 := HIG.out
                  rw [h1, Nat.mul_comm h.W h.H]
                  exact Nat.mul_le_mul_left _ (Nat.mul_le_mul_right _ (by omega)))
              have HPO : Hid (POut s h Lq h.row y y6 (pFlt kk aa)) := Lib.hid (.inl ⟨kk, aa, hk, rfl, by rw [HRUN.out]; exact hno _ _⟩)
              clear F7 K6 r6 x6 lx6 B6 l6 t6 hno
              go_wp2_with fail
              exact PL.leave1 HM.out rfl (fun w => by simp [go_sem]) (fun w' hF => by obtain ⟨e0, e1, e2, _, _, _, _⟩ := FB.all hF; simp [results, Tryz.results77, go_sem, e0, e1, e2, pFlt]) HPL.out HPO.out
            · have hf6 : f ≠ w6.heap.size := by omega
              have hnew : w.heap.size ≤ w6.heap.size := K6.T.size
              have I7 : PN w (w6.alloc (.cells #[.int .i64 0, .int .i64 0, .int .i64 0] 31)) p g r b d f q 0 0 0 wq rb bb dd bx bl s h te a6 (pb8 R2) Lq y6 := PN.alloc ⟨K6, s6, r6, by rw [← hRR]; exact B6, x6, lx6, by rw [pb8_len, hR2], HI.out.1.nw, HI.out.1.nr, HI.out.1.nb, HI.out.1.nd, HI.out.1.nm, ⟨by have := HI.out.1.ok.fa; omega, hat, HI.out.1.ok.ts, HI.out.1.ok.sm⟩⟩ _
              have HI7 : Hid (PN w (w6.alloc (.cells #[.int .i64 0, .int .i64 0, .int .i64 0] 31)) p g r b d f q 0 0 0 wq rb bb dd bx bl s h te a6 (pb8 R2) Lq y6 ∧ Lq.length = i * h.W + 0 ∧ y6.Ok ∧ y6.reason = 0 ∧ y6.bytes = y.bytes + (h.row : Nat)) := Lib.hid ⟨I7, by rw [HI.out.2.1, Nat.add_zero], ok6, yr6, yb6.trans HI.out.2.2.2.2⟩
              have HRUN7 : Hid ((pcxPix s h (4 * (h.W * h.H))).run y = (pcxLine s h (4 * (h.W * h.H) + h.row) a6 R2 h.W 0 Lq fun L => pcxRows s h te (4 * (h.W * h.H) + h.row) h.row gm a6 L).run y6) := Lib.hid (by rw [HRUN.out]; exact hyes _ _)
              have HR2 := Lib.hid (And.intro hR2 hlt)
              have q0 : (w6.alloc (.cells #[.int .i64 0, .int .i64 0, .int .i64 0] 31)).cell? ⟨q, 0, none⟩ = some (.int .i64 (h.W : Int)) := Blk.cell I7.K.Q 0
              have u17 : Blk (w6.alloc (.cells #[.int .i64 0, .int .i64 0, .int .i64 0] 31)) w6.heap.size 31 #[.int .i64 0, .int .i64 0, .int .i64 0] := Blk.new _ _ _
              have u0 := Blk.cell u17 0
              generalize w6.alloc (.cells #[.int .i64 0, .int .i64 0, .int .i64 0] 31) = w7 at HI7 q0 u0
              clear K6 r6 x6 lx6 B6 l6 t6 hyes I7 u17 s6 HUN HRUN HI c0 ok6 yb6 hlt hR2 hR6 hRR
              go_wp2_with fail
              go_loopg [85] h.W (fun gh v wr => ∃ (x gx : Nat) (yx : Led) (Lx : List Qc), gx = gh ∧ x + gx = h.W ∧ v = .int .i64 (x : Int) ∧ Hid (PN w wr p g r b d f q 0 0 0 wq rb bb dd bx bl s h te a6 (pb8 R2) Lx yx ∧ Lx.length = i * h.W + x ∧ yx.Ok ∧ yx.reason = 0 ∧ yx.bytes = y.bytes + (h.row : Nat)) ∧ Hid ((pcxPix s h (4 * (h.W * h.H))).run y = (pcxLine s h (4 * (h.W * h.H) + h.row) a6 R2 gx x Lx fun L => pcxRows s h te (4 * (h.W * h.H) + h.row) h.row gm a6 L).run yx))
              case atStart => exact ⟨0, h.W, y6, Lq, rfl, by omega, rfl, HI7, HRUN7⟩
              case round =>
                obtain ⟨x, gx, yx, Lx, rfl, hx, rfl, HX, HRX⟩ := hrel
                clear HI7 HRUN7 q0 u0
                by_cases hxW : x < h.W
                · have hxI : (x : Int) < (h.W : Int) := by omega
                  obtain ⟨gn, rfl⟩ : ∃ gn, gx = gn + 1 := ⟨gx - 1, by omega⟩
                  have hWI : (h.W : Int) ≤ 16384 := by have := HH.out.w2; omega
                  have HXG := Lib.hid (And.intro hx hxW)
                  have hPW : PxW wr rb bx q s h (pcxFn h bx bl) bb g dd R2 := ⟨HX.out.1.rb_, HX.out.1.BB, HX.out.1.x, HX.out.1.K.Q, HR2.out.1, HR2.out.2⟩
                  obtain ⟨fn, bz, hfv, HCF, hPX⟩ := pixC_is (lb := 0) (ld := 0) (l := 0) HH.out HSZ.out.2.1 hPW (fun hm => ⟨HX.out.1.lx hm, (HX.out.1.K.M hm).1⟩)
                  have HPX := Lib.hid (hPX x hxW)
                  have q6 : wr.cell? ⟨q, 6, none⟩ = some (.func (.func fn) #[] #[.pointer (some ⟨bz, 0, none⟩)]) := by
                    have := Blk.cell HX.out.1.K.Q 6
                    rw [← hfv]
                    exact this
                  clear hx hxW hPW hfv hPX
                  go_wp2_with fail
                  refine HPX.out.mono ?_
                  rintro e w8 ⟨rfl, b8⟩
                  obtain ⟨qc, hqc⟩ : ∃ c, pcxQ s h R2 x = c := ⟨_, rfl⟩
                  rw [hqc]
                  unfold Qc.v
                  have I8 := HX.out.1.below b8
                  have hcol : Blk (w8.alloc (.cells #[.int .u8 (qc.r.toNat : Int), .int .u8 (qc.g.toNat : Int), .int .u8 (qc.b.toNat : Int), .int .u8 (qc.a.toNat : Int)] 131)) w8.heap.size 131 #[.int .u8 (qc.r.toNat : Int), .int .u8 (qc.g.toNat : Int), .int .u8 (qc.b.toNat : Int), .int .u8 (qc.a.toNat : Int)] := Blk.new _ _ _
                  have I9 := I8.alloc (.cells #[.int .u8 (qc.r.toNat : Int), .int .u8 (qc.g.toNat : Int), .int .u8 (qc.b.toNat : Int), .int .u8 (qc.a.toNat : Int)] 131)
                  go_upto_region 25 with fail
                  generalize w8.alloc (.cells #[.int .u8 (qc.r.toNat : Int), .int .u8 (qc.g.toNat : Int), .int .u8 (qc.b.toNat : Int), .int .u8 (qc.a.toNat : Int)] 131) = w9 at hcol I9 ⊢
                  generalize w8.heap.size = cb at hcol ⊢
                  have d0 := Blk.cell hcol 0
                  have d1 := Blk.cell hcol 1
                  have d2 := Blk.cell hcol 2
                  have d3 := Blk.cell hcol 3
                  obtain ⟨pp, hpp⟩ : ∃ pp, i * h.W = pp := ⟨_, rfl⟩
                  have hWH : h.W * h.H ≤ 16384 * 16384 := Nat.mul_le_mul HH.out.w2 HH.out.h2
                  have hLx : Lx.length = pp + x := by rw [HX.out.2.1, hpp]
                  have hin : pp + x + 1 ≤ h.W * h.H := by
                    have h1 := HIG.out
                    have h2 := HXG.out
                    have h3 : (i + 1) * h.W ≤ h.H * h.W := Nat.mul_le_mul_right _ (by omega)
                    rw [Nat.add_mul, Nat.one_mul, hpp] at h3
                    rw [Nat.mul_comm h.W h.H]
                    omega
                  have hzl : (pixL Lx (4 * (h.W * h.H))).length = 4 * (h.W * h.H) := pixL_len (by omega)
                  have HST := Lib.hid (rasSet_ways (X := x) (Y := i) (W := h.W) (H := h.H) (p := pp) (i := 4 * (pp + x)) (c0 := qc.r) (c1 := qc.g) (c2 := qc.b) (c3 := qc.a) I9.K.R I9.K.B I9.K.L HX.out.2.2.1 HX.out.2.2.2.1 HXG.out.2 HIG.out.2 hpp rfl (by omega) HH.out.w2 HH.out.h2 (by rw [hzl]; omega) (by rw [hzl]; omega))
                  have HI9 := Lib.hid I9
                  have HLN := Lib.hid (And.intro hLx (And.intro hin hqc))
                  clear hcol I8 I9 b8 hpp hWH hLx hin hzl hqc
                  go_wp2_with (first
                    | (go_at_call 61; refine (srcFault_is 7 I10.W I10.K.L (.inl ⟨yr10, rfl, rfl⟩)).mono ?_; rintro e w11 ⟨rfl, b11⟩; have I11 := I10.below b11; obtain ⟨f0, f1, f2', z0, z1, z2, fl⟩ := FB.all I11.K.F)
                    | (go_at_call 159; refine HST.out.mono ?_; rintro e w10 ⟨y10, l10, ok10, yb10, hor⟩; rcases hor with ⟨rfl, t10, yr10, hno⟩ | ⟨rfl, t10, B10, yr10, hyes⟩; all_goals (try (have I10 := HI9.out.led t10 l10))))
                  · have HPL : Hid (PL w (st3 w11 f (.int .i64 4) (.int .i64 7) (.int .i64 (a6 : Int))) p g b d f 0 0 0 bb dd s h 4 7 (a6 : Int) Lx h.row y y10) := Lib.hid (by
                      have K7 := I11.K
                      have B7 := I11.BB
                      refine ⟨Blk.st3 K7.L (Blk.ne_ K7.L K7.F (by decide)), ⟨Blk.st3 K7.B.blk (Blk.ne_ K7.B.blk K7.F (by decide)), Blk.st3 K7.B.row (Blk.ne_ K7.B.row K7.F (by decide))⟩, FB.st3 K7.F, fun hm => ?_, ⟨_, ⟨Blk.st3 B7.blk (Blk.ne_ B7.blk K7.F (by decide)), Blk.st3 B7.row (Blk.ne_ B7.row K7.F (by decide))⟩, I11.n⟩, Turn.st3 K7.T (.inr K7.nf), I11.nb, I11.nd, I11.nm, K7.ob, K7.od, K7.nf, ok10, yb10.trans HX.out.2.2.2.2, HOK.out.2.2, ?_⟩
                      · obtain ⟨P, n1⟩ := K7.M hm
                        obtain ⟨k1, _, rest, k3, _⟩ := id P
                        exact ⟨P.turn (Turn.st3 (Turn.refl [f] _) (.inl (by simp))) (by simpa using Blk.ne_ k1 K7.F (by decide)) (by simpa using Blk.ne_ k3.blk K7.F (by decide)) (by simpa using Blk.ne_ k3.row K7.F (by decide)), n1⟩
                      · have := HLN.out
                        omega)
                    have HPO : Hid (POut s h Lx h.row y y10 (pFlt 4 a6)) := Lib.hid (.inl ⟨4, a6, by decide, rfl, by rw [HRX.out]; exact hno _ _ _⟩)
                    exact PL.leave1 HM.out rfl (fun w => by simp [go_sem]) (fun w' hF => by obtain ⟨e0, e1, e2, _, _, _, _⟩ := FB.all hF; simp [results, Tryz.results77, go_sem, e0, e1, e2, pFlt]) HPL.out HPO.out
                  · have hB10 : BufAt w10 b g d (pixL (Lx ++ [qc]) (4 * (h.W * h.H))) := by
                      have h1 := HLN.out
                      have h2 := pixL_next (L := Lx) (z := 4 * (h.W * h.H)) qc (by omega)
                      rw [h1.1] at h2
                      rw [← h2]
                      exact B10
                    have I11 := HI9.out.set t10 l10 hB10
                    have HX2 : Hid (PN w w10 p g r b d f q 0 0 0 wq rb bb dd bx bl s h te a6 (pb8 R2) (Lx ++ [qc]) y10 ∧ (Lx ++ [qc]).length = i * h.W + (x + 1) ∧ y10.Ok ∧ y10.reason = 0 ∧ y10.bytes = y.bytes + (h.row : Nat)) := Lib.hid ⟨I11, by rw [List.length_append, List.length_singleton, HX.out.2.1]; omega, ok10, yr10, yb10.trans HX.out.2.2.2.2⟩
                    have HRX2 : Hid ((pcxPix s h (4 * (h.W * h.H))).run y = (pcxLine s h (4 * (h.W * h.H) + h.row) a6 R2 gn (x + 1) (Lx ++ [qc]) fun L => pcxRows s h te (4 * (h.W * h.H) + h.row) h.row gm a6 L).run y10) := Lib.hid (by rw [HRX.out, ← HLN.out.2.2]; exact hyes _ _ _)
                    clear t10 B10 l10 hB10 I11 hyes d0 d1 d2 d3
                    go_roundg gn
                    case measure => omega
                    case rel => exact ⟨x + 1, gn, y10, Lx ++ [qc], rfl, by have := HXG.out; omega, by go_num, HX2, HRX2⟩
                · have hxI : ¬ (x : Int) < (h.W : Int) := by omega
                  have hgx : gx = 0 := by omega
                  subst hgx
                  have hxe : x = h.W := by omega
                  have HX2 : Hid (PN w wr p g r b d f q 0 0 0 wq rb bb dd bx bl s h te a6 (pb8 R2) Lx yx ∧ Lx.length = (i + 1) * h.W ∧ yx.Ok ∧ yx.reason = 0 ∧ yx.bytes = y.bytes + (h.row : Nat)) := Lib.hid ⟨HX.out.1, by rw [HX.out.2.1, hxe, Nat.add_mul, Nat.one_mul], HX.out.2.2⟩
                  clear hx hxW hxe
                  go_wp2_with fail
                  go_roundg gm
                  case measure => omega
                  case rel => exact ⟨i + 1, gm, a6, yx, _, Lx, rfl, by have := HIG.out; omega, by go_num, HX2, HRX⟩
          · have hiI : ¬ (i : Int) < (h.H : Int) := by omega
            have hgz : gz = 0 := by omega
            subst hgz
            have hie : i = h.H := by omega
            obtain ⟨f0, f1, f2', z0, z1, z2, fl⟩ := FB.all HI.out.1.K.F
            have HLL : Hid (Lq.length = h.W * h.H) := Lib.hid (by rw [HI.out.2.1, hie, Nat.mul_comm])
            have HPL : Hid (PL w (st3 wr f (.int .i64 0) (.int .i64 0) (.int .i64 0)) p g b d f 0 0 0 bb dd s h 0 0 0 Lq h.row y yy) := Lib.hid (by
              have I11 := HI.out.1
              have K7 := I11.K
              have B7 := I11.BB
              refine ⟨Blk.st3 K7.L (Blk.ne_ K7.L K7.F (by decide)), ⟨Blk.st3 K7.B.blk (Blk.ne_ K7.B.blk K7.F (by decide)), Blk.st3 K7.B.row (Blk.ne_ K7.B.row K7.F (by decide))⟩, FB.st3 K7.F, fun hm => ?_, ⟨_, ⟨Blk.st3 B7.blk (Blk.ne_ B7.blk K7.F (by decide)), Blk.st3 B7.row (Blk.ne_ B7.row K7.F (by decide))⟩, I11.n⟩, Turn.st3 K7.T (.inr K7.nf), I11.nb, I11.nd, I11.nm, K7.ob, K7.od, K7.nf, HI.out.2.2.1, HI.out.2.2.2.2, HOK.out.2.2, ?_⟩
              · obtain ⟨P, n1⟩ := K7.M hm
                obtain ⟨k1, _, rest, k3, _⟩ := id P
                exact ⟨P.turn (Turn.st3 (Turn.refl [f] _) (.inl (by simp))) (by simpa using Blk.ne_ k1 K7.F (by decide)) (by simpa using Blk.ne_ k3.blk K7.F (by decide)) (by simpa using Blk.ne_ k3.row K7.F (by decide)), n1⟩
              · rw [HLL.out]
                exact Nat.le_refl _)
            have HPO : Hid (POut s h Lq h.row y yy pFlt0) := Lib.hid (.inr ⟨rfl, HLL.out, by rw [HRUN.out]; rfl⟩)
            clear hi hiH hie
            go_wp2_with fail
            exact PL.leave1 HM.out rfl (fun w => by simp [go_sem]) (fun w' hF => by obtain ⟨e0, e1, e2, _, _, _, _⟩ := FB.all hF; simp [results, Tryz.results77, go_sem, e0, e1, e2, pFlt0]) HPL.out HPO.out
end Go.Proofs.YtccldalagbfmhaaGreat
