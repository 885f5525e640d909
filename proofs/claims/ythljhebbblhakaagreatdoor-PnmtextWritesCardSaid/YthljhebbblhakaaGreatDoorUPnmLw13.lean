/- The laws' reading in plain words; awake of chapter 13. -/
import Derived.Test.YthljhebbblhakaaGreatDoorEWords
import Derived.Test.YthljhebbblhakaaGreatDoorProg
import Derived.WalkKit
import Derived.WalkSpells
import Derived.WalkLawsBesides
import Derived.Lib.Hide
import Derived.Laws.OwnMore
import Derived.Deep.AppendLies
import Derived.Deep.Draws
import Derived.Deep.Onto
import Derived.Deep.AppendSrc
import Derived.Deep.QuietTactic
import Derived.BigQuiet
import Derived.Deep.LoopGhost
import Derived.Deep.CutBlock
import Derived.Deep.DeepCutAuto
import Derived.Deep.Light
import Derived.Deep.RegionWith
import Derived.Test.YthljhebbblhakaaGreatDoorESync
import Derived.Defers
import Derived.Laws.Pointers
import Derived.Laws.LoneSync
import Derived.Laws.NewBlocks
import Derived.RegionTactic
import Derived.RegionCalls
import Derived.ChangeAlike
import Derived.Laws.Rows
import Derived.StillTailTactics
import Derived.Test.YthljhebbblhakaaGreatDoorEBits
import Derived.Laws.BitsAllLaws
import Derived.Laws.BitsLemmas
import Derived.Test.YthljhebbblhakaaGreatDoorEPnmHead
import Derived.Test.YthljhebbblhakaaGreatDoorETok
import Derived.WalkMore
import Derived.ScopeJumps
import Derived.Test.YthljhebbblhakaaGreatDoorEPnmD
import Derived.Test.YthljhebbblhakaaGreatDoorETok2
import Derived.Test.YthljhebbblhakaaGreatDoorETok3
import Derived.Test.YthljhebbblhakaaGreatDoorETok4
import Derived.Test.YthljhebbblhakaaGreatDoorENum
import Derived.Test.YthljhebbblhakaaGreatDoorUPnmW
import Derived.Lib.Mul64
import Derived.Laws.Bits64b
import Derived.Deep.OwnRows
import Derived.Test.YthljhebbblhakaaGreatDoorEBuf
import Derived.Lib.BufferWrite
import Derived.Test.YthljhebbblhakaaGreatDoorERas
import Derived.Test.YthljhebbblhakaaGreatDoorEPnmW
import Derived.Test.YthljhebbblhakaaGreatDoorEPnmBst
import Derived.Test.YthljhebbblhakaaGreatDoorEOpenInts
import Derived.ProofKit
import Derived.OpenShut
import Derived.Deep.Slices
import Derived.Test.YthljhebbblhakaaGreatDoorEScaler
import Derived.Test.YthljhebbblhakaaGreatDoorEPnmDocs
import Derived.Test.YthljhebbblhakaaGreatDoorUPnmT
import Derived.Test.YthljhebbblhakaaGreatDoorEFfRef3
import Derived.Test.YthljhebbblhakaaGreatDoorUFfD
import Derived.Deep.RegionHeld3
import Derived.Test.YthljhebbblhakaaGreatDoorEPnmTr
import Derived.Test.YthljhebbblhakaaGreatDoorEPnmKind
import Derived.Test.YthljhebbblhakaaGreatDoorEPnmH
import Derived.Test.YthljhebbblhakaaGreatDoorEPnmStage
import Derived.Test.YthljhebbblhakaaGreatDoorEPnmR
import Derived.Test.YthljhebbblhakaaGreatDoorEPnmR2
import Derived.Test.YthljhebbblhakaaGreatDoorEPnmHd
import Derived.Test.YthljhebbblhakaaGreatDoorUPnmTr
import Derived.ArgAppend
import Derived.Lib.SlBytesConst
import Derived.Deep.RegionLaw
import Derived.Test.YthljhebbblhakaaGreatDoorEFfM
import Derived.Lib.ConvBytes
import Derived.Lib.SliceRun
import Derived.BigRegion
import Derived.Deep.Fields
import Derived.ChangeSame
import Derived.Lib.SmallJoins
import Derived.Test.YthljhebbblhakaaGreatDoorEPnmWb
namespace Go.Proofs.YthljhebbblhakaaGreatDoor
open Go.RowKit
set_option linter.unusedVariables false
set_option linter.unusedSimpArgs false

set_option maxRecDepth 100000 in
set_option maxHeartbeats 8000000 in
theorem readC13 {s : ByteArray} {h : HeadR} {wk : Int} {x0 : Led} (hx0 : Led.new 100 100 40000 wk = x0) (hok : x0.Ok) (hr0 : x0.reason = 0) (hb0 : x0.bytes = 0) (hsm : s.size ≤ 1099511627776) (hh : HeadOk s h) (hK : h.K ≤ 3) (hW : h.W ≤ 100) (hH : h.H ≤ 100) (w : World) :
    Calls Tryz.prog 11 #[.string s, .int .i64 wk] w fun e w' => LawPost s x0 w w' e := by
  have I1 : IB ((w.alloc (.cells #[.int .i64 0, .int .i64 0, .slice none 0 0] 24)).alloc (.cells #[.int .i64 0, .int .i64 0, .int .i64 0] 33)) w.heap.size 0 0 none 0 0 := Blk.alloc (Blk.new _ _ _) _
  have F1 : FB ((w.alloc (.cells #[.int .i64 0, .int .i64 0, .slice none 0 0] 24)).alloc (.cells #[.int .i64 0, .int .i64 0, .int .i64 0] 33)) (w.heap.size + 1) 0 0 0 := Blk.new_at _ _ _ (by simp)
  have B1 : Below w.heap.size w ((w.alloc (.cells #[.int .i64 0, .int .i64 0, .slice none 0 0] 24)).alloc (.cells #[.int .i64 0, .int .i64 0, .int .i64 0] 33)) := ((Below.refl _ _).alloc (Nat.le_refl _) _).alloc (by simp) _
  have hz1 : w.heap.size + 2 ≤ ((w.alloc (.cells #[.int .i64 0, .int .i64 0, .slice none 0 0] 24)).alloc (.cells #[.int .i64 0, .int .i64 0, .int .i64 0] 33)).heap.size := by simp
  have HX := Lib.hid hx0
  have HH := Lib.hid (And.intro hok (And.intro hr0 (And.intro hb0 (And.intro hsm (And.intro hh (And.intro hK (And.intro hW hH)))))))
  clear hx0 hok hr0 hb0 hsm hh hK hW hH
  go_enter Tryz.func11, Tryz.ntmps11
  go_upto_region 1 with fail
  generalize ((w.alloc (.cells #[.int .i64 0, .int .i64 0, .slice none 0 0] 24)).alloc (.cells #[.int .i64 0, .int .i64 0, .int .i64 0] 33)) = w1 at I1 F1 B1 hz1 ⊢
  go_upto_region 2 with (go_at_call 32; refine (ledNew_at HX.out _).mono ?_; rintro e w2 ⟨g, rfl, hgn, l2, b2⟩)
  go_upto_region 3 with (go_at_call 33; refine (srcNew_any _ _ _).mono ?_; rintro e w3 ⟨p, rfl, hpn, s3, b3⟩)
  have l3 := Blk.below l2 b3 (Blk.lt l2)
  have I3 : IB w3 w.heap.size 0 0 none 0 0 := Blk.below (Blk.below I1 b2 (Blk.lt I1)) b3 (Blk.lt (Blk.below I1 b2 (Blk.lt I1)))
  have F3 : FB w3 (w.heap.size + 1) 0 0 0 := Blk.below (Blk.below F1 b2 (Blk.lt F1)) b3 (Blk.lt (Blk.below F1 b2 (Blk.lt F1)))
  have B3 := below_next (below_next B1 b2) b3
  have hg1 : w.heap.size + 2 ≤ g := by omega
  have hp1 : w.heap.size + 2 ≤ p := by have := b2.size; omega
  have hpg : p ≠ g := s3.ne l3
  clear I1 F1 B1 b2 b3 hgn hpn l2 hz1
  rcases headC (p := p) (g := g) HH.out.2.2.2.1 HH.out.1 HH.out.2.1 with ⟨kk, aa, y, hk, yok, yb, run, c0⟩ | ⟨h', y, hh', yok, yb, yr, run, c0⟩
  · obtain ⟨rfl, haa⟩ := head_spent HH.out.2.2.2.2.1 HH.out.2.1 HH.out.2.2.1 run
    have HC := c0 _ s3 l3
    unfold headNo ftV at HC
    have HC' := Lib.hid HC
    have HR := Lib.hid (And.intro run (And.intro haa yok))
    clear HC c0 run haa yok yb hk s3 l3
    go_upto_region 6 with (go_at_call 34; refine HC'.out.mono ?_; rintro e w4 ⟨rfl, l4, t4⟩)
    have N4 : ∀ k, k < w.heap.size + 2 → k ∉ [p, g] := fun k hk => by simp only [List.mem_cons, List.not_mem_nil, or_false, not_or]; omega
    have hw4 : w.heap.size + 2 ≤ w4.heap.size := by have := t4.size; have := Blk.lt F3; omega
    have I5 : IB ((w4.alloc (.cells #[.int .i64 0, .int .i64 0, .int .i64 0, .int .i64 0, .int .i64 0] 61)).alloc (.cells #[.int .i64 4, .int .i64 3, .int .i64 (aa : Int)] 33)) w.heap.size 0 0 none 0 0 := Blk.alloc (Blk.alloc (Blk.turn I3 t4 (N4 _ (by omega))) _) _
    have F5 : FB ((w4.alloc (.cells #[.int .i64 0, .int .i64 0, .int .i64 0, .int .i64 0, .int .i64 0] 61)).alloc (.cells #[.int .i64 4, .int .i64 3, .int .i64 (aa : Int)] 33)) (w.heap.size + 1) 0 0 0 := Blk.alloc (Blk.alloc (FB.turn F3 t4 (N4 _ (by omega))) _) _
    have E5 : FB ((w4.alloc (.cells #[.int .i64 0, .int .i64 0, .int .i64 0, .int .i64 0, .int .i64 0] 61)).alloc (.cells #[.int .i64 4, .int .i64 3, .int .i64 (aa : Int)] 33)) (w4.heap.size + 1) 4 3 (aa : Int) := Blk.new_at _ _ _ (by simp)
    have L5 : LedAt ((w4.alloc (.cells #[.int .i64 0, .int .i64 0, .int .i64 0, .int .i64 0, .int .i64 0] 61)).alloc (.cells #[.int .i64 4, .int .i64 3, .int .i64 (aa : Int)] 33)) g y := Blk.alloc (Blk.alloc l4 _) _
    have B4 := Turn.belowNext B3 t4 (by intro i hi; simp only [List.mem_cons, List.not_mem_nil, or_false] at hi; omega) B3.size
    have B5 : Below w.heap.size w ((w4.alloc (.cells #[.int .i64 0, .int .i64 0, .int .i64 0, .int .i64 0, .int .i64 0] 61)).alloc (.cells #[.int .i64 4, .int .i64 3, .int .i64 (aa : Int)] 33)) := (B4.alloc B4.size _).alloc (by have := B4.size; simp; omega) _
    clear l4 t4 N4 B4 I3 F3 B3
    generalize (w4.alloc (.cells #[.int .i64 0, .int .i64 0, .int .i64 0, .int .i64 0, .int .i64 0] 61)).alloc (.cells #[.int .i64 4, .int .i64 3, .int .i64 (aa : Int)] 33) = w5 at I5 F5 E5 L5 B5 ⊢
    generalize hq : w4.heap.size + 1 = q5 at E5 ⊢
    have h1 : w.heap.size ≠ q5 := by omega
    have h2 : w.heap.size + 1 ≠ q5 := by omega
    have h3 : w.heap.size ≠ w.heap.size + 1 := by omega
    have h1' := h1.symm
    have h2' := h2.symm
    have h3' := h3.symm
    obtain ⟨c0, c1, c2, z0, z1, z2, fl⟩ := IB.all I5
    obtain ⟨d0, d1, d2, y0, y1, y2, gl⟩ := FB.all F5
    obtain ⟨e0, e1, e2, x0', x1, x2, hl⟩ := FB.all E5
    have HB := Lib.hid (And.intro L5 B5)
    clear L5 B5 I5 F5 E5 hq
    go_upto_region 7 with fail
    go_region
    all_goals go_wp2_with fail
    exact bodyPost_ret (v := x0V 4 3 aa g false) (by simp [results, Tryz.results11, go_sem, x0V, c0, c1, c2, d0, d1, d2, h3, h3']) rfl ⟨g, y, 0, (Blk.st3 (Blk.st3 HB.out.1 (by omega)) (by omega)).drew, HR.out.2.2, (below_set3 (below_set3 HB.out.2 (Nat.le_refl _)) (by omega)).drew, .inl ⟨4, 3, aa, aa, .inl ⟨rfl, rfl⟩, HR.out.2.1, rfl, HR.out.1 0 _⟩⟩
  · obtain rfl : h = h' := HH.out.2.2.2.2.1.is.symm.trans hh'.is
    have HC := c0 _ s3 l3
    unfold headYes headV5 ft0 at HC
    have HC' := Lib.hid HC
    have HR := Lib.hid (And.intro run (And.intro yok (And.intro yb yr)))
    clear HC c0 run yok yb yr s3 l3 hh'
    have hWI : ¬ (100 : Int) < (h.W : Int) := by have := HH.out.2.2.2.2.2.2.1; omega
    have hHI : ¬ (100 : Int) < (h.H : Int) := by have := HH.out.2.2.2.2.2.2.2; omega
    go_upto_region 6 with (go_at_call 34; refine HC'.out.mono ?_; rintro e w4 ⟨rfl, s4, l4, t4⟩)
    have N4 : ∀ k, k < w.heap.size + 2 → k ∉ [p, g] := fun k hk => by simp only [List.mem_cons, List.not_mem_nil, or_false, not_or]; omega
    have hw4 : w.heap.size + 2 ≤ w4.heap.size := by have := t4.size; have := Blk.lt F3; omega
    have I5 : IB ((w4.alloc (.cells #[.int .i64 (h.K : Int), .int .i64 (h.W : Int), .int .i64 (h.H : Int), .int .i64 (h.M : Int), .int .i64 (h.At : Int)] 61)).alloc (.cells #[.int .i64 0, .int .i64 0, .int .i64 0] 33)) w.heap.size 0 0 none 0 0 := Blk.alloc (Blk.alloc (Blk.turn I3 t4 (N4 _ (by omega))) _) _
    have F5 : FB ((w4.alloc (.cells #[.int .i64 (h.K : Int), .int .i64 (h.W : Int), .int .i64 (h.H : Int), .int .i64 (h.M : Int), .int .i64 (h.At : Int)] 61)).alloc (.cells #[.int .i64 0, .int .i64 0, .int .i64 0] 33)) (w.heap.size + 1) 0 0 0 := Blk.alloc (Blk.alloc (FB.turn F3 t4 (N4 _ (by omega))) _) _
    have E5 : FB ((w4.alloc (.cells #[.int .i64 (h.K : Int), .int .i64 (h.W : Int), .int .i64 (h.H : Int), .int .i64 (h.M : Int), .int .i64 (h.At : Int)] 61)).alloc (.cells #[.int .i64 0, .int .i64 0, .int .i64 0] 33)) (w4.heap.size + 1) 0 0 0 := Blk.new_at _ _ _ (by simp)
    have D5 : Blk ((w4.alloc (.cells #[.int .i64 (h.K : Int), .int .i64 (h.W : Int), .int .i64 (h.H : Int), .int .i64 (h.M : Int), .int .i64 (h.At : Int)] 61)).alloc (.cells #[.int .i64 0, .int .i64 0, .int .i64 0] 33)) w4.heap.size 61 #[.int .i64 (h.K : Int), .int .i64 (h.W : Int), .int .i64 (h.H : Int), .int .i64 (h.M : Int), .int .i64 (h.At : Int)] := Blk.alloc (Blk.new _ _ _) _
    have S5 : SrcAt ((w4.alloc (.cells #[.int .i64 (h.K : Int), .int .i64 (h.W : Int), .int .i64 (h.H : Int), .int .i64 (h.M : Int), .int .i64 (h.At : Int)] 61)).alloc (.cells #[.int .i64 0, .int .i64 0, .int .i64 0] 33)) p g s 0 s.size h.At := Blk.alloc (Blk.alloc s4 _) _
    have L5 : LedAt ((w4.alloc (.cells #[.int .i64 (h.K : Int), .int .i64 (h.W : Int), .int .i64 (h.H : Int), .int .i64 (h.M : Int), .int .i64 (h.At : Int)] 61)).alloc (.cells #[.int .i64 0, .int .i64 0, .int .i64 0] 33)) g y := Blk.alloc (Blk.alloc l4 _) _
    have B4 := Turn.belowNext B3 t4 (by intro i hi; simp only [List.mem_cons, List.not_mem_nil, or_false] at hi; omega) B3.size
    have B5 : Below w.heap.size w ((w4.alloc (.cells #[.int .i64 (h.K : Int), .int .i64 (h.W : Int), .int .i64 (h.H : Int), .int .i64 (h.M : Int), .int .i64 (h.At : Int)] 61)).alloc (.cells #[.int .i64 0, .int .i64 0, .int .i64 0] 33)) := (B4.alloc B4.size _).alloc (by have := B4.size; simp; omega) _
    clear s4 l4 t4 N4 B4 I3 F3 B3
    generalize (w4.alloc (.cells #[.int .i64 (h.K : Int), .int .i64 (h.W : Int), .int .i64 (h.H : Int), .int .i64 (h.M : Int), .int .i64 (h.At : Int)] 61)).alloc (.cells #[.int .i64 0, .int .i64 0, .int .i64 0] 33) = w5 at I5 F5 E5 D5 S5 L5 B5 ⊢
    generalize w4.heap.size = q4 at E5 D5 hw4 ⊢
    have e0 : w5.cell? ⟨q4 + 1, 0, none⟩ = some (.int .i64 0) := Blk.cell E5 0
    have m1 : w5.cell? ⟨q4, 1, none⟩ = some (.int .i64 (h.W : Int)) := Blk.cell D5 1
    have m2 : w5.cell? ⟨q4, 2, none⟩ = some (.int .i64 (h.H : Int)) := Blk.cell D5 2
    have HB := Lib.hid (And.intro I5 (And.intro F5 (And.intro E5 (And.intro D5 (And.intro S5 (And.intro L5 B5))))))
    have HNW0 := rasNew_ways h.At HH.out.2.2.2.2.1.W.1 HH.out.2.2.2.2.1.W.2 HH.out.2.2.2.2.1.H.1 HH.out.2.2.2.2.1.H.2 L5 HR.out.2.1 HR.out.2.2.2
    unfold NewPost at HNW0
    have HNW := Lib.hid HNW0
    clear HNW0 I5 F5 E5 D5 S5 L5 B5
    go_upto_region 9 with (go_at_call 35; refine HNW.out.mono ?_; rintro e w6 ⟨y2, l6, ok6, t6, hor⟩; rcases hor with ⟨rfl, no6, run6⟩ | ⟨r, b, d, rfl, hrn, hbn, hdn, R6, D6, yr6, yb6, run6⟩)
    · have N6 : ∀ k, k ≠ g → k ∉ [g] := fun k hk => by simpa using hk
      have I7 : IB w6 w.heap.size 0 0 none 0 0 := Blk.turn HB.out.1 t6 (N6 _ (by omega))
      have F7 : FB w6 (w.heap.size + 1) 0 0 0 := FB.turn HB.out.2.1 t6 (N6 _ (by omega))
      have E7 : FB w6 (q4 + 1) 0 0 0 := FB.turn HB.out.2.2.1 t6 (N6 _ (Blk.ne_ HB.out.2.2.1 HB.out.2.2.2.2.2.1 (by decide)))
      have B7 := Turn.belowNext HB.out.2.2.2.2.2.2 t6 (by intro i hi; simp only [List.mem_cons, List.not_mem_nil, or_false] at hi; omega) HB.out.2.2.2.2.2.2.size
      have HK := Lib.hid (And.intro l6 (And.intro B7 (And.intro ok6 run6)))
      have h1 : w.heap.size ≠ q4 + 1 := by omega
      have h2 : w.heap.size + 1 ≠ q4 + 1 := by omega
      have h3 : w.heap.size ≠ w.heap.size + 1 := by omega
      have h1' := h1.symm
      have h2' := h2.symm
      have h3' := h3.symm
      clear e0 m1 m2
      obtain ⟨c0, c1, c2, z0, z1, z2, fl⟩ := IB.all I7
      obtain ⟨d0, d1, d2, y0, y1, y2', gl⟩ := FB.all F7
      obtain ⟨e0, e1, e2, x0', x1, x2, hl⟩ := FB.all E7
      clear I7 F7 E7 l6 B7 ok6 run6 N6 t6 no6
      go_upto_region 10 with fail
      go_region
      all_goals go_wp2_with fail
      exact bodyPost_ret (v := x0V 0 0 0 g false) (by simp [results, Tryz.results11, go_sem, x0V, c0, c1, c2, d0, d1, d2, h3, h3']) rfl ⟨g, y2, 0, (Blk.st3 (Blk.st3 HK.out.1 (by omega)) (by omega)).drew, HK.out.2.2.1, (below_set3 (below_set3 HK.out.2.1 (Nat.le_refl _)) (by omega)).drew, .inl ⟨0, 0, 0, h.At, .inr ⟨rfl, rfl⟩, Nat.zero_le _, rfl, by
        unfold pnmDec
        refine (HR.out.1 0 _).trans ?_
        refine (HK.out.2.2.2 _).trans ?_
        rw [show ((0 : Nat) : Int) = 0 from rfl, give_zero]⟩⟩
    · have N6 : ∀ k, k ≠ g → k ∉ [g] := fun k hk => by simpa using hk
      have I7 : IB w6 w.heap.size 0 0 none 0 0 := Blk.turn HB.out.1 t6 (N6 _ (by omega))
      have F7 : FB w6 (w.heap.size + 1) 0 0 0 := FB.turn HB.out.2.1 t6 (N6 _ (by omega))
      have E7 : FB w6 (q4 + 1) 0 0 0 := FB.turn HB.out.2.2.1 t6 (N6 _ (Blk.ne_ HB.out.2.2.1 HB.out.2.2.2.2.2.1 (by decide)))
      have U7 : Blk w6 q4 61 #[.int .i64 (h.K : Int), .int .i64 (h.W : Int), .int .i64 (h.H : Int), .int .i64 (h.M : Int), .int .i64 (h.At : Int)] := Blk.turn HB.out.2.2.2.1 t6 (N6 _ (Blk.ne_ HB.out.2.2.2.1 HB.out.2.2.2.2.2.1 (by decide)))
      have S7 : SrcAt w6 p g s 0 s.size h.At := HB.out.2.2.2.2.1.turn t6 (N6 _ hpg)
      have B7 := Turn.belowNext HB.out.2.2.2.2.2.2 t6 (by intro i hi; simp only [List.mem_cons, List.not_mem_nil, or_false] at hi; omega) HB.out.2.2.2.2.2.2.size
      have hs5 := HB.out.2.2.2.2.2.2.size
      have hw5 : q4 + 1 < w5.heap.size := Blk.lt HB.out.2.2.1
      have HBD0 := txtReadC HH.out.2.2.2.2.1 HH.out.2.2.2.1 HH.out.2.2.2.2.2.1 S7 l6 R6 (by rw [pixL_nil]; exact D6) ok6 yr6
      unfold BodyPost headV5 at HBD0
      have HBD := Lib.hid HBD0
      have HK := Lib.hid (And.intro I7 (And.intro F7 (And.intro E7 (And.intro U7 B7))))
      have HRN := Lib.hid run6
      have u0 : w6.cell? ⟨q4, 0, none⟩ = some (.int .i64 (h.K : Int)) := Blk.cell U7 0
      have u1 : w6.cell? ⟨q4, 1, none⟩ = some (.int .i64 (h.W : Int)) := Blk.cell U7 1
      have u2 : w6.cell? ⟨q4, 2, none⟩ = some (.int .i64 (h.H : Int)) := Blk.cell U7 2
      have u3 : w6.cell? ⟨q4, 3, none⟩ = some (.int .i64 (h.M : Int)) := Blk.cell U7 3
      have u4 : w6.cell? ⟨q4, 4, none⟩ = some (.int .i64 (h.At : Int)) := Blk.cell U7 4
      have NB : ∀ k, k ≠ p → k ≠ g → k ≠ d → k ∉ [p, g, d] := fun k h1 h2 h3 => by simp only [List.mem_cons, List.not_mem_nil, or_false, not_or]; exact ⟨h1, h2, h3⟩
      have hEp : q4 + 1 ≠ p := Blk.ne_ E7 S7 (by decide)
      have hEg : q4 + 1 ≠ g := Blk.ne_ E7 l6 (by decide)
      have hEd : q4 + 1 ≠ d := by omega
      have hIr : w.heap.size ≠ r := by omega
      clear e0 m1 m2 HBD0 I7 F7 U7 S7 B7 run6 R6 D6 yr6 yb6 ok6 l6 N6 t6
      go_upto_region 12 with (go_at_call 36; refine HBD.out.mono ?_; rintro e w8 ⟨y8, l8v, g8, ok8, yb8, t8, R8, D8, len8, hor⟩; have E8 : FB w8 (q4 + 1) 0 0 0 := FB.turn E7 t8 (NB _ hEp hEg hEd); obtain ⟨e0, e1, e2, ez0, ez1, ez2, el⟩ := FB.all E8; rcases hor with ⟨kk, aa, hk, rfl, run8⟩ | ⟨rfl, yr8, L8, hL8, rfl, run8⟩)
      · have I8 : IB w8 w.heap.size 0 0 none 0 0 := Blk.turn HK.out.1 t8 (NB _ (by omega) (by omega) (by omega))
        have F8 : FB w8 (w.heap.size + 1) 0 0 0 := FB.turn HK.out.2.1 t8 (NB _ (by omega) (by omega) (by omega))
        have B8 := Turn.belowNext HK.out.2.2.2.2 t8 (by intro i hi; simp only [List.mem_cons, List.not_mem_nil, or_false] at hi; omega) HK.out.2.2.2.2.size
        have h1 : w.heap.size ≠ q4 + 1 := by omega
        have h2 : w.heap.size + 1 ≠ q4 + 1 := by omega
        have h3 : w.heap.size ≠ w.heap.size + 1 := by omega
        have h1' := h1.symm
        have h2' := h2.symm
        have h3' := h3.symm
        have hki : ((kk : Int) != 0) = true := bne_iff_ne.2 (by omega)
        have I9 : IB (st3 w8 (q4 + 1) (.int .i64 (kk : Int)) (.int .i64 3) (.int .i64 (aa : Int))) w.heap.size 0 0 none 0 0 := Blk.st3 I8 h1
        have F9 : FB (st3 w8 (q4 + 1) (.int .i64 (kk : Int)) (.int .i64 3) (.int .i64 (aa : Int))) (w.heap.size + 1) 0 0 0 := Blk.st3 F8 h2
        have E9 : FB (st3 w8 (q4 + 1) (.int .i64 (kk : Int)) (.int .i64 3) (.int .i64 (aa : Int))) (q4 + 1) (kk : Int) 3 (aa : Int) := FB.st3 E8
        have L9 : LedAt (st3 w8 (q4 + 1) (.int .i64 (kk : Int)) (.int .i64 3) (.int .i64 (aa : Int))) g y8 := Blk.st3 g8 hEg.symm
        have B9 : Below w.heap.size w (st3 w8 (q4 + 1) (.int .i64 (kk : Int)) (.int .i64 3) (.int .i64 (aa : Int))) := below_set3 B8 (by omega)
        have HL := Lib.hid (And.intro L9 (And.intro B9 (And.intro ok8 (And.intro hk run8))))
        clear e0 e1 e2 ez0 ez1 ez2 el u0 u1 u2 u3 u4 I8 F8 B8 g8 ok8 run8 hk t8 R8 D8 L9 B9 E8 E7
        change Code.wp _ _ _ _ (st3 w8 (q4 + 1) (.int .i64 (kk : Int)) (.int .i64 3) (.int .i64 (aa : Int)))
        generalize st3 w8 (q4 + 1) (.int .i64 (kk : Int)) (.int .i64 3) (.int .i64 (aa : Int)) = w9 at I9 F9 E9 HL ⊢
        obtain ⟨c0, c1, c2, z0, z1, z2, fl⟩ := IB.all I9
        obtain ⟨d0, d1, d2, y0, y1, y2', gl⟩ := FB.all F9
        obtain ⟨e0, e1, e2, x0', x1, x2, hl⟩ := FB.all E9
        go_upto_region 13 with fail
        go_region
        all_goals go_wp2_with fail
        exact bodyPost_ret (v := x0V kk 3 aa g true) (by simp [results, Tryz.results11, go_sem, x0V, c0, c1, c2, d0, d1, d2, h3, h3']) rfl ⟨g, y8, 4 * (h.W * h.H), (Blk.st3 (Blk.st3 HL.out.1 (by omega)) (by omega)).drew, HL.out.2.2.1, (below_set3 (below_set3 HL.out.2.1 (Nat.le_refl _)) (by omega)).drew, .inr (.inl ⟨kk, aa, HL.out.2.2.2.1, rfl, by
          unfold pnmDec
          refine (HR.out.1 0 _).trans ?_
          refine (HRN.out _).trans ?_
          exact HL.out.2.2.2.2 _⟩)⟩
      · clear len8 hL8 yr8 yb8
        generalize flat L8 = lf at D8 run8
        have I8 : IB w8 w.heap.size 0 0 none 0 0 := Blk.turn HK.out.1 t8 (NB _ (by omega) (by omega) (by omega))
        have F8 : FB w8 (w.heap.size + 1) 0 0 0 := FB.turn HK.out.2.1 t8 (NB _ (by omega) (by omega) (by omega))
        have B8 := Turn.belowNext HK.out.2.2.2.2 t8 (by intro i hi; simp only [List.mem_cons, List.not_mem_nil, or_false] at hi; omega) HK.out.2.2.2.2.size
        have h1 : w.heap.size ≠ q4 + 1 := by omega
        have h2 : w.heap.size + 1 ≠ q4 + 1 := by omega
        have I9 : IB (st3 w8 (q4 + 1) (.int .i64 0) (.int .i64 0) (.int .i64 0)) w.heap.size 0 0 none 0 0 := Blk.st3 I8 h1
        have F9 : FB (st3 w8 (q4 + 1) (.int .i64 0) (.int .i64 0) (.int .i64 0)) (w.heap.size + 1) 0 0 0 := Blk.st3 F8 h2
        have E9 : FB (st3 w8 (q4 + 1) (.int .i64 0) (.int .i64 0) (.int .i64 0)) (q4 + 1) 0 0 0 := FB.st3 E8
        have L9 : LedAt (st3 w8 (q4 + 1) (.int .i64 0) (.int .i64 0) (.int .i64 0)) g y8 := Blk.st3 g8 hEg.symm
        have R9 : RasAt (st3 w8 (q4 + 1) (.int .i64 0) (.int .i64 0) (.int .i64 0)) r g b (h.W : Int) (h.H : Int) true := Blk.st3 R8 (Blk.ne_ R8 E8 (by decide))
        have D9 : BufAt (st3 w8 (q4 + 1) (.int .i64 0) (.int .i64 0) (.int .i64 0)) b g d lf := ⟨Blk.st3 D8.blk (Blk.ne_ D8.blk E8 (by decide)), Blk.st3 D8.row (Blk.ne_ D8.row E8 (by decide))⟩
        have B9 : Below w.heap.size w (st3 w8 (q4 + 1) (.int .i64 0) (.int .i64 0) (.int .i64 0)) := below_set3 B8 (by omega)
        have HL := Lib.hid (And.intro ok8 run8)
        clear u0 u1 u2 u3 u4 I8 F8 B8 g8 ok8 run8 t8 R8 D8 E8 E7
        change Code.wp _ _ _ _ (st3 w8 (q4 + 1) (.int .i64 0) (.int .i64 0) (.int .i64 0))
        generalize st3 w8 (q4 + 1) (.int .i64 0) (.int .i64 0) (.int .i64 0) = w9 at I9 F9 E9 L9 R9 D9 B9 ⊢
        clear e0 e1 e2 ez0 ez1 ez2 el
        have e0 : w9.cell? ⟨q4 + 1, 0, none⟩ = some (.int .i64 0) := Blk.cell E9 0
        have NR : ∀ {k : Nat} {t : TypeId} {cs : Array Value}, Blk w9 k t cs → t ≠ 111 → t ≠ 137 → k ∉ [r, b] := fun hb e1 e2 => by simp only [List.mem_cons, List.not_mem_nil, or_false, not_or]; exact ⟨Blk.ne_ hb R9 e1, Blk.ne_ hb D9.blk e2⟩
        have HIM := Lib.hid (rasImage_yes R9 D9)
        go_upto_region 15 with (go_at_call 37; refine HIM.out.mono ?_; rintro e w10 ⟨rfl, r10, m10, d10, t10⟩)
        have I11 : IB (w10.alloc (.cells #[.int .i64 (h.W : Int), .int .i64 (h.H : Int), .slice (some ⟨d, 0, none⟩) lf.length lf.length] 24)) w.heap.size 0 0 none 0 0 := Blk.alloc (Blk.turn I9 t10 (NR I9 (by decide) (by decide))) _
        have F11 : FB (w10.alloc (.cells #[.int .i64 (h.W : Int), .int .i64 (h.H : Int), .slice (some ⟨d, 0, none⟩) lf.length lf.length] 24)) (w.heap.size + 1) 0 0 0 := Blk.alloc (FB.turn F9 t10 (NR F9 (by decide) (by decide))) _
        have E11 : FB (w10.alloc (.cells #[.int .i64 (h.W : Int), .int .i64 (h.H : Int), .slice (some ⟨d, 0, none⟩) lf.length lf.length] 24)) (q4 + 1) 0 0 0 := Blk.alloc (FB.turn E9 t10 (NR E9 (by decide) (by decide))) _
        have J11 : IB (w10.alloc (.cells #[.int .i64 (h.W : Int), .int .i64 (h.H : Int), .slice (some ⟨d, 0, none⟩) lf.length lf.length] 24)) w10.heap.size (h.W : Int) (h.H : Int) (some ⟨d, 0, none⟩) lf.length lf.length := Blk.new _ _ _
        have L11 : LedAt (w10.alloc (.cells #[.int .i64 (h.W : Int), .int .i64 (h.H : Int), .slice (some ⟨d, 0, none⟩) lf.length lf.length] 24)) g y8 := Blk.alloc (Blk.turn L9 t10 (NR L9 (by decide) (by decide))) _
        have D11 : Blk (w10.alloc (.cells #[.int .i64 (h.W : Int), .int .i64 (h.H : Int), .slice (some ⟨d, 0, none⟩) lf.length lf.length] 24)) d 5 (C8 lf).toArray := Blk.alloc d10 _
        have B10 := Turn.belowNext B9 t10 (by intro i hi; simp only [List.mem_cons, List.not_mem_nil, or_false] at hi; omega) B9.size
        have B11 : Below w.heap.size w (w10.alloc (.cells #[.int .i64 (h.W : Int), .int .i64 (h.H : Int), .slice (some ⟨d, 0, none⟩) lf.length lf.length] 24)) := B10.alloc B10.size _
        have hz : q4 + 1 < w10.heap.size := by have := t10.size; have := Blk.lt E9; omega
        clear e0 I9 F9 E9 L9 R9 D9 B9 B10 r10 m10 d10 t10 NR HIM
        generalize w10.alloc (.cells #[.int .i64 (h.W : Int), .int .i64 (h.H : Int), .slice (some ⟨d, 0, none⟩) lf.length lf.length] 24) = w11 at I11 F11 E11 J11 L11 D11 B11 ⊢
        generalize w10.heap.size = qi at J11 hz ⊢
        have h3 : w.heap.size ≠ w.heap.size + 1 := by omega
        have h4 : w.heap.size ≠ qi := by omega
        have h5 : w.heap.size + 1 ≠ qi := by omega
        have h6 : q4 + 1 ≠ qi := by omega
        have h1' := h1.symm
        have h2' := h2.symm
        have h3' := h3.symm
        have h4' := h4.symm
        have h5' := h5.symm
        have h6' := h6.symm
        obtain ⟨c0, c1, c2, z0, z1, z2, fl⟩ := IB.all I11
        obtain ⟨d0, d1, d2, y0, y1, y2', gl⟩ := FB.all F11
        obtain ⟨e0, e1, e2, x0', x1, x2, hl⟩ := FB.all E11
        obtain ⟨j0, j1, j2, jz0, jz1, jz2, jl⟩ := IB.all J11
        have HM := Lib.hid (And.intro L11 (And.intro D11 B11))
        have hdI : d ≠ w.heap.size := Blk.ne_ D11 I11 (by decide)
        have hdF : d ≠ w.heap.size + 1 := Blk.ne_ D11 F11 (by decide)
        clear I11 F11 E11 J11 L11 D11 B11
        go_region
        all_goals go_wp2_with fail
        exact bodyPost_ret (v := .tuple #[.agg #[.int .i64 (h.W : Int), .int .i64 (h.H : Int), .slice (some ⟨d, 0, none⟩) lf.length lf.length], .agg #[.int .i64 0, .int .i64 0, .int .i64 0], .pointer (some ⟨g, 0, none⟩), .bool true]) (by simp [results, Tryz.results11, go_sem, c0, c1, c2, d0, d1, d2, h3, h3']) rfl ⟨g, y8, 0, (Blk.st3 (Blk.st3 HM.out.1 (by omega)) (by omega)).drew, HL.out.1, (below_set3 (below_set3 HM.out.2.2 (Nat.le_refl _)) (by omega)).drew, .inr (.inr ⟨h.W, h.H, lf, d, by
          unfold pnmDec
          refine (HR.out.1 0 _).trans ?_
          refine (HRN.out _).trans ?_
          exact HL.out.2 _, rfl, BytesAt.of_blk (Blk.st3 (Blk.st3 HM.out.2.1 hdI) hdF)⟩)⟩
end Go.Proofs.YthljhebbblhakaaGreatDoor
namespace Go.Proofs.YthljhebbblhakaaGreatDoor
open Go.RowKit
set_option linter.unusedVariables false
set_option linter.unusedSimpArgs false

def lit13 : ByteArray := ⟨#[80, 49, 10, 50, 32, 49, 10, 49, 32, 48, 10]⟩
theorem lit13_head : headAt (nats lit13) = ⟨1, 2, 1, 1, 6, 0, 0⟩ := by decide +kernel
theorem lit13_told : (pnmDec lit13).told = .img 2 1 [0, 0, 0, 255, 255, 255, 255, 255] := by kernel_rfl
theorem awRead13 (w : World) : Calls Tryz.prog 11 #[.string ⟨#[80, 49, 10, 50, 32, 49, 10, 49, 32, 48, 10]⟩, .int .i64 1000] w fun e w' => ∃ g d, e = .returned (imgRet 2 1 d 8 g) ∧ BytesAt w' (some ⟨d, 0, none⟩) 8 [0, 0, 0, 255, 255, 255, 255, 255] ∧ Below w.heap.size w w' := by
  have hh : HeadOk lit13 ⟨1, 2, 1, 1, 6, 0, 0⟩ := by
    have h := headOk_of (s := lit13) (by rw [lit13_head])
    rw [lit13_head] at h
    exact h
  refine (readC13 (s := lit13) (h := ⟨1, 2, 1, 1, 6, 0, 0⟩) (x0 := Led.new 100 100 40000 1000) rfl (by constructor <;> decide) rfl rfl (by decide) hh (by decide) (by decide) (by decide) w).mono ?_
  rintro e w' p
  obtain ⟨g, b, hor⟩ := lawFull hh (by decide) (by decide) (by decide) p
  rcases hor with ⟨kk, aa, _, _, ht, _⟩ | ⟨W, H, l, d, ht, he, hb⟩
  · rw [lit13_told] at ht; cases ht
  · rw [lit13_told] at ht
    injection ht with h1 h2 h3
    subst h1 h2 h3
    exact ⟨g, d, he, hb, b⟩
set_option maxRecDepth 100000 in
theorem awake13_any (w : World) : Calls Tryz.prog 6 #[] w fun e w' => e = .returned (.bool true) ∧ Below w.heap.size w w' := by
  have HA := Lib.hid awRead13
  unfold imgRet at HA
  go_enter Tryz.func6, Tryz.ntmps6
  go_wp2_with (go_at_call 11; refine (HA.out _).mono ?_; rintro e w2 ⟨g, d, rfl, hb, b2⟩; have e1 := bytesText ((hb.alloc (.cells #[.int .i64 2, .int .i64 1, .slice (some ⟨d, 0, none⟩) 8 8] 24)).alloc (.cells #[.int .i64 0, .int .i64 0, .int .i64 0] 33)) 8; rw [show strOf [0, 0, 0, 255, 255, 255, 255, 255] = ⟨#[0, 0, 0, 255, 255, 255, 255, 255]⟩ from rfl] at e1)
  go_ret
  have B2 := b2.alloc b2.size (.cells #[.int .i64 2, .int .i64 1, .slice (some ⟨d, 0, none⟩) 8 8] 24)
  exact ⟨rfl, B2.alloc (by have := B2.size; exact this) _⟩
end Go.Proofs.YthljhebbblhakaaGreatDoor
