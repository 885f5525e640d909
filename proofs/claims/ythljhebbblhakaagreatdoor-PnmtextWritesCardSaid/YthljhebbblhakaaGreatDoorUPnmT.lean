/- pnmtext: a sample, a bit, a pixel of one sample, of three. -/
import Derived.Test.YthljhebbblhakaaGreatDoorEWords
import Derived.Test.YthljhebbblhakaaGreatDoorProg
import Derived.WalkKit
import Derived.WalkSpells
import Derived.WalkLawsBesides
import Derived.Lib.Hide
import Derived.Laws.OwnMore
import Derived.Deep.AppendLies
import Derived.Deep.Draws
import Derived.Deep.Onto
import Derived.Deep.AppendSrc
import Derived.Deep.QuietTactic
import Derived.BigQuiet
import Derived.Deep.LoopGhost
import Derived.Deep.CutBlock
import Derived.Deep.DeepCutAuto
import Derived.Deep.Light
import Derived.Deep.RegionWith
import Derived.Test.YthljhebbblhakaaGreatDoorESync
import Derived.Defers
import Derived.Laws.Pointers
import Derived.Laws.LoneSync
import Derived.Laws.NewBlocks
import Derived.RegionTactic
import Derived.RegionCalls
import Derived.ChangeAlike
import Derived.Laws.Rows
import Derived.StillTailTactics
import Derived.Test.YthljhebbblhakaaGreatDoorEBits
import Derived.Laws.BitsAllLaws
import Derived.Laws.BitsLemmas
import Derived.Test.YthljhebbblhakaaGreatDoorEPnmHead
import Derived.Test.YthljhebbblhakaaGreatDoorETok
import Derived.WalkMore
import Derived.ScopeJumps
import Derived.Test.YthljhebbblhakaaGreatDoorEPnmD
import Derived.Test.YthljhebbblhakaaGreatDoorETok2
import Derived.Test.YthljhebbblhakaaGreatDoorETok3
import Derived.Test.YthljhebbblhakaaGreatDoorETok4
import Derived.Test.YthljhebbblhakaaGreatDoorENum
import Derived.Test.YthljhebbblhakaaGreatDoorUPnmW
import Derived.Lib.Mul64
import Derived.Laws.Bits64b
import Derived.Deep.OwnRows
import Derived.Test.YthljhebbblhakaaGreatDoorEBuf
import Derived.Lib.BufferWrite
import Derived.Test.YthljhebbblhakaaGreatDoorERas
import Derived.Test.YthljhebbblhakaaGreatDoorEPnmW
import Derived.Test.YthljhebbblhakaaGreatDoorEPnmBst
import Derived.Test.YthljhebbblhakaaGreatDoorEOpenInts
import Derived.ProofKit
import Derived.OpenShut
import Derived.Deep.Slices
import Derived.Test.YthljhebbblhakaaGreatDoorEScaler
import Derived.Test.YthljhebbblhakaaGreatDoorEPnmDocs
namespace Go.Proofs.YthljhebbblhakaaGreatDoor
open Go.RowKit
set_option linter.unusedVariables false
set_option linter.unusedSimpArgs false

section
variable {w0 w w' : World} {p g x q : Nat} {s : ByteArray} {h : HeadR} {av : List Nat} {a a' : Nat} {y y' : Led}
/-- a fault: the place is open -/
theorem TXI.led (I : TXI w0 w p g x q s h av a y) (k : Turn [p, g] w w') (G' : LedAt w' g y') (ok' : y'.Ok) : LedAt w' g y' ∧ SclA w' q h.M av ∧ Turn [p, g, q] w0 w' := by
  have n := I.nq
  refine ⟨G', I.Q.turn k ?_ ?_, I.T.trans (k.mono (by simp))⟩
  · simp only [List.mem_cons, List.not_mem_nil, or_false, not_or]; exact ⟨n.1, n.2.1⟩
  · intro i hi
    simp only [List.mem_cons, List.not_mem_nil, or_false] at hi
    rcases hi with rfl | rfl
    · exact .inr ⟨_, _, I.S, by decide⟩
    · exact .inr ⟨_, _, I.G, by decide⟩
end
/-- what a reading of a part of a pixel leaves -/
def PartPost {α : Type} (w w' : World) (p g x q : Nat) (s : ByteArray) (h : HeadR) (av : List Nat) (y : Led) (e : Ending) (D : Nat → (α → Dec) → Dec) (no : Nat → Nat → Value) (yes : α → Value) (nx : α → Nat) : Prop :=
  ∃ y', y'.bytes = y.bytes ∧
    ((∃ kk aa : Nat, kk ≠ 0 ∧ y'.Ok ∧ e = .returned (no kk aa) ∧ (LedAt w' g y' ∧ SclA w' q h.M av ∧ Turn [p, g, q] w w') ∧ ∀ (z : Nat) k, (D z k).run y = ((y'.give (z : Int)).1, .bad kk aa)) ∨
     (∃ r, e = .returned (yes r) ∧ nx r ≤ s.size ∧ TXI w w' p g x q s h av (nx r) y' ∧ y'.reason = 0 ∧ ∀ (z : Nat) k, (D z k).run y = (k r).run y'))
set_option maxRecDepth 100000 in
set_option maxHeartbeats 4000000 in
theorem smpC {w : World} {p g x q a : Nat} {s : ByteArray} {h : HeadR} {av : List Nat} {y : Led} (I : TXI w w p g x q s h av a y) (ha : a ≤ s.size) (hsm : s.size ≤ 1099511627776) (hM : 1 ≤ h.M ∧ h.M ≤ 65535) (hy : y.reason = 0) :
    Calls Tryz.prog 79 #[.pointer (some ⟨x, 0, none⟩)] w fun e w' => PartPost w w' p g x q s h av y e (smpD s h.M a) smpNo smpYes (fun r => r.2) := by
  have I1 := I.alloc (.cells #[.int .i64 0, .int .i64 0, .int .i64 0] 33)
  have F1 : FB (w.alloc (.cells #[.int .i64 0, .int .i64 0, .int .i64 0] 33)) w.heap.size 0 0 0 := Blk.new _ _ _
  have hp1 := Nat.ne_of_gt (Blk.lt I.S)
  have hg1 := Nat.ne_of_gt (Blk.lt I.G)
  have hq1 : w.heap.size ≠ q := Nat.ne_of_gt (by obtain ⟨cs, hb⟩ := I.Q.blk; exact Blk.lt hb)
  have c0 : (w.alloc (.cells #[.int .i64 0, .int .i64 0, .int .i64 0] 33)).cell? ⟨x, 0, none⟩ = some (.pointer (some ⟨p, 0, none⟩)) := Blk.cell I1.X 0
  have HH := Lib.hid (And.intro hM (And.intro hsm ha))
  rcases numC (p := p) (g := g) (I.src_ok ha hsm) I.ok hy with ⟨kk, aa, y2, hk, yok, yb, run, c⟩ | ⟨⟨V, f, n⟩, y2, hg, yok, yb, yr, run, c⟩
  · have HN := Lib.hid (c _ I1.S I1.G)
    unfold tokNo ftV at HN
    have HI := Lib.hid I1
    have HR := Lib.hid run
    have HY := Lib.hid (And.intro yok (And.intro yb hk))
    have hki : ((kk : Int) != 0) = true := bne_iff_ne.2 (by omega)
    clear I I1 run yok yb hk hy c ha hsm hM
    go_enter Tryz.func79, Tryz.ntmps79
    go_upto_region 2 with (go_at_call 71; refine HN.out.mono ?_; rintro e w2 ⟨rfl, g2, t2⟩)
    have F2 : FB (w2.alloc (.cells #[.int .i64 (kk : Int), .int .i64 3, .int .i64 (aa : Int)] 33)) w.heap.size 0 0 0 := Blk.alloc (FB.turn F1 t2 (by simp only [List.mem_cons, List.not_mem_nil, or_false, not_or]; exact ⟨hp1, hg1⟩)) _
    have E2 : FB (w2.alloc (.cells #[.int .i64 (kk : Int), .int .i64 3, .int .i64 (aa : Int)] 33)) w2.heap.size (kk : Int) 3 (aa : Int) := Blk.new _ _ _
    have L2 := HI.out.led t2 g2 HY.out.1
    have L3 : LedAt (w2.alloc (.cells #[.int .i64 (kk : Int), .int .i64 3, .int .i64 (aa : Int)] 33)) g y2 ∧ SclA (w2.alloc (.cells #[.int .i64 (kk : Int), .int .i64 3, .int .i64 (aa : Int)] 33)) q h.M av ∧ Turn [p, g, q] w (w2.alloc (.cells #[.int .i64 (kk : Int), .int .i64 3, .int .i64 (aa : Int)] 33)) := ⟨Blk.alloc L2.1 _, L2.2.1.alloc _, L2.2.2.alloc _⟩
    have hne : w.heap.size ≠ w2.heap.size := Nat.ne_of_lt (Blk.lt (FB.turn F1 t2 (by simp only [List.mem_cons, List.not_mem_nil, or_false, not_or]; exact ⟨hp1, hg1⟩)))
    clear F1 c0 L2 t2 g2
    generalize w2.alloc (.cells #[.int .i64 (kk : Int), .int .i64 3, .int .i64 (aa : Int)] 33) = w3 at F2 E2 L3 ⊢
    generalize w2.heap.size = q6 at E2 hne ⊢
    have hne' := hne.symm
    have HL := Lib.hid L3
    clear L3
    obtain ⟨f0, f1, f2, z0, z1, z2, fl⟩ := FB.all F2
    obtain ⟨e0, e1, e2, ez0, ez1, ez2, el⟩ := FB.all E2
    go_upto_region 3 with fail
    go_region
    all_goals go_wp2_with fail
    have F4 : FB (st3 w3 w.heap.size (.int .i64 (kk : Int)) (.int .i64 3) (.int .i64 (aa : Int))).drew w.heap.size (kk : Int) 3 (aa : Int) := Blk.drew (FB.st3 F2)
    obtain ⟨k0, k1, k2, _⟩ := FB.all F4
    change bodyPost _ _ _ _ _ (st3 w3 w.heap.size (.int .i64 (kk : Int)) (.int .i64 3) (.int .i64 (aa : Int))).drew
    exact bodyPost_ret (v := smpNo kk aa) (by simp [results, Tryz.results79, go_sem, k0, k1, k2, smpNo, ftV]) rfl ⟨y2, HY.out.2.1, .inl ⟨kk, aa, HY.out.2.2, HY.out.1, rfl, ⟨Blk.drew (Blk.st3 HL.out.1 hg1.symm), (HL.out.2.1.st3 F2 hq1.symm).drew, (Turn.st3 HL.out.2.2 (.inr (Nat.le_refl _))).drew⟩, fun z k => HR.out z _⟩⟩
  · have HN := Lib.hid (c _ I1.S I1.G)
    unfold tokYes ft0 at HN
    simp only at HN
    have hg' : numberAt (nats s) a = ⟨V, f, n, 0, 0⟩ := hg
    obtain ⟨hn, hf9, hV9⟩ : n ≤ s.size ∧ f ≤ s.size ∧ V ≤ 1000000000 := by
      rcases numberAt_or (nats s) a (by rw [nats_len]; exact ha) with ⟨kd, pl, e, h0, _⟩ | ⟨V', f', n', e, hn, hv, _, hf⟩
      · rw [hg'] at e; injection e with _ _ _ e4; exact absurd e4.symm h0
      · rw [hg'] at e; injection e with e1 e2 e3; rw [nats_len] at hn; subst e1 e2 e3; exact ⟨hn, by omega, hv⟩
    have HI := Lib.hid I1
    have HR := Lib.hid run
    have HY := Lib.hid (And.intro yok (And.intro yb yr))
    have HV := Lib.hid (And.intro hn (And.intro hf9 hV9))
    clear I I1 run yok yb yr hy c ha hsm hM hg hg' hn hf9
    go_enter Tryz.func79, Tryz.ntmps79
    go_upto_region 2 with (go_at_call 71; refine HN.out.mono ?_; rintro e w2 ⟨rfl, s2, g2, t2⟩)
    have I3 := (HI.out.read t2 s2 g2 HY.out.1).alloc (.cells #[.int .i64 0, .int .i64 0, .int .i64 0] 33)
    have F3 : FB (w2.alloc (.cells #[.int .i64 0, .int .i64 0, .int .i64 0] 33)) w.heap.size 0 0 0 := Blk.alloc (FB.turn F1 t2 (by simp only [List.mem_cons, List.not_mem_nil, or_false, not_or]; exact ⟨hp1, hg1⟩)) _
    have E3 : FB (w2.alloc (.cells #[.int .i64 0, .int .i64 0, .int .i64 0] 33)) w2.heap.size 0 0 0 := Blk.new _ _ _
    have hqe : w2.heap.size ≠ q := Nat.ne_of_gt (by obtain ⟨cs, hb⟩ := (HI.out.read t2 s2 g2 HY.out.1).Q.blk; exact Blk.lt hb)
    clear F1 c0 t2 g2 s2
    generalize w2.alloc (.cells #[.int .i64 0, .int .i64 0, .int .i64 0] 33) = w3 at I3 F3 E3 ⊢
    generalize w2.heap.size = q6 at E3 hqe ⊢
    have HJ := Lib.hid I3
    obtain ⟨e0, e1, e2, ez0, ez1, ez2, el⟩ := FB.all E3
    have x0 : w3.cell? ⟨x, 6, none⟩ = some (.pointer (some ⟨q, 0, none⟩)) := Blk.cell I3.X 6
    have HS0 := sclOfA (V : Int) I3.Q I3.av HH.out.1.1 HH.out.1.2
    by_cases hMV : h.M < V
    · have hm : smay (V : Int) (h.M : Int) = false := by
        cases hm : smay (V : Int) (h.M : Int) with
        | false => rfl
        | true => have := (smay_iff.1 hm).2.2.2; omega
      rw [hm] at HS0
      have HS := Lib.hid HS0
      have HMV := Lib.hid hMV
      clear HS0 hm I3 hMV hV9
      go_upto_region 5 with (go_at_call 107; refine HS.out.mono ?_; rintro e w4 ⟨rfl, q4, t4⟩)
      have I5 := HJ.out.scl t4 q4
      have F5 : FB w4 w.heap.size 0 0 0 := FB.turn F3 t4 (by simpa using hq1)
      obtain ⟨f0, f1, f2, z0, z1, z2, fl⟩ := FB.all F5
      clear x0 e0 e1 e2 ez0 ez1 ez2 el
      go_wp2_with fail
      exact bodyPost_ret (v := smpNo 2 f) (by simp [results, Tryz.results79, go_sem, f0, f1, f2, smpNo, ftV]) rfl ⟨y2, HY.out.2.1, .inl ⟨2, f, by decide, HY.out.1, rfl, ⟨Blk.st3 I5.G hg1.symm, I5.Q.st3 F5 hq1.symm, Turn.st3 I5.T (.inr (Nat.le_refl _))⟩, fun z k => by
        refine (HR.out z _).trans ?_
        show (if h.M < V then badD z 2 f else k (smp8 V h.M, n)).run y2 = _
        rw [if_pos HMV.out]
        rfl⟩⟩
    · have hm : smay (V : Int) (h.M : Int) = true := smay_iff.2 ⟨by have := HH.out.1.1; omega, by have := HH.out.1.2; omega, by omega, by omega⟩
      have hx : smax (V : Int) (h.M : Int) = ((smp8 V h.M).toNat : Int) := by unfold smax; rw [hm]; exact smp8_is HH.out.1.1 (by omega)
      rw [hm, hx] at HS0
      have HS := Lib.hid HS0
      have HMV := Lib.hid hMV
      clear HS0 hm I3 hMV hV9 hx
      generalize hv8 : smp8 V h.M = v8 at HS
      go_upto_region 5 with (go_at_call 107; refine HS.out.mono ?_; rintro e w4 ⟨rfl, q4, t4⟩)
      have I5 := HJ.out.scl t4 q4
      have F5 : FB w4 w.heap.size 0 0 0 := FB.turn F3 t4 (by simpa using hq1)
      obtain ⟨f0, f1, f2, z0, z1, z2, fl⟩ := FB.all F5
      clear x0 e0 e1 e2 ez0 ez1 ez2 el
      go_wp2_with fail
      exact bodyPost_ret (v := smpYes (v8, n)) (by simp [results, Tryz.results79, go_sem, f0, f1, f2, smpYes, ft0]) rfl ⟨y2, HY.out.2.1, .inr ⟨(v8, n), rfl, HV.out.1, I5.own F5 (Nat.le_refl _) (Turn.st3 (Turn.refl _ _) (.inl (by simp))) (by decide) (by decide) (by decide) (by decide) (by decide), HY.out.2.2, fun z k => by
        refine (HR.out z _).trans ?_
        show (if h.M < V then badD z 2 f else k (smp8 V h.M, n)).run y2 = _
        rw [if_neg HMV.out, hv8]⟩⟩
set_option maxRecDepth 100000 in
set_option maxHeartbeats 4000000 in
theorem tgrayC {w : World} {p g x q a : Nat} {s : ByteArray} {h : HeadR} {av : List Nat} {y : Led} (I : TXI w w p g x q s h av a y) (ha : a ≤ s.size) (hsm : s.size ≤ 1099511627776) (hM : 1 ≤ h.M ∧ h.M ≤ 65535) (hy : y.reason = 0) :
    Calls Tryz.prog 57 #[.pointer (some ⟨x, 0, none⟩)] w fun e w' => PixPost w w' p g x q s h av y e (fun z k => smpD s h.M a z fun r => k (grayQ r.1, r.2)) := by
  have I2 := (I.alloc (.cells #[.int .u8 0, .int .u8 0, .int .u8 0, .int .u8 0] 48)).alloc (.cells #[.int .i64 0, .int .i64 0, .int .i64 0] 33)
  have C2 : CB ((w.alloc (.cells #[.int .u8 0, .int .u8 0, .int .u8 0, .int .u8 0] 48)).alloc (.cells #[.int .i64 0, .int .i64 0, .int .i64 0] 33)) w.heap.size 0 0 0 0 := Blk.alloc (Blk.new _ _ _) _
  have F2 : FB ((w.alloc (.cells #[.int .u8 0, .int .u8 0, .int .u8 0, .int .u8 0] 48)).alloc (.cells #[.int .i64 0, .int .i64 0, .int .i64 0] 33)) (w.heap.size + 1) 0 0 0 := Blk.new_at _ _ _ (by simp)
  have hpw := Blk.lt I.S
  have hgw := Blk.lt I.G
  have hqw : q < w.heap.size := by obtain ⟨cs, hb⟩ := I.Q.blk; exact Blk.lt hb
  have c0 : ((w.alloc (.cells #[.int .u8 0, .int .u8 0, .int .u8 0, .int .u8 0] 48)).alloc (.cells #[.int .i64 0, .int .i64 0, .int .i64 0] 33)).cell? ⟨x, 0, none⟩ = some (.pointer (some ⟨p, 0, none⟩)) := Blk.cell I2.X 0
  have HS0 := smpC I2.from_ ha hsm hM hy
  unfold PartPost smpNo smpYes ftV ft0 at HS0
  have HS := Lib.hid HS0
  have HI := Lib.hid I2
  clear HS0 I I2 ha hsm hM hy c0
  go_enter Tryz.func57, Tryz.ntmps57
  go_upto_region 2 with (go_at_call 79; refine HS.out.mono ?_; rintro e w3 ⟨y3, yb, hor⟩; rcases hor with ⟨kk, aa, hk, yok, rfl, L3, run⟩ | ⟨⟨v, a'⟩, rfl, ha', I3, yr, run⟩)
  · have T3 := L3.2.2
    have C4 : CB (w3.alloc (.cells #[.int .i64 (kk : Int), .int .i64 3, .int .i64 (aa : Int)] 33)) w.heap.size 0 0 0 0 := Blk.alloc (Blk.turn C2 T3 (by simp only [List.mem_cons, List.not_mem_nil, or_false, not_or]; omega)) _
    have F4 : FB (w3.alloc (.cells #[.int .i64 (kk : Int), .int .i64 3, .int .i64 (aa : Int)] 33)) (w.heap.size + 1) 0 0 0 := Blk.alloc (FB.turn F2 T3 (by simp only [List.mem_cons, List.not_mem_nil, or_false, not_or]; omega)) _
    have E4 : FB (w3.alloc (.cells #[.int .i64 (kk : Int), .int .i64 3, .int .i64 (aa : Int)] 33)) w3.heap.size (kk : Int) 3 (aa : Int) := Blk.new _ _ _
    have hce : w.heap.size ≠ w3.heap.size := Nat.ne_of_lt (Blk.lt (Blk.turn C2 T3 (by simp only [List.mem_cons, List.not_mem_nil, or_false, not_or]; omega)))
    have hfe : w.heap.size + 1 ≠ w3.heap.size := Nat.ne_of_lt (Blk.lt (FB.turn F2 T3 (by simp only [List.mem_cons, List.not_mem_nil, or_false, not_or]; omega)))
    have hcf : w.heap.size ≠ w.heap.size + 1 := by omega
    have L4 : LedAt (w3.alloc (.cells #[.int .i64 (kk : Int), .int .i64 3, .int .i64 (aa : Int)] 33)) g y3 ∧ SclA (w3.alloc (.cells #[.int .i64 (kk : Int), .int .i64 3, .int .i64 (aa : Int)] 33)) q h.M av ∧ Turn [p, g, q] w (w3.alloc (.cells #[.int .i64 (kk : Int), .int .i64 3, .int .i64 (aa : Int)] 33)) := ⟨Blk.alloc L3.1 _, L3.2.1.alloc _, (HI.out.T.trans L3.2.2).alloc _⟩
    clear C2 F2
    generalize w3.alloc (.cells #[.int .i64 (kk : Int), .int .i64 3, .int .i64 (aa : Int)] 33) = w4 at C4 F4 E4 L4 ⊢
    generalize w3.heap.size = q6 at E4 hce hfe ⊢
    have hce' := hce.symm
    have hfe' := hfe.symm
    have hcf' := hcf.symm
    have HL := Lib.hid L4
    have HR := Lib.hid (And.intro run (And.intro hk (And.intro yok yb)))
    clear L4 L3 T3 run hk yok yb
    obtain ⟨f0, f1, f2, z0, z1, z2, fl⟩ := FB.all F4
    obtain ⟨e0, e1, e2, ez0, ez1, ez2, el⟩ := FB.all E4
    have d0 := CB.c0 C4
    have d1 := CB.c1 C4
    have d2 := CB.c2 C4
    have d3 := CB.c3 C4
    have dz0 := Blk.frozen C4 0
    have dz1 := Blk.frozen C4 1
    have dz2 := Blk.frozen C4 2
    have dz3 := Blk.frozen C4 3
    have dl := Blk.lt C4
    go_region
    all_goals go_wp2_with fail
    have C5 : CB (st3 (st4 w4 w.heap.size 0 0 0 255) (w.heap.size + 1) (.int .i64 (kk : Int)) (.int .i64 3) (.int .i64 (aa : Int))).drew w.heap.size 0 0 0 255 := Blk.drew (Blk.st3 (CB.store C4) hcf)
    have F5 : FB (st3 (st4 w4 w.heap.size 0 0 0 255) (w.heap.size + 1) (.int .i64 (kk : Int)) (.int .i64 3) (.int .i64 (aa : Int))).drew (w.heap.size + 1) (kk : Int) 3 (aa : Int) := Blk.drew (FB.st3 (F4.st4 hcf'))
    obtain ⟨k0, k1, k2, _⟩ := FB.all F5
    have k3 := CB.c0 C5
    have k4 := CB.c1 C5
    have k5 := CB.c2 C5
    have k6 := CB.c3 C5
    change bodyPost _ _ _ _ _ (st3 (st4 w4 w.heap.size 0 0 0 255) (w.heap.size + 1) (.int .i64 (kk : Int)) (.int .i64 3) (.int .i64 (aa : Int))).drew
    exact bodyPost_ret (v := .tuple #[.agg #[.int .u8 0, .int .u8 0, .int .u8 0, .int .u8 255], .agg #[.int .i64 (kk : Int), .int .i64 3, .int .i64 (aa : Int)]]) (by simp [results, Tryz.results57, go_sem, k0, k1, k2, k3, k4, k5, k6]) rfl ⟨y3, HR.out.2.2.2, .inl ⟨kk, aa, 0, 0, 0, 255, HR.out.2.1, HR.out.2.2.1, rfl, ⟨Blk.drew (Blk.st3 (Blk.st4 HL.out.1 (by omega)) (by omega)), ((HL.out.2.1.st4 C4 (by omega)).st3 (F4.st4 hcf') (by omega)).drew, (Turn.st3 (Turn.st4 HL.out.2.2 (.inr (Nat.le_refl _))) (.inr (by omega))).drew⟩, fun z k => HR.out.1 z _⟩⟩
  · have T3 := I3.T
    have C4 : CB (w3.alloc (.cells #[.int .i64 0, .int .i64 0, .int .i64 0] 33)) w.heap.size 0 0 0 0 := Blk.alloc (Blk.turn C2 T3 (by simp only [List.mem_cons, List.not_mem_nil, or_false, not_or]; omega)) _
    have F4 : FB (w3.alloc (.cells #[.int .i64 0, .int .i64 0, .int .i64 0] 33)) (w.heap.size + 1) 0 0 0 := Blk.alloc (FB.turn F2 T3 (by simp only [List.mem_cons, List.not_mem_nil, or_false, not_or]; omega)) _
    have E4 : FB (w3.alloc (.cells #[.int .i64 0, .int .i64 0, .int .i64 0] 33)) w3.heap.size 0 0 0 := Blk.new _ _ _
    have hce : w.heap.size ≠ w3.heap.size := Nat.ne_of_lt (Blk.lt (Blk.turn C2 T3 (by simp only [List.mem_cons, List.not_mem_nil, or_false, not_or]; omega)))
    have hfe : w.heap.size + 1 ≠ w3.heap.size := Nat.ne_of_lt (Blk.lt (FB.turn F2 T3 (by simp only [List.mem_cons, List.not_mem_nil, or_false, not_or]; omega)))
    have hcf : w.heap.size ≠ w.heap.size + 1 := by omega
    have I4 := I3.alloc (.cells #[.int .i64 0, .int .i64 0, .int .i64 0] 33)
    clear C2 F2
    generalize w3.alloc (.cells #[.int .i64 0, .int .i64 0, .int .i64 0] 33) = w4 at C4 F4 E4 I4 ⊢
    generalize w3.heap.size = q6 at E4 hce hfe ⊢
    have hce' := hce.symm
    have hfe' := hfe.symm
    have hcf' := hcf.symm
    have HL := Lib.hid I4
    have HR := Lib.hid (And.intro run (And.intro yr (And.intro ha' yb)))
    have HT := Lib.hid HI.out.T
    clear I4 I3 T3 run yr ha' yb
    obtain ⟨f0, f1, f2, z0, z1, z2, fl⟩ := FB.all F4
    obtain ⟨e0, e1, e2, ez0, ez1, ez2, el⟩ := FB.all E4
    have d0 := CB.c0 C4
    have d1 := CB.c1 C4
    have d2 := CB.c2 C4
    have d3 := CB.c3 C4
    have dz0 := Blk.frozen C4 0
    have dz1 := Blk.frozen C4 1
    have dz2 := Blk.frozen C4 2
    have dz3 := Blk.frozen C4 3
    have dl := Blk.lt C4
    go_region
    all_goals go_wp2_with fail
    have C5 : CB (st3 (st4 w4 w.heap.size (v.toNat : Int) (v.toNat : Int) (v.toNat : Int) 255) (w.heap.size + 1) (.int .i64 0) (.int .i64 0) (.int .i64 0)).drew w.heap.size (v.toNat : Int) (v.toNat : Int) (v.toNat : Int) 255 := Blk.drew (Blk.st3 (CB.store C4) hcf)
    have F5 : FB (st3 (st4 w4 w.heap.size (v.toNat : Int) (v.toNat : Int) (v.toNat : Int) 255) (w.heap.size + 1) (.int .i64 0) (.int .i64 0) (.int .i64 0)).drew (w.heap.size + 1) 0 0 0 := Blk.drew (FB.st3 (F4.st4 hcf'))
    obtain ⟨k0, k1, k2, _⟩ := FB.all F5
    have k3 := CB.c0 C5
    have k4 := CB.c1 C5
    have k5 := CB.c2 C5
    have k6 := CB.c3 C5
    change bodyPost _ _ _ _ _ (st3 (st4 w4 w.heap.size (v.toNat : Int) (v.toNat : Int) (v.toNat : Int) 255) (w.heap.size + 1) (.int .i64 0) (.int .i64 0) (.int .i64 0)).drew
    exact bodyPost_ret (v := .tuple #[(grayQ v).v, .agg #[.int .i64 0, .int .i64 0, .int .i64 0]]) (by simp [results, Tryz.results57, go_sem, grayQ, Qc.v, k0, k1, k2, k3, k4, k5, k6]) rfl ⟨y3, HR.out.2.2.2, .inr ⟨grayQ v, a', rfl, HR.out.2.2.1, TXI.drew (TXI.own (TXI.own (HL.out.to_ HT.out) C4 (Nat.le_refl _) (Turn.st4 (Turn.refl _ _) (.inl (by simp))) (by decide) (by decide) (by decide) (by decide) (by decide)) (F4.st4 hcf') (by omega) (Turn.st3 (Turn.refl _ _) (.inl (by simp))) (by decide) (by decide) (by decide) (by decide) (by decide)), HR.out.2.1, fun z k => HR.out.1 z _⟩⟩
set_option maxRecDepth 100000 in
set_option maxHeartbeats 4000000 in
theorem tbitC {w : World} {p g x q a : Nat} {s : ByteArray} {h : HeadR} {av : List Nat} {y : Led} (I : TXI w w p g x q s h av a y) (ha : a ≤ s.size) (hsm : s.size ≤ 1099511627776) (hM : 1 ≤ h.M ∧ h.M ≤ 65535) (hy : y.reason = 0) :
    Calls Tryz.prog 58 #[.pointer (some ⟨x, 0, none⟩)] w fun e w' => PixPost w w' p g x q s h av y e (bitD s a) := by
  have I2 := (I.alloc (.cells #[.int .u8 0, .int .u8 0, .int .u8 0, .int .u8 0] 48)).alloc (.cells #[.int .i64 0, .int .i64 0, .int .i64 0] 33)
  have C2 : CB ((w.alloc (.cells #[.int .u8 0, .int .u8 0, .int .u8 0, .int .u8 0] 48)).alloc (.cells #[.int .i64 0, .int .i64 0, .int .i64 0] 33)) w.heap.size 0 0 0 0 := Blk.alloc (Blk.new _ _ _) _
  have F2 : FB ((w.alloc (.cells #[.int .u8 0, .int .u8 0, .int .u8 0, .int .u8 0] 48)).alloc (.cells #[.int .i64 0, .int .i64 0, .int .i64 0] 33)) (w.heap.size + 1) 0 0 0 := Blk.new_at _ _ _ (by simp)
  have hpw := Blk.lt I.S
  have hgw := Blk.lt I.G
  have hqw : q < w.heap.size := by obtain ⟨cs, hb⟩ := I.Q.blk; exact Blk.lt hb
  have c0 : ((w.alloc (.cells #[.int .u8 0, .int .u8 0, .int .u8 0, .int .u8 0] 48)).alloc (.cells #[.int .i64 0, .int .i64 0, .int .i64 0] 33)).cell? ⟨x, 0, none⟩ = some (.pointer (some ⟨p, 0, none⟩)) := Blk.cell I2.X 0
  rcases digC (p := p) (g := g) (I.src_ok ha hsm) I.ok hy with ⟨kk, aa, y2, hk, yok, yb, run, c⟩ | ⟨⟨V, f, n⟩, y2, hg, yok, yb, yr, run, c⟩
  · have HN := Lib.hid (c _ I2.S I2.G)
    unfold tokNo ftV at HN
    have HI := Lib.hid I2
    have HR := Lib.hid run
    have HY := Lib.hid (And.intro yok (And.intro yb hk))
    clear I I2 run yok yb hk hy c ha hsm hM
    go_enter Tryz.func58, Tryz.ntmps58
    go_upto_region 2 with (go_at_call 80; refine HN.out.mono ?_; rintro e w2 ⟨rfl, g2, t2⟩)
    have L2 := HI.out.led t2 g2 HY.out.1
    have T3 := L2.2.2
    have C4 : CB (w2.alloc (.cells #[.int .i64 (kk : Int), .int .i64 3, .int .i64 (aa : Int)] 33)) w.heap.size 0 0 0 0 := Blk.alloc (Blk.turn C2 t2 (by simp only [List.mem_cons, List.not_mem_nil, or_false, not_or]; omega)) _
    have F4 : FB (w2.alloc (.cells #[.int .i64 (kk : Int), .int .i64 3, .int .i64 (aa : Int)] 33)) (w.heap.size + 1) 0 0 0 := Blk.alloc (FB.turn F2 t2 (by simp only [List.mem_cons, List.not_mem_nil, or_false, not_or]; omega)) _
    have E4 : FB (w2.alloc (.cells #[.int .i64 (kk : Int), .int .i64 3, .int .i64 (aa : Int)] 33)) w2.heap.size (kk : Int) 3 (aa : Int) := Blk.new _ _ _
    have hce : w.heap.size ≠ w2.heap.size := Nat.ne_of_lt (Blk.lt (Blk.turn C2 t2 (by simp only [List.mem_cons, List.not_mem_nil, or_false, not_or]; omega)))
    have hfe : w.heap.size + 1 ≠ w2.heap.size := Nat.ne_of_lt (Blk.lt (FB.turn F2 t2 (by simp only [List.mem_cons, List.not_mem_nil, or_false, not_or]; omega)))
    have hcf : w.heap.size ≠ w.heap.size + 1 := by omega
    have L4 : LedAt (w2.alloc (.cells #[.int .i64 (kk : Int), .int .i64 3, .int .i64 (aa : Int)] 33)) g y2 ∧ SclA (w2.alloc (.cells #[.int .i64 (kk : Int), .int .i64 3, .int .i64 (aa : Int)] 33)) q h.M av ∧ Turn [p, g, q] w (w2.alloc (.cells #[.int .i64 (kk : Int), .int .i64 3, .int .i64 (aa : Int)] 33)) := ⟨Blk.alloc L2.1 _, L2.2.1.alloc _, L2.2.2.alloc _⟩
    clear C2 F2 c0
    generalize w2.alloc (.cells #[.int .i64 (kk : Int), .int .i64 3, .int .i64 (aa : Int)] 33) = w4 at C4 F4 E4 L4 ⊢
    generalize w2.heap.size = q6 at E4 hce hfe ⊢
    have hce' := hce.symm
    have hfe' := hfe.symm
    have hcf' := hcf.symm
    have HL := Lib.hid L4
    clear L4 L2 T3 t2 g2
    obtain ⟨f0, f1, f2, z0, z1, z2, fl⟩ := FB.all F4
    obtain ⟨e0, e1, e2, ez0, ez1, ez2, el⟩ := FB.all E4
    have d0 := CB.c0 C4
    have d1 := CB.c1 C4
    have d2 := CB.c2 C4
    have d3 := CB.c3 C4
    have dz0 := Blk.frozen C4 0
    have dz1 := Blk.frozen C4 1
    have dz2 := Blk.frozen C4 2
    have dz3 := Blk.frozen C4 3
    have dl := Blk.lt C4
    go_upto_region 3 with fail
    go_region
    all_goals go_wp2_with fail
    have C5 : CB (st3 (st4 w4 w.heap.size 255 255 255 255) (w.heap.size + 1) (.int .i64 (kk : Int)) (.int .i64 3) (.int .i64 (aa : Int))).drew w.heap.size 255 255 255 255 := Blk.drew (Blk.st3 (CB.store C4) hcf)
    have F5 : FB (st3 (st4 w4 w.heap.size 255 255 255 255) (w.heap.size + 1) (.int .i64 (kk : Int)) (.int .i64 3) (.int .i64 (aa : Int))).drew (w.heap.size + 1) (kk : Int) 3 (aa : Int) := Blk.drew (FB.st3 (F4.st4 hcf'))
    obtain ⟨k0, k1, k2, _⟩ := FB.all F5
    have k3 := CB.c0 C5
    have k4 := CB.c1 C5
    have k5 := CB.c2 C5
    have k6 := CB.c3 C5
    change bodyPost _ _ _ _ _ (st3 (st4 w4 w.heap.size 255 255 255 255) (w.heap.size + 1) (.int .i64 (kk : Int)) (.int .i64 3) (.int .i64 (aa : Int))).drew
    exact bodyPost_ret (v := .tuple #[.agg #[.int .u8 255, .int .u8 255, .int .u8 255, .int .u8 255], .agg #[.int .i64 (kk : Int), .int .i64 3, .int .i64 (aa : Int)]]) (by simp [results, Tryz.results58, go_sem, k0, k1, k2, k3, k4, k5, k6]) rfl ⟨y2, HY.out.2.1, .inl ⟨kk, aa, 255, 255, 255, 255, HY.out.2.2, HY.out.1, rfl, ⟨Blk.drew (Blk.st3 (Blk.st4 HL.out.1 (by omega)) (by omega)), ((HL.out.2.1.st4 C4 (by omega)).st3 (F4.st4 hcf') (by omega)).drew, (Turn.st3 (Turn.st4 HL.out.2.2 (.inr (Nat.le_refl _))) (.inr (by omega))).drew⟩, fun z k => HR.out z _⟩⟩
  · have hg' : digitAt (nats s) a = ⟨V, f, n, 0, 0⟩ := hg
    obtain ⟨hn, hV9⟩ : n ≤ s.size ∧ V ≤ 1 := by
      rcases digitAt_or (nats s) a (by rw [nats_len]; exact ha) with ⟨kd, pl, e, h0, _⟩ | ⟨V', f', e, hn, hv, _⟩
      · rw [hg'] at e; injection e with _ _ _ e4; exact absurd e4.symm h0
      · rw [hg'] at e; injection e with e1 e2 e3; rw [nats_len] at hn; subst e1 e2 e3; exact ⟨hn, hv⟩
    have HC := Lib.hid c
    have HI := Lib.hid I2
    have HR := Lib.hid run
    have HY := Lib.hid (And.intro yok (And.intro yb (And.intro yr hn)))
    clear I I2 run yok yb yr hy c ha hsm hM hg hg' hn
    have hv01 : V = 0 ∨ V = 1 := by omega
    clear hV9
    rcases hv01 with rfl | rfl
    · have HN := Lib.hid (HC.out _ HI.out.S HI.out.G)
      unfold tokYes ft0 at HN
      simp only at HN
      go_enter Tryz.func58, Tryz.ntmps58
      go_upto_region 2 with (go_at_call 80; refine HN.out.mono ?_; rintro e w2 ⟨rfl, s2, g2, t2⟩)
      have I3 := HI.out.read t2 s2 g2 HY.out.1
      have T3 := I3.T
      have C4 : CB (w2.alloc (.cells #[.int .i64 0, .int .i64 0, .int .i64 0] 33)) w.heap.size 0 0 0 0 := Blk.alloc (Blk.turn C2 t2 (by simp only [List.mem_cons, List.not_mem_nil, or_false, not_or]; omega)) _
      have F4 : FB (w2.alloc (.cells #[.int .i64 0, .int .i64 0, .int .i64 0] 33)) (w.heap.size + 1) 0 0 0 := Blk.alloc (FB.turn F2 t2 (by simp only [List.mem_cons, List.not_mem_nil, or_false, not_or]; omega)) _
      have E4 : FB (w2.alloc (.cells #[.int .i64 0, .int .i64 0, .int .i64 0] 33)) w2.heap.size 0 0 0 := Blk.new _ _ _
      have hce : w.heap.size ≠ w2.heap.size := Nat.ne_of_lt (Blk.lt (Blk.turn C2 t2 (by simp only [List.mem_cons, List.not_mem_nil, or_false, not_or]; omega)))
      have hfe : w.heap.size + 1 ≠ w2.heap.size := Nat.ne_of_lt (Blk.lt (FB.turn F2 t2 (by simp only [List.mem_cons, List.not_mem_nil, or_false, not_or]; omega)))
      have hcf : w.heap.size ≠ w.heap.size + 1 := by omega
      have I4 := I3.alloc (.cells #[.int .i64 0, .int .i64 0, .int .i64 0] 33)
      clear C2 F2 c0
      generalize w2.alloc (.cells #[.int .i64 0, .int .i64 0, .int .i64 0] 33) = w4 at C4 F4 E4 I4 ⊢
      generalize w2.heap.size = q6 at E4 hce hfe ⊢
      have hce' := hce.symm
      have hfe' := hfe.symm
      have hcf' := hcf.symm
      have HL := Lib.hid I4
      clear I4 I3 T3 t2 g2 s2
      obtain ⟨f0, f1, f2, z0, z1, z2, fl⟩ := FB.all F4
      obtain ⟨e0, e1, e2, ez0, ez1, ez2, el⟩ := FB.all E4
      have d0 := CB.c0 C4
      have d1 := CB.c1 C4
      have d2 := CB.c2 C4
      have d3 := CB.c3 C4
      have dz0 := Blk.frozen C4 0
      have dz1 := Blk.frozen C4 1
      have dz2 := Blk.frozen C4 2
      have dz3 := Blk.frozen C4 3
      have dl := Blk.lt C4
      go_upto_region 3 with fail
      go_region
      all_goals go_wp2_with fail
      have C5 : CB (st3 (st4 w4 w.heap.size 255 255 255 255) (w.heap.size + 1) (.int .i64 0) (.int .i64 0) (.int .i64 0)).drew w.heap.size 255 255 255 255 := Blk.drew (Blk.st3 (CB.store C4) hcf)
      have F5 : FB (st3 (st4 w4 w.heap.size 255 255 255 255) (w.heap.size + 1) (.int .i64 0) (.int .i64 0) (.int .i64 0)).drew (w.heap.size + 1) 0 0 0 := Blk.drew (FB.st3 (F4.st4 hcf'))
      obtain ⟨k0, k1, k2, _⟩ := FB.all F5
      have k3 := CB.c0 C5
      have k4 := CB.c1 C5
      have k5 := CB.c2 C5
      have k6 := CB.c3 C5
      change bodyPost _ _ _ _ _ (st3 (st4 w4 w.heap.size 255 255 255 255) (w.heap.size + 1) (.int .i64 0) (.int .i64 0) (.int .i64 0)).drew
      exact bodyPost_ret (v := .tuple #[(grayQ (UInt8.ofNat (255 * (1 - 0)))).v, .agg #[.int .i64 0, .int .i64 0, .int .i64 0]]) (by simp [results, Tryz.results58, go_sem, grayQ, Qc.v, k0, k1, k2, k3, k4, k5, k6]) rfl ⟨y2, HY.out.2.1, .inr ⟨grayQ (UInt8.ofNat (255 * (1 - 0))), n, rfl, HY.out.2.2.2, TXI.drew (TXI.own (TXI.own HL.out C4 (Nat.le_refl _) (Turn.st4 (Turn.refl _ _) (.inl (by simp))) (by decide) (by decide) (by decide) (by decide) (by decide)) (F4.st4 hcf') (by omega) (Turn.st3 (Turn.refl _ _) (.inl (by simp))) (by decide) (by decide) (by decide) (by decide) (by decide)), HY.out.2.2.1, fun z k => HR.out z _⟩⟩
    · have HN := Lib.hid (HC.out _ HI.out.S HI.out.G)
      unfold tokYes ft0 at HN
      simp only at HN
      go_enter Tryz.func58, Tryz.ntmps58
      go_upto_region 2 with (go_at_call 80; refine HN.out.mono ?_; rintro e w2 ⟨rfl, s2, g2, t2⟩)
      have I3 := HI.out.read t2 s2 g2 HY.out.1
      have T3 := I3.T
      have C4 : CB (w2.alloc (.cells #[.int .i64 0, .int .i64 0, .int .i64 0] 33)) w.heap.size 0 0 0 0 := Blk.alloc (Blk.turn C2 t2 (by simp only [List.mem_cons, List.not_mem_nil, or_false, not_or]; omega)) _
      have F4 : FB (w2.alloc (.cells #[.int .i64 0, .int .i64 0, .int .i64 0] 33)) (w.heap.size + 1) 0 0 0 := Blk.alloc (FB.turn F2 t2 (by simp only [List.mem_cons, List.not_mem_nil, or_false, not_or]; omega)) _
      have E4 : FB (w2.alloc (.cells #[.int .i64 0, .int .i64 0, .int .i64 0] 33)) w2.heap.size 0 0 0 := Blk.new _ _ _
      have hce : w.heap.size ≠ w2.heap.size := Nat.ne_of_lt (Blk.lt (Blk.turn C2 t2 (by simp only [List.mem_cons, List.not_mem_nil, or_false, not_or]; omega)))
      have hfe : w.heap.size + 1 ≠ w2.heap.size := Nat.ne_of_lt (Blk.lt (FB.turn F2 t2 (by simp only [List.mem_cons, List.not_mem_nil, or_false, not_or]; omega)))
      have hcf : w.heap.size ≠ w.heap.size + 1 := by omega
      have I4 := I3.alloc (.cells #[.int .i64 0, .int .i64 0, .int .i64 0] 33)
      clear C2 F2 c0
      generalize w2.alloc (.cells #[.int .i64 0, .int .i64 0, .int .i64 0] 33) = w4 at C4 F4 E4 I4 ⊢
      generalize w2.heap.size = q6 at E4 hce hfe ⊢
      have hce' := hce.symm
      have hfe' := hfe.symm
      have hcf' := hcf.symm
      have HL := Lib.hid I4
      clear I4 I3 T3 t2 g2 s2
      obtain ⟨f0, f1, f2, z0, z1, z2, fl⟩ := FB.all F4
      obtain ⟨e0, e1, e2, ez0, ez1, ez2, el⟩ := FB.all E4
      have d0 := CB.c0 C4
      have d1 := CB.c1 C4
      have d2 := CB.c2 C4
      have d3 := CB.c3 C4
      have dz0 := Blk.frozen C4 0
      have dz1 := Blk.frozen C4 1
      have dz2 := Blk.frozen C4 2
      have dz3 := Blk.frozen C4 3
      have dl := Blk.lt C4
      go_upto_region 3 with fail
      go_region
      all_goals go_wp2_with fail
      have C5 : CB (st3 (st4 w4 w.heap.size 0 0 0 255) (w.heap.size + 1) (.int .i64 0) (.int .i64 0) (.int .i64 0)).drew w.heap.size 0 0 0 255 := Blk.drew (Blk.st3 (CB.store C4) hcf)
      have F5 : FB (st3 (st4 w4 w.heap.size 0 0 0 255) (w.heap.size + 1) (.int .i64 0) (.int .i64 0) (.int .i64 0)).drew (w.heap.size + 1) 0 0 0 := Blk.drew (FB.st3 (F4.st4 hcf'))
      obtain ⟨k0, k1, k2, _⟩ := FB.all F5
      have k3 := CB.c0 C5
      have k4 := CB.c1 C5
      have k5 := CB.c2 C5
      have k6 := CB.c3 C5
      change bodyPost _ _ _ _ _ (st3 (st4 w4 w.heap.size 0 0 0 255) (w.heap.size + 1) (.int .i64 0) (.int .i64 0) (.int .i64 0)).drew
      exact bodyPost_ret (v := .tuple #[(grayQ (UInt8.ofNat (255 * (1 - 1)))).v, .agg #[.int .i64 0, .int .i64 0, .int .i64 0]]) (by simp [results, Tryz.results58, go_sem, grayQ, Qc.v, k0, k1, k2, k3, k4, k5, k6]) rfl ⟨y2, HY.out.2.1, .inr ⟨grayQ (UInt8.ofNat (255 * (1 - 1))), n, rfl, HY.out.2.2.2, TXI.drew (TXI.own (TXI.own HL.out C4 (Nat.le_refl _) (Turn.st4 (Turn.refl _ _) (.inl (by simp))) (by decide) (by decide) (by decide) (by decide) (by decide)) (F4.st4 hcf') (by omega) (Turn.st3 (Turn.refl _ _) (.inl (by simp))) (by decide) (by decide) (by decide) (by decide) (by decide)), HY.out.2.2.1, fun z k => HR.out z _⟩⟩
def colD (s : ByteArray) (M z : Nat) (k : List UInt8 × Nat → Dec) : Nat → Nat → List UInt8 → Dec
  | 0, a, l => k (l, a)
  | m + 1, a, l => smpD s M a z fun r => colD s M z k m r.2 (l ++ [r.1])
theorem idxP3 (a b c : Value) : (∀ w, (Instr.index 143 (.agg #[a, b, c]) (.int .i64 0)).run Tryz.prog w = .ok a w) ∧ (∀ w, (Instr.index 143 (.agg #[a, b, c]) (.int .i64 1)).run Tryz.prog w = .ok b w) ∧ (∀ w, (Instr.index 143 (.agg #[a, b, c]) (.int .i64 2)).run Tryz.prog w = .ok c w) := ⟨fun _ => by kernel_rfl, fun _ => by kernel_rfl, fun _ => by kernel_rfl⟩
set_option maxRecDepth 100000 in
set_option maxHeartbeats 8000000 in
theorem tcolorC {w : World} {p g x q a : Nat} {s : ByteArray} {h : HeadR} {av : List Nat} {y : Led} (I : TXI w w p g x q s h av a y) (ha : a ≤ s.size) (hsm : s.size ≤ 1099511627776) (hM : 1 ≤ h.M ∧ h.M ≤ 65535) (hy : y.reason = 0) :
    Calls Tryz.prog 59 #[.pointer (some ⟨x, 0, none⟩)] w fun e w' => PixPost w w' p g x q s h av y e (fun z k => colD s h.M z (fun t => k (col3 t.1, t.2)) 3 a []) := by
  have I2 := ((I.alloc (.cells #[.int .u8 0, .int .u8 0, .int .u8 0, .int .u8 0] 48)).alloc (.cells #[.int .i64 0, .int .i64 0, .int .i64 0] 33)).alloc (.cells #[.int .u8 0, .int .u8 0, .int .u8 0, .int .u8 255] 48)
  have C2 : CB (((w.alloc (.cells #[.int .u8 0, .int .u8 0, .int .u8 0, .int .u8 0] 48)).alloc (.cells #[.int .i64 0, .int .i64 0, .int .i64 0] 33)).alloc (.cells #[.int .u8 0, .int .u8 0, .int .u8 0, .int .u8 255] 48)) w.heap.size 0 0 0 0 := Blk.alloc (Blk.alloc (Blk.new _ _ _) _) _
  have F2 : FB (((w.alloc (.cells #[.int .u8 0, .int .u8 0, .int .u8 0, .int .u8 0] 48)).alloc (.cells #[.int .i64 0, .int .i64 0, .int .i64 0] 33)).alloc (.cells #[.int .u8 0, .int .u8 0, .int .u8 0, .int .u8 255] 48)) (w.heap.size + 1) 0 0 0 := Blk.alloc (Blk.new_at _ _ _ (by simp)) _
  have D2 : CB (((w.alloc (.cells #[.int .u8 0, .int .u8 0, .int .u8 0, .int .u8 0] 48)).alloc (.cells #[.int .i64 0, .int .i64 0, .int .i64 0] 33)).alloc (.cells #[.int .u8 0, .int .u8 0, .int .u8 0, .int .u8 255] 48)) (w.heap.size + 2) 0 0 0 255 := Blk.new_at _ _ _ (by simp)
  have hpw := Blk.lt I.S
  have hgw := Blk.lt I.G
  have hqw : q < w.heap.size := by obtain ⟨cs, hb⟩ := I.Q.blk; exact Blk.lt hb
  have HX0 : Hid (TXI w (((w.alloc (.cells #[.int .u8 0, .int .u8 0, .int .u8 0, .int .u8 0] 48)).alloc (.cells #[.int .i64 0, .int .i64 0, .int .i64 0] 33)).alloc (.cells #[.int .u8 0, .int .u8 0, .int .u8 0, .int .u8 255] 48)) p g x q s h av a y ∧ CB (((w.alloc (.cells #[.int .u8 0, .int .u8 0, .int .u8 0, .int .u8 0] 48)).alloc (.cells #[.int .i64 0, .int .i64 0, .int .i64 0] 33)).alloc (.cells #[.int .u8 0, .int .u8 0, .int .u8 0, .int .u8 255] 48)) (w.heap.size + 2) 0 0 0 255 ∧ CB (((w.alloc (.cells #[.int .u8 0, .int .u8 0, .int .u8 0, .int .u8 0] 48)).alloc (.cells #[.int .i64 0, .int .i64 0, .int .i64 0] 33)).alloc (.cells #[.int .u8 0, .int .u8 0, .int .u8 0, .int .u8 255] 48)) w.heap.size 0 0 0 0 ∧ FB (((w.alloc (.cells #[.int .u8 0, .int .u8 0, .int .u8 0, .int .u8 0] 48)).alloc (.cells #[.int .i64 0, .int .i64 0, .int .i64 0] 33)).alloc (.cells #[.int .u8 0, .int .u8 0, .int .u8 0, .int .u8 255] 48)) (w.heap.size + 1) 0 0 0 ∧ a ≤ s.size ∧ y.reason = 0 ∧ y.bytes = y.bytes ∧ ∀ z k, (colD s h.M z k 3 a []).run y = (colD s h.M z k 3 a []).run y) := Lib.hid ⟨I2, D2, C2, F2, ha, hy, rfl, fun _ _ => rfl⟩
  have HH := Lib.hid (And.intro hM hsm)
  obtain ⟨ix0, ix1, ix2⟩ := idxP3 (.pointer (some ⟨w.heap.size + 2, 0, none⟩)) (.pointer (some ⟨w.heap.size + 2, 1, none⟩)) (.pointer (some ⟨w.heap.size + 2, 2, none⟩))
  clear I I2 C2 F2 D2 ha hy hM hsm
  go_enter Tryz.func59, Tryz.ntmps59
  go_upto_region 3 with fail
  go_loopg [6, 7, 13] 3 (fun k v6 v7 v13 wr => (k = 3 ∧ v13 = .int .i64 0 ∧ ∃ (a2 : Nat) (y2 : Led), Hid (TXI w wr p g x q s h av a2 y2 ∧ CB wr (w.heap.size + 2) 0 0 0 255 ∧ CB wr w.heap.size 0 0 0 0 ∧ FB wr (w.heap.size + 1) 0 0 0 ∧ a2 ≤ s.size ∧ y2.reason = 0 ∧ y2.bytes = y.bytes ∧ ∀ z k, (colD s h.M z k 3 a []).run y = (colD s h.M z k 3 a2 []).run y2)) ∨ (k = 2 ∧ v13 = .int .i64 1 ∧ ∃ (a2 : Nat) (y2 : Led) (u0 : UInt8), Hid (TXI w wr p g x q s h av a2 y2 ∧ CB wr (w.heap.size + 2) (u0.toNat : Int) 0 0 255 ∧ CB wr w.heap.size 0 0 0 0 ∧ FB wr (w.heap.size + 1) 0 0 0 ∧ a2 ≤ s.size ∧ y2.reason = 0 ∧ y2.bytes = y.bytes ∧ ∀ z k, (colD s h.M z k 3 a []).run y = (colD s h.M z k 2 a2 [u0]).run y2)) ∨ (k = 1 ∧ v13 = .int .i64 2 ∧ ∃ (a2 : Nat) (y2 : Led) (u0 : UInt8) (u1 : UInt8), Hid (TXI w wr p g x q s h av a2 y2 ∧ CB wr (w.heap.size + 2) (u0.toNat : Int) (u1.toNat : Int) 0 255 ∧ CB wr w.heap.size 0 0 0 0 ∧ FB wr (w.heap.size + 1) 0 0 0 ∧ a2 ≤ s.size ∧ y2.reason = 0 ∧ y2.bytes = y.bytes ∧ ∀ z k, (colD s h.M z k 3 a []).run y = (colD s h.M z k 1 a2 [u0, u1]).run y2)) ∨ (k = 0 ∧ v13 = .int .i64 3 ∧ ∃ (a2 : Nat) (y2 : Led) (u0 : UInt8) (u1 : UInt8) (u2 : UInt8), Hid (TXI w wr p g x q s h av a2 y2 ∧ CB wr (w.heap.size + 2) (u0.toNat : Int) (u1.toNat : Int) (u2.toNat : Int) 255 ∧ CB wr w.heap.size 0 0 0 0 ∧ FB wr (w.heap.size + 1) 0 0 0 ∧ a2 ≤ s.size ∧ y2.reason = 0 ∧ y2.bytes = y.bytes ∧ ∀ z k, (colD s h.M z k 3 a []).run y = (colD s h.M z k 0 a2 [u0, u1, u2]).run y2)))
  case atStart => exact .inl ⟨rfl, rfl, a, y, Lib.hid ⟨HX0.out.1, HX0.out.2.1, HX0.out.2.2.1, HX0.out.2.2.2.1, HX0.out.2.2.2.2.1, HX0.out.2.2.2.2.2.1, rfl, fun _ _ => rfl⟩⟩
  case round =>
    clear HX0
    obtain ⟨rfl, rfl, a2, y2, HX⟩ | ⟨rfl, rfl, a2, y2, u0, HX⟩ | ⟨rfl, rfl, a2, y2, u0, u1, HX⟩ | ⟨rfl, rfl, a2, y2, u0, u1, u2, HX⟩ := hrel
    · skip
      have I4 := HX.out.1.alloc (.cells #[.int .i64 0, .int .i64 0, .int .i64 0] 33)
      have D4 : CB (wr.alloc (.cells #[.int .i64 0, .int .i64 0, .int .i64 0] 33)) (w.heap.size + 2) 0 0 0 255 := Blk.alloc HX.out.2.1 _
      have C4 : CB (wr.alloc (.cells #[.int .i64 0, .int .i64 0, .int .i64 0] 33)) w.heap.size 0 0 0 0 := Blk.alloc HX.out.2.2.1 _
      have F4 : FB (wr.alloc (.cells #[.int .i64 0, .int .i64 0, .int .i64 0] 33)) (w.heap.size + 1) 0 0 0 := Blk.alloc HX.out.2.2.2.1 _
      have E4 : FB (wr.alloc (.cells #[.int .i64 0, .int .i64 0, .int .i64 0] 33)) wr.heap.size 0 0 0 := Blk.new _ _ _
      have hlt : w.heap.size + 2 < wr.heap.size := Blk.lt HX.out.2.1
      go_upto_region 6 with fail
      generalize wr.alloc (.cells #[.int .i64 0, .int .i64 0, .int .i64 0] 33) = w3 at I4 D4 C4 F4 E4 ⊢
      generalize wr.heap.size = q7 at hlt E4 ⊢
      have HS0 := smpC I4.from_ HX.out.2.2.2.2.1 HH.out.2 HH.out.1 HX.out.2.2.2.2.2.1
      unfold PartPost smpNo smpYes ftV ft0 at HS0
      have HS := Lib.hid HS0
      have HB := Lib.hid (And.intro I4 (And.intro D4 (And.intro C4 (And.intro F4 E4))))
      clear HS0 I4 D4 C4 F4 E4
      have h2q : w.heap.size + 2 ≠ q7 := by omega
      have hq2 : q7 ≠ w.heap.size + 2 := by omega
      go_upto_region 7 with (go_at_call 79; refine HS.out.mono ?_; rintro e w5 ⟨y5, yb5, hor⟩; have T5 : Turn [p, g, q] w3 w5 := hor.elim (fun ⟨_, _, _, _, _, L, _⟩ => L.2.2) (fun ⟨_, _, _, I, _⟩ => I.T); have D5 : CB w5 (w.heap.size + 2) 0 0 0 255 := Blk.turn HB.out.2.1 T5 (by simp only [List.mem_cons, List.not_mem_nil, or_false, not_or]; omega); have E5 : FB w5 q7 0 0 0 := FB.turn HB.out.2.2.2.2 T5 (by simp only [List.mem_cons, List.not_mem_nil, or_false, not_or]; omega); obtain ⟨e0, e1, e2, ez0, ez1, ez2, el⟩ := FB.all E5; have d0 := CB.c0 D5; have d1 := CB.c1 D5; have d2 := CB.c2 D5; have d3 := CB.c3 D5; have dz0 := Blk.frozen D5 0; have dz1 := Blk.frozen D5 1; have dz2 := Blk.frozen D5 2; have dz3 := Blk.frozen D5 3; have dl := Blk.lt D5; rcases hor with ⟨kk, aa, hk, yok, rfl, L3, run⟩ | ⟨⟨v, a'⟩, rfl, ha', I3, yr, run⟩)
      · have C5 : CB w5 w.heap.size 0 0 0 0 := Blk.turn HB.out.2.2.1 T5 (by simp only [List.mem_cons, List.not_mem_nil, or_false, not_or]; omega)
        have F5 : FB w5 (w.heap.size + 1) 0 0 0 := FB.turn HB.out.2.2.2.1 T5 (by simp only [List.mem_cons, List.not_mem_nil, or_false, not_or]; omega)
        have HR := Lib.hid (And.intro run (And.intro hk (And.intro yok yb5)))
        have HL := Lib.hid (And.intro L3.1 (And.intro L3.2.1 (HB.out.1.T.trans L3.2.2)))
        have HU := Lib.hid (And.intro D5 (And.intro E5 (And.intro C5 F5)))
        have hki : ((kk : Int) != 0) = true := bne_iff_ne.2 (by omega)
        clear d0 d1 d2 d3 dz0 dz1 dz2 dz3 dl e0 e1 e2 ez0 ez1 ez2 el D5 E5 C5 F5 run hk yok yb5 L3 T5
        refine pwp_gen (w := (st3 (w5.setCell ⟨w.heap.size + 2, 0, none⟩ (.int .u8 0)) q7 (.int .i64 (kk : Int)) (.int .i64 3) (.int .i64 (aa : Int)))) (S := fun wx => Hid (CB wx (w.heap.size + 2) 0 0 0 255 ∧ CB wx w.heap.size 0 0 0 0 ∧ FB wx (w.heap.size + 1) 0 0 0 ∧ FB wx q7 (kk : Int) 3 (aa : Int) ∧ LedAt wx g y5 ∧ SclA wx q h.M av ∧ Turn [p, g, q] w wx)) (Lib.hid ⟨Blk.st3 (CB.set_ HU.out.1 (by simp [colC])) h2q, Blk.st3 (Blk.far HU.out.2.2.1 (p := ⟨w.heap.size + 2, 0, none⟩) (show w.heap.size ≠ w.heap.size + 2 by omega) _) (by omega), Blk.st3 (Blk.far HU.out.2.2.2 (p := ⟨w.heap.size + 2, 0, none⟩) (show w.heap.size + 1 ≠ w.heap.size + 2 by omega) _) (by omega), FB.st3 (Blk.far HU.out.2.1 (p := ⟨w.heap.size + 2, 0, none⟩) hq2 _), Blk.st3 (Blk.far HL.out.1 (p := ⟨w.heap.size + 2, 0, none⟩) (show g ≠ w.heap.size + 2 by omega) _) (by omega), (HL.out.2.1.turn (S := [w.heap.size + 2]) (w' := w5.setCell ⟨w.heap.size + 2, 0, none⟩ (.int .u8 0)) ((Turn.refl _ _).set_ 0 _ (.inl (by simp))) (by simp; omega) (fun i hi => by simp only [List.mem_cons, List.not_mem_nil, or_false] at hi; subst hi; exact .inr ⟨_, _, HU.out.1, by decide⟩)).st3 (k := 0) (f := 0) (i := 0) (Blk.far HU.out.2.1 (p := ⟨w.heap.size + 2, 0, none⟩) hq2 _) (by omega), Turn.st3 (HL.out.2.2.set_ 0 _ (.inr (by omega))) (.inr (by omega))⟩) (fun wx hX => ?_)
        have D6 := hX.out.1
        have C4 := hX.out.2.1
        have F4 := hX.out.2.2.1
        have E6 := hX.out.2.2.2.1
        obtain ⟨f0, f1, f2, z0, z1, z2, fl⟩ := FB.all F4
        obtain ⟨e0, e1, e2, ez0, ez1, ez2, el⟩ := FB.all E6
        have d0 := CB.c0 D6
        have d1 := CB.c1 D6
        have d2 := CB.c2 D6
        have d3 := CB.c3 D6
        have r0 := CB.c0 C4
        have r1 := CB.c1 C4
        have r2 := CB.c2 C4
        have r3 := CB.c3 C4
        have rz0 := Blk.frozen C4 0
        have rz1 := Blk.frozen C4 1
        have rz2 := Blk.frozen C4 2
        have rz3 := Blk.frozen C4 3
        have rl := Blk.lt C4
        have hcd : w.heap.size ≠ w.heap.size + 2 := by omega
        have hcf : w.heap.size ≠ w.heap.size + 1 := by omega
        have hfd : w.heap.size + 1 ≠ w.heap.size + 2 := by omega
        have hcq : w.heap.size ≠ q7 := by omega
        have hfq : w.heap.size + 1 ≠ q7 := by omega
        have hcd' := hcd.symm
        have hcf' := hcf.symm
        have hfd' := hfd.symm
        have hcq' := hcq.symm
        have hfq' := hfq.symm
        go_upto_region 8 with fail
        go_region
        all_goals go_wp2_with fail
        have C5 : CB (st3 (st4 wx w.heap.size 0 0 0 255) (w.heap.size + 1) (.int .i64 (kk : Int)) (.int .i64 3) (.int .i64 (aa : Int))).drew w.heap.size 0 0 0 255 := Blk.drew (Blk.st3 (CB.store C4) hcf)
        have F5 : FB (st3 (st4 wx w.heap.size 0 0 0 255) (w.heap.size + 1) (.int .i64 (kk : Int)) (.int .i64 3) (.int .i64 (aa : Int))).drew (w.heap.size + 1) (kk : Int) 3 (aa : Int) := Blk.drew (FB.st3 (F4.st4 hcf'))
        obtain ⟨k0, k1, k2, _⟩ := FB.all F5
        have k3 := CB.c0 C5
        have k4 := CB.c1 C5
        have k5 := CB.c2 C5
        have k6 := CB.c3 C5
        change bodyPost _ _ _ _ _ (st3 (st4 wx w.heap.size 0 0 0 255) (w.heap.size + 1) (.int .i64 (kk : Int)) (.int .i64 3) (.int .i64 (aa : Int))).drew
        exact bodyPost_ret (v := .tuple #[.agg #[.int .u8 0, .int .u8 0, .int .u8 0, .int .u8 255], .agg #[.int .i64 (kk : Int), .int .i64 3, .int .i64 (aa : Int)]]) (by simp [results, Tryz.results59, go_sem, k0, k1, k2, k3, k4, k5, k6]) rfl ⟨y5, HR.out.2.2.2.trans HX.out.2.2.2.2.2.2.1, .inl ⟨kk, aa, 0, 0, 0, 255, HR.out.2.1, HR.out.2.2.1, rfl, ⟨Blk.drew (Blk.st3 (Blk.st4 hX.out.2.2.2.2.1 (by omega)) (by omega)), ((hX.out.2.2.2.2.2.1.st4 C4 (by omega)).st3 (F4.st4 hcf') (by omega)).drew, (Turn.st3 (Turn.st4 hX.out.2.2.2.2.2.2 (.inr (Nat.le_refl _))) (.inr (by omega))).drew⟩, fun z k => by rw [HX.out.2.2.2.2.2.2.2]; exact HR.out.1 z _⟩⟩
      · have C5 : CB w5 w.heap.size 0 0 0 0 := Blk.turn HB.out.2.2.1 T5 (by simp only [List.mem_cons, List.not_mem_nil, or_false, not_or]; omega)
        have F5 : FB w5 (w.heap.size + 1) 0 0 0 := FB.turn HB.out.2.2.2.1 T5 (by simp only [List.mem_cons, List.not_mem_nil, or_false, not_or]; omega)
        have HR := Lib.hid (And.intro run (And.intro ha' (And.intro yr yb5)))
        have I5 := I3.to_ HB.out.1.T
        have HU := Lib.hid (And.intro D5 (And.intro E5 (And.intro C5 (And.intro F5 I5))))
        clear d0 d1 d2 d3 dz0 dz1 dz2 dz3 dl e0 e1 e2 ez0 ez1 ez2 el D5 E5 C5 F5 run ha' yr yb5 I3 I5 T5
        refine pwp_gen (w := (st3 (w5.setCell ⟨w.heap.size + 2, 0, none⟩ (.int .u8 (v.toNat : Int))) q7 (.int .i64 0) (.int .i64 0) (.int .i64 0))) (S := fun wx => Hid (CB wx (w.heap.size + 2) (v.toNat : Int) 0 0 255 ∧ CB wx w.heap.size 0 0 0 0 ∧ FB wx (w.heap.size + 1) 0 0 0 ∧ FB wx q7 0 0 0 ∧ TXI w wx p g x q s h av a' y5)) (Lib.hid ⟨Blk.st3 (CB.set_ HU.out.1 (by simp [colC])) h2q, Blk.st3 (Blk.far HU.out.2.2.1 (p := ⟨w.heap.size + 2, 0, none⟩) (show w.heap.size ≠ w.heap.size + 2 by omega) _) (by omega), Blk.st3 (Blk.far HU.out.2.2.2.1 (p := ⟨w.heap.size + 2, 0, none⟩) (show w.heap.size + 1 ≠ w.heap.size + 2 by omega) _) (by omega), FB.st3 (Blk.far HU.out.2.1 (p := ⟨w.heap.size + 2, 0, none⟩) hq2 _), TXI.own (TXI.own HU.out.2.2.2.2 HU.out.1 (by omega) ((Turn.refl _ _).set_ 0 _ (.inl (by simp))) (by decide) (by decide) (by decide) (by decide) (by decide)) (Blk.far HU.out.2.1 (p := ⟨w.heap.size + 2, 0, none⟩) hq2 _) (by omega) (Turn.st3 (Turn.refl _ _) (.inl (by simp))) (by decide) (by decide) (by decide) (by decide) (by decide)⟩) (fun wx hX => ?_)
        obtain ⟨e0, e1, e2, ez0, ez1, ez2, el⟩ := FB.all hX.out.2.2.2.1
        go_wp2_with fail
        go_roundg 2
        case measure => decide
        case rel => exact .inr (.inl ⟨rfl, rfl, a', y5, v, Lib.hid ⟨hX.out.2.2.2.2, hX.out.1, hX.out.2.1, hX.out.2.2.1, HR.out.2.1, HR.out.2.2.1, HR.out.2.2.2.trans HX.out.2.2.2.2.2.2.1, fun z k => by rw [HX.out.2.2.2.2.2.2.2]; exact HR.out.1 z _⟩⟩)
    · skip
      have I4 := HX.out.1.alloc (.cells #[.int .i64 0, .int .i64 0, .int .i64 0] 33)
      have D4 : CB (wr.alloc (.cells #[.int .i64 0, .int .i64 0, .int .i64 0] 33)) (w.heap.size + 2) (u0.toNat : Int) 0 0 255 := Blk.alloc HX.out.2.1 _
      have C4 : CB (wr.alloc (.cells #[.int .i64 0, .int .i64 0, .int .i64 0] 33)) w.heap.size 0 0 0 0 := Blk.alloc HX.out.2.2.1 _
      have F4 : FB (wr.alloc (.cells #[.int .i64 0, .int .i64 0, .int .i64 0] 33)) (w.heap.size + 1) 0 0 0 := Blk.alloc HX.out.2.2.2.1 _
      have E4 : FB (wr.alloc (.cells #[.int .i64 0, .int .i64 0, .int .i64 0] 33)) wr.heap.size 0 0 0 := Blk.new _ _ _
      have hlt : w.heap.size + 2 < wr.heap.size := Blk.lt HX.out.2.1
      go_upto_region 6 with fail
      generalize wr.alloc (.cells #[.int .i64 0, .int .i64 0, .int .i64 0] 33) = w3 at I4 D4 C4 F4 E4 ⊢
      generalize wr.heap.size = q7 at hlt E4 ⊢
      have HS0 := smpC I4.from_ HX.out.2.2.2.2.1 HH.out.2 HH.out.1 HX.out.2.2.2.2.2.1
      unfold PartPost smpNo smpYes ftV ft0 at HS0
      have HS := Lib.hid HS0
      have HB := Lib.hid (And.intro I4 (And.intro D4 (And.intro C4 (And.intro F4 E4))))
      clear HS0 I4 D4 C4 F4 E4
      have h2q : w.heap.size + 2 ≠ q7 := by omega
      have hq2 : q7 ≠ w.heap.size + 2 := by omega
      go_upto_region 7 with (go_at_call 79; refine HS.out.mono ?_; rintro e w5 ⟨y5, yb5, hor⟩; have T5 : Turn [p, g, q] w3 w5 := hor.elim (fun ⟨_, _, _, _, _, L, _⟩ => L.2.2) (fun ⟨_, _, _, I, _⟩ => I.T); have D5 : CB w5 (w.heap.size + 2) (u0.toNat : Int) 0 0 255 := Blk.turn HB.out.2.1 T5 (by simp only [List.mem_cons, List.not_mem_nil, or_false, not_or]; omega); have E5 : FB w5 q7 0 0 0 := FB.turn HB.out.2.2.2.2 T5 (by simp only [List.mem_cons, List.not_mem_nil, or_false, not_or]; omega); obtain ⟨e0, e1, e2, ez0, ez1, ez2, el⟩ := FB.all E5; have d0 := CB.c0 D5; have d1 := CB.c1 D5; have d2 := CB.c2 D5; have d3 := CB.c3 D5; have dz0 := Blk.frozen D5 0; have dz1 := Blk.frozen D5 1; have dz2 := Blk.frozen D5 2; have dz3 := Blk.frozen D5 3; have dl := Blk.lt D5; rcases hor with ⟨kk, aa, hk, yok, rfl, L3, run⟩ | ⟨⟨v, a'⟩, rfl, ha', I3, yr, run⟩)
      · have C5 : CB w5 w.heap.size 0 0 0 0 := Blk.turn HB.out.2.2.1 T5 (by simp only [List.mem_cons, List.not_mem_nil, or_false, not_or]; omega)
        have F5 : FB w5 (w.heap.size + 1) 0 0 0 := FB.turn HB.out.2.2.2.1 T5 (by simp only [List.mem_cons, List.not_mem_nil, or_false, not_or]; omega)
        have HR := Lib.hid (And.intro run (And.intro hk (And.intro yok yb5)))
        have HL := Lib.hid (And.intro L3.1 (And.intro L3.2.1 (HB.out.1.T.trans L3.2.2)))
        have HU := Lib.hid (And.intro D5 (And.intro E5 (And.intro C5 F5)))
        have hki : ((kk : Int) != 0) = true := bne_iff_ne.2 (by omega)
        clear d0 d1 d2 d3 dz0 dz1 dz2 dz3 dl e0 e1 e2 ez0 ez1 ez2 el D5 E5 C5 F5 run hk yok yb5 L3 T5
        refine pwp_gen (w := (st3 (w5.setCell ⟨w.heap.size + 2, 1, none⟩ (.int .u8 0)) q7 (.int .i64 (kk : Int)) (.int .i64 3) (.int .i64 (aa : Int)))) (S := fun wx => Hid (CB wx (w.heap.size + 2) (u0.toNat : Int) 0 0 255 ∧ CB wx w.heap.size 0 0 0 0 ∧ FB wx (w.heap.size + 1) 0 0 0 ∧ FB wx q7 (kk : Int) 3 (aa : Int) ∧ LedAt wx g y5 ∧ SclA wx q h.M av ∧ Turn [p, g, q] w wx)) (Lib.hid ⟨Blk.st3 (CB.set_ HU.out.1 (by simp [colC])) h2q, Blk.st3 (Blk.far HU.out.2.2.1 (p := ⟨w.heap.size + 2, 1, none⟩) (show w.heap.size ≠ w.heap.size + 2 by omega) _) (by omega), Blk.st3 (Blk.far HU.out.2.2.2 (p := ⟨w.heap.size + 2, 1, none⟩) (show w.heap.size + 1 ≠ w.heap.size + 2 by omega) _) (by omega), FB.st3 (Blk.far HU.out.2.1 (p := ⟨w.heap.size + 2, 1, none⟩) hq2 _), Blk.st3 (Blk.far HL.out.1 (p := ⟨w.heap.size + 2, 1, none⟩) (show g ≠ w.heap.size + 2 by omega) _) (by omega), (HL.out.2.1.turn (S := [w.heap.size + 2]) (w' := w5.setCell ⟨w.heap.size + 2, 1, none⟩ (.int .u8 0)) ((Turn.refl _ _).set_ 1 _ (.inl (by simp))) (by simp; omega) (fun i hi => by simp only [List.mem_cons, List.not_mem_nil, or_false] at hi; subst hi; exact .inr ⟨_, _, HU.out.1, by decide⟩)).st3 (k := 0) (f := 0) (i := 0) (Blk.far HU.out.2.1 (p := ⟨w.heap.size + 2, 1, none⟩) hq2 _) (by omega), Turn.st3 (HL.out.2.2.set_ 1 _ (.inr (by omega))) (.inr (by omega))⟩) (fun wx hX => ?_)
        have D6 := hX.out.1
        have C4 := hX.out.2.1
        have F4 := hX.out.2.2.1
        have E6 := hX.out.2.2.2.1
        obtain ⟨f0, f1, f2, z0, z1, z2, fl⟩ := FB.all F4
        obtain ⟨e0, e1, e2, ez0, ez1, ez2, el⟩ := FB.all E6
        have d0 := CB.c0 D6
        have d1 := CB.c1 D6
        have d2 := CB.c2 D6
        have d3 := CB.c3 D6
        have r0 := CB.c0 C4
        have r1 := CB.c1 C4
        have r2 := CB.c2 C4
        have r3 := CB.c3 C4
        have rz0 := Blk.frozen C4 0
        have rz1 := Blk.frozen C4 1
        have rz2 := Blk.frozen C4 2
        have rz3 := Blk.frozen C4 3
        have rl := Blk.lt C4
        have hcd : w.heap.size ≠ w.heap.size + 2 := by omega
        have hcf : w.heap.size ≠ w.heap.size + 1 := by omega
        have hfd : w.heap.size + 1 ≠ w.heap.size + 2 := by omega
        have hcq : w.heap.size ≠ q7 := by omega
        have hfq : w.heap.size + 1 ≠ q7 := by omega
        have hcd' := hcd.symm
        have hcf' := hcf.symm
        have hfd' := hfd.symm
        have hcq' := hcq.symm
        have hfq' := hfq.symm
        go_upto_region 8 with fail
        go_region
        all_goals go_wp2_with fail
        have C5 : CB (st3 (st4 wx w.heap.size (u0.toNat : Int) 0 0 255) (w.heap.size + 1) (.int .i64 (kk : Int)) (.int .i64 3) (.int .i64 (aa : Int))).drew w.heap.size (u0.toNat : Int) 0 0 255 := Blk.drew (Blk.st3 (CB.store C4) hcf)
        have F5 : FB (st3 (st4 wx w.heap.size (u0.toNat : Int) 0 0 255) (w.heap.size + 1) (.int .i64 (kk : Int)) (.int .i64 3) (.int .i64 (aa : Int))).drew (w.heap.size + 1) (kk : Int) 3 (aa : Int) := Blk.drew (FB.st3 (F4.st4 hcf'))
        obtain ⟨k0, k1, k2, _⟩ := FB.all F5
        have k3 := CB.c0 C5
        have k4 := CB.c1 C5
        have k5 := CB.c2 C5
        have k6 := CB.c3 C5
        change bodyPost _ _ _ _ _ (st3 (st4 wx w.heap.size (u0.toNat : Int) 0 0 255) (w.heap.size + 1) (.int .i64 (kk : Int)) (.int .i64 3) (.int .i64 (aa : Int))).drew
        exact bodyPost_ret (v := .tuple #[.agg #[.int .u8 (u0.toNat : Int), .int .u8 0, .int .u8 0, .int .u8 255], .agg #[.int .i64 (kk : Int), .int .i64 3, .int .i64 (aa : Int)]]) (by simp [results, Tryz.results59, go_sem, k0, k1, k2, k3, k4, k5, k6]) rfl ⟨y5, HR.out.2.2.2.trans HX.out.2.2.2.2.2.2.1, .inl ⟨kk, aa, (u0.toNat : Int), 0, 0, 255, HR.out.2.1, HR.out.2.2.1, rfl, ⟨Blk.drew (Blk.st3 (Blk.st4 hX.out.2.2.2.2.1 (by omega)) (by omega)), ((hX.out.2.2.2.2.2.1.st4 C4 (by omega)).st3 (F4.st4 hcf') (by omega)).drew, (Turn.st3 (Turn.st4 hX.out.2.2.2.2.2.2 (.inr (Nat.le_refl _))) (.inr (by omega))).drew⟩, fun z k => by rw [HX.out.2.2.2.2.2.2.2]; exact HR.out.1 z _⟩⟩
      · have C5 : CB w5 w.heap.size 0 0 0 0 := Blk.turn HB.out.2.2.1 T5 (by simp only [List.mem_cons, List.not_mem_nil, or_false, not_or]; omega)
        have F5 : FB w5 (w.heap.size + 1) 0 0 0 := FB.turn HB.out.2.2.2.1 T5 (by simp only [List.mem_cons, List.not_mem_nil, or_false, not_or]; omega)
        have HR := Lib.hid (And.intro run (And.intro ha' (And.intro yr yb5)))
        have I5 := I3.to_ HB.out.1.T
        have HU := Lib.hid (And.intro D5 (And.intro E5 (And.intro C5 (And.intro F5 I5))))
        clear d0 d1 d2 d3 dz0 dz1 dz2 dz3 dl e0 e1 e2 ez0 ez1 ez2 el D5 E5 C5 F5 run ha' yr yb5 I3 I5 T5
        refine pwp_gen (w := (st3 (w5.setCell ⟨w.heap.size + 2, 1, none⟩ (.int .u8 (v.toNat : Int))) q7 (.int .i64 0) (.int .i64 0) (.int .i64 0))) (S := fun wx => Hid (CB wx (w.heap.size + 2) (u0.toNat : Int) (v.toNat : Int) 0 255 ∧ CB wx w.heap.size 0 0 0 0 ∧ FB wx (w.heap.size + 1) 0 0 0 ∧ FB wx q7 0 0 0 ∧ TXI w wx p g x q s h av a' y5)) (Lib.hid ⟨Blk.st3 (CB.set_ HU.out.1 (by simp [colC])) h2q, Blk.st3 (Blk.far HU.out.2.2.1 (p := ⟨w.heap.size + 2, 1, none⟩) (show w.heap.size ≠ w.heap.size + 2 by omega) _) (by omega), Blk.st3 (Blk.far HU.out.2.2.2.1 (p := ⟨w.heap.size + 2, 1, none⟩) (show w.heap.size + 1 ≠ w.heap.size + 2 by omega) _) (by omega), FB.st3 (Blk.far HU.out.2.1 (p := ⟨w.heap.size + 2, 1, none⟩) hq2 _), TXI.own (TXI.own HU.out.2.2.2.2 HU.out.1 (by omega) ((Turn.refl _ _).set_ 1 _ (.inl (by simp))) (by decide) (by decide) (by decide) (by decide) (by decide)) (Blk.far HU.out.2.1 (p := ⟨w.heap.size + 2, 1, none⟩) hq2 _) (by omega) (Turn.st3 (Turn.refl _ _) (.inl (by simp))) (by decide) (by decide) (by decide) (by decide) (by decide)⟩) (fun wx hX => ?_)
        obtain ⟨e0, e1, e2, ez0, ez1, ez2, el⟩ := FB.all hX.out.2.2.2.1
        go_wp2_with fail
        go_roundg 1
        case measure => decide
        case rel => exact .inr (.inr (.inl ⟨rfl, rfl, a', y5, u0, v, Lib.hid ⟨hX.out.2.2.2.2, hX.out.1, hX.out.2.1, hX.out.2.2.1, HR.out.2.1, HR.out.2.2.1, HR.out.2.2.2.trans HX.out.2.2.2.2.2.2.1, fun z k => by rw [HX.out.2.2.2.2.2.2.2]; exact HR.out.1 z _⟩⟩))
    · skip
      have I4 := HX.out.1.alloc (.cells #[.int .i64 0, .int .i64 0, .int .i64 0] 33)
      have D4 : CB (wr.alloc (.cells #[.int .i64 0, .int .i64 0, .int .i64 0] 33)) (w.heap.size + 2) (u0.toNat : Int) (u1.toNat : Int) 0 255 := Blk.alloc HX.out.2.1 _
      have C4 : CB (wr.alloc (.cells #[.int .i64 0, .int .i64 0, .int .i64 0] 33)) w.heap.size 0 0 0 0 := Blk.alloc HX.out.2.2.1 _
      have F4 : FB (wr.alloc (.cells #[.int .i64 0, .int .i64 0, .int .i64 0] 33)) (w.heap.size + 1) 0 0 0 := Blk.alloc HX.out.2.2.2.1 _
      have E4 : FB (wr.alloc (.cells #[.int .i64 0, .int .i64 0, .int .i64 0] 33)) wr.heap.size 0 0 0 := Blk.new _ _ _
      have hlt : w.heap.size + 2 < wr.heap.size := Blk.lt HX.out.2.1
      go_upto_region 6 with fail
      generalize wr.alloc (.cells #[.int .i64 0, .int .i64 0, .int .i64 0] 33) = w3 at I4 D4 C4 F4 E4 ⊢
      generalize wr.heap.size = q7 at hlt E4 ⊢
      have HS0 := smpC I4.from_ HX.out.2.2.2.2.1 HH.out.2 HH.out.1 HX.out.2.2.2.2.2.1
      unfold PartPost smpNo smpYes ftV ft0 at HS0
      have HS := Lib.hid HS0
      have HB := Lib.hid (And.intro I4 (And.intro D4 (And.intro C4 (And.intro F4 E4))))
      clear HS0 I4 D4 C4 F4 E4
      have h2q : w.heap.size + 2 ≠ q7 := by omega
      have hq2 : q7 ≠ w.heap.size + 2 := by omega
      go_upto_region 7 with (go_at_call 79; refine HS.out.mono ?_; rintro e w5 ⟨y5, yb5, hor⟩; have T5 : Turn [p, g, q] w3 w5 := hor.elim (fun ⟨_, _, _, _, _, L, _⟩ => L.2.2) (fun ⟨_, _, _, I, _⟩ => I.T); have D5 : CB w5 (w.heap.size + 2) (u0.toNat : Int) (u1.toNat : Int) 0 255 := Blk.turn HB.out.2.1 T5 (by simp only [List.mem_cons, List.not_mem_nil, or_false, not_or]; omega); have E5 : FB w5 q7 0 0 0 := FB.turn HB.out.2.2.2.2 T5 (by simp only [List.mem_cons, List.not_mem_nil, or_false, not_or]; omega); obtain ⟨e0, e1, e2, ez0, ez1, ez2, el⟩ := FB.all E5; have d0 := CB.c0 D5; have d1 := CB.c1 D5; have d2 := CB.c2 D5; have d3 := CB.c3 D5; have dz0 := Blk.frozen D5 0; have dz1 := Blk.frozen D5 1; have dz2 := Blk.frozen D5 2; have dz3 := Blk.frozen D5 3; have dl := Blk.lt D5; rcases hor with ⟨kk, aa, hk, yok, rfl, L3, run⟩ | ⟨⟨v, a'⟩, rfl, ha', I3, yr, run⟩)
      · have C5 : CB w5 w.heap.size 0 0 0 0 := Blk.turn HB.out.2.2.1 T5 (by simp only [List.mem_cons, List.not_mem_nil, or_false, not_or]; omega)
        have F5 : FB w5 (w.heap.size + 1) 0 0 0 := FB.turn HB.out.2.2.2.1 T5 (by simp only [List.mem_cons, List.not_mem_nil, or_false, not_or]; omega)
        have HR := Lib.hid (And.intro run (And.intro hk (And.intro yok yb5)))
        have HL := Lib.hid (And.intro L3.1 (And.intro L3.2.1 (HB.out.1.T.trans L3.2.2)))
        have HU := Lib.hid (And.intro D5 (And.intro E5 (And.intro C5 F5)))
        have hki : ((kk : Int) != 0) = true := bne_iff_ne.2 (by omega)
        clear d0 d1 d2 d3 dz0 dz1 dz2 dz3 dl e0 e1 e2 ez0 ez1 ez2 el D5 E5 C5 F5 run hk yok yb5 L3 T5
        refine pwp_gen (w := (st3 (w5.setCell ⟨w.heap.size + 2, 2, none⟩ (.int .u8 0)) q7 (.int .i64 (kk : Int)) (.int .i64 3) (.int .i64 (aa : Int)))) (S := fun wx => Hid (CB wx (w.heap.size + 2) (u0.toNat : Int) (u1.toNat : Int) 0 255 ∧ CB wx w.heap.size 0 0 0 0 ∧ FB wx (w.heap.size + 1) 0 0 0 ∧ FB wx q7 (kk : Int) 3 (aa : Int) ∧ LedAt wx g y5 ∧ SclA wx q h.M av ∧ Turn [p, g, q] w wx)) (Lib.hid ⟨Blk.st3 (CB.set_ HU.out.1 (by simp [colC])) h2q, Blk.st3 (Blk.far HU.out.2.2.1 (p := ⟨w.heap.size + 2, 2, none⟩) (show w.heap.size ≠ w.heap.size + 2 by omega) _) (by omega), Blk.st3 (Blk.far HU.out.2.2.2 (p := ⟨w.heap.size + 2, 2, none⟩) (show w.heap.size + 1 ≠ w.heap.size + 2 by omega) _) (by omega), FB.st3 (Blk.far HU.out.2.1 (p := ⟨w.heap.size + 2, 2, none⟩) hq2 _), Blk.st3 (Blk.far HL.out.1 (p := ⟨w.heap.size + 2, 2, none⟩) (show g ≠ w.heap.size + 2 by omega) _) (by omega), (HL.out.2.1.turn (S := [w.heap.size + 2]) (w' := w5.setCell ⟨w.heap.size + 2, 2, none⟩ (.int .u8 0)) ((Turn.refl _ _).set_ 2 _ (.inl (by simp))) (by simp; omega) (fun i hi => by simp only [List.mem_cons, List.not_mem_nil, or_false] at hi; subst hi; exact .inr ⟨_, _, HU.out.1, by decide⟩)).st3 (k := 0) (f := 0) (i := 0) (Blk.far HU.out.2.1 (p := ⟨w.heap.size + 2, 2, none⟩) hq2 _) (by omega), Turn.st3 (HL.out.2.2.set_ 2 _ (.inr (by omega))) (.inr (by omega))⟩) (fun wx hX => ?_)
        have D6 := hX.out.1
        have C4 := hX.out.2.1
        have F4 := hX.out.2.2.1
        have E6 := hX.out.2.2.2.1
        obtain ⟨f0, f1, f2, z0, z1, z2, fl⟩ := FB.all F4
        obtain ⟨e0, e1, e2, ez0, ez1, ez2, el⟩ := FB.all E6
        have d0 := CB.c0 D6
        have d1 := CB.c1 D6
        have d2 := CB.c2 D6
        have d3 := CB.c3 D6
        have r0 := CB.c0 C4
        have r1 := CB.c1 C4
        have r2 := CB.c2 C4
        have r3 := CB.c3 C4
        have rz0 := Blk.frozen C4 0
        have rz1 := Blk.frozen C4 1
        have rz2 := Blk.frozen C4 2
        have rz3 := Blk.frozen C4 3
        have rl := Blk.lt C4
        have hcd : w.heap.size ≠ w.heap.size + 2 := by omega
        have hcf : w.heap.size ≠ w.heap.size + 1 := by omega
        have hfd : w.heap.size + 1 ≠ w.heap.size + 2 := by omega
        have hcq : w.heap.size ≠ q7 := by omega
        have hfq : w.heap.size + 1 ≠ q7 := by omega
        have hcd' := hcd.symm
        have hcf' := hcf.symm
        have hfd' := hfd.symm
        have hcq' := hcq.symm
        have hfq' := hfq.symm
        go_upto_region 8 with fail
        go_region
        all_goals go_wp2_with fail
        have C5 : CB (st3 (st4 wx w.heap.size (u0.toNat : Int) (u1.toNat : Int) 0 255) (w.heap.size + 1) (.int .i64 (kk : Int)) (.int .i64 3) (.int .i64 (aa : Int))).drew w.heap.size (u0.toNat : Int) (u1.toNat : Int) 0 255 := Blk.drew (Blk.st3 (CB.store C4) hcf)
        have F5 : FB (st3 (st4 wx w.heap.size (u0.toNat : Int) (u1.toNat : Int) 0 255) (w.heap.size + 1) (.int .i64 (kk : Int)) (.int .i64 3) (.int .i64 (aa : Int))).drew (w.heap.size + 1) (kk : Int) 3 (aa : Int) := Blk.drew (FB.st3 (F4.st4 hcf'))
        obtain ⟨k0, k1, k2, _⟩ := FB.all F5
        have k3 := CB.c0 C5
        have k4 := CB.c1 C5
        have k5 := CB.c2 C5
        have k6 := CB.c3 C5
        change bodyPost _ _ _ _ _ (st3 (st4 wx w.heap.size (u0.toNat : Int) (u1.toNat : Int) 0 255) (w.heap.size + 1) (.int .i64 (kk : Int)) (.int .i64 3) (.int .i64 (aa : Int))).drew
        exact bodyPost_ret (v := .tuple #[.agg #[.int .u8 (u0.toNat : Int), .int .u8 (u1.toNat : Int), .int .u8 0, .int .u8 255], .agg #[.int .i64 (kk : Int), .int .i64 3, .int .i64 (aa : Int)]]) (by simp [results, Tryz.results59, go_sem, k0, k1, k2, k3, k4, k5, k6]) rfl ⟨y5, HR.out.2.2.2.trans HX.out.2.2.2.2.2.2.1, .inl ⟨kk, aa, (u0.toNat : Int), (u1.toNat : Int), 0, 255, HR.out.2.1, HR.out.2.2.1, rfl, ⟨Blk.drew (Blk.st3 (Blk.st4 hX.out.2.2.2.2.1 (by omega)) (by omega)), ((hX.out.2.2.2.2.2.1.st4 C4 (by omega)).st3 (F4.st4 hcf') (by omega)).drew, (Turn.st3 (Turn.st4 hX.out.2.2.2.2.2.2 (.inr (Nat.le_refl _))) (.inr (by omega))).drew⟩, fun z k => by rw [HX.out.2.2.2.2.2.2.2]; exact HR.out.1 z _⟩⟩
      · have C5 : CB w5 w.heap.size 0 0 0 0 := Blk.turn HB.out.2.2.1 T5 (by simp only [List.mem_cons, List.not_mem_nil, or_false, not_or]; omega)
        have F5 : FB w5 (w.heap.size + 1) 0 0 0 := FB.turn HB.out.2.2.2.1 T5 (by simp only [List.mem_cons, List.not_mem_nil, or_false, not_or]; omega)
        have HR := Lib.hid (And.intro run (And.intro ha' (And.intro yr yb5)))
        have I5 := I3.to_ HB.out.1.T
        have HU := Lib.hid (And.intro D5 (And.intro E5 (And.intro C5 (And.intro F5 I5))))
        clear d0 d1 d2 d3 dz0 dz1 dz2 dz3 dl e0 e1 e2 ez0 ez1 ez2 el D5 E5 C5 F5 run ha' yr yb5 I3 I5 T5
        refine pwp_gen (w := (st3 (w5.setCell ⟨w.heap.size + 2, 2, none⟩ (.int .u8 (v.toNat : Int))) q7 (.int .i64 0) (.int .i64 0) (.int .i64 0))) (S := fun wx => Hid (CB wx (w.heap.size + 2) (u0.toNat : Int) (u1.toNat : Int) (v.toNat : Int) 255 ∧ CB wx w.heap.size 0 0 0 0 ∧ FB wx (w.heap.size + 1) 0 0 0 ∧ FB wx q7 0 0 0 ∧ TXI w wx p g x q s h av a' y5)) (Lib.hid ⟨Blk.st3 (CB.set_ HU.out.1 (by simp [colC])) h2q, Blk.st3 (Blk.far HU.out.2.2.1 (p := ⟨w.heap.size + 2, 2, none⟩) (show w.heap.size ≠ w.heap.size + 2 by omega) _) (by omega), Blk.st3 (Blk.far HU.out.2.2.2.1 (p := ⟨w.heap.size + 2, 2, none⟩) (show w.heap.size + 1 ≠ w.heap.size + 2 by omega) _) (by omega), FB.st3 (Blk.far HU.out.2.1 (p := ⟨w.heap.size + 2, 2, none⟩) hq2 _), TXI.own (TXI.own HU.out.2.2.2.2 HU.out.1 (by omega) ((Turn.refl _ _).set_ 2 _ (.inl (by simp))) (by decide) (by decide) (by decide) (by decide) (by decide)) (Blk.far HU.out.2.1 (p := ⟨w.heap.size + 2, 2, none⟩) hq2 _) (by omega) (Turn.st3 (Turn.refl _ _) (.inl (by simp))) (by decide) (by decide) (by decide) (by decide) (by decide)⟩) (fun wx hX => ?_)
        obtain ⟨e0, e1, e2, ez0, ez1, ez2, el⟩ := FB.all hX.out.2.2.2.1
        go_wp2_with fail
        go_roundg 0
        case measure => decide
        case rel => exact .inr (.inr (.inr ⟨rfl, rfl, a', y5, u0, u1, v, Lib.hid ⟨hX.out.2.2.2.2, hX.out.1, hX.out.2.1, hX.out.2.2.1, HR.out.2.1, HR.out.2.2.1, HR.out.2.2.2.trans HX.out.2.2.2.2.2.2.1, fun z k => by rw [HX.out.2.2.2.2.2.2.2]; exact HR.out.1 z _⟩⟩))
    · skip
      have D6 := HX.out.2.1
      have C4 := HX.out.2.2.1
      have F4 := HX.out.2.2.2.1
      obtain ⟨f0, f1, f2, z0, z1, z2, fl⟩ := FB.all F4
      have d0 := CB.c0 D6
      have d1 := CB.c1 D6
      have d2 := CB.c2 D6
      have d3 := CB.c3 D6
      have r0 := CB.c0 C4
      have r1 := CB.c1 C4
      have r2 := CB.c2 C4
      have r3 := CB.c3 C4
      have rz0 := Blk.frozen C4 0
      have rz1 := Blk.frozen C4 1
      have rz2 := Blk.frozen C4 2
      have rz3 := Blk.frozen C4 3
      have rl := Blk.lt C4
      have hcf : w.heap.size ≠ w.heap.size + 1 := by omega
      have hcf' := hcf.symm
      go_wp2_with fail
      have C5 : CB (st3 (st4 wr w.heap.size (u0.toNat : Int) (u1.toNat : Int) (u2.toNat : Int) 255) (w.heap.size + 1) (.int .i64 0) (.int .i64 0) (.int .i64 0)) w.heap.size (u0.toNat : Int) (u1.toNat : Int) (u2.toNat : Int) 255 := Blk.st3 (CB.store C4) hcf
      have F5 : FB (st3 (st4 wr w.heap.size (u0.toNat : Int) (u1.toNat : Int) (u2.toNat : Int) 255) (w.heap.size + 1) (.int .i64 0) (.int .i64 0) (.int .i64 0)) (w.heap.size + 1) 0 0 0 := FB.st3 (F4.st4 hcf')
      obtain ⟨k0, k1, k2, _⟩ := FB.all F5
      have k3 := CB.c0 C5
      have k4 := CB.c1 C5
      have k5 := CB.c2 C5
      have k6 := CB.c3 C5
      change bodyPost _ _ _ _ _ (st3 (st4 wr w.heap.size (u0.toNat : Int) (u1.toNat : Int) (u2.toNat : Int) 255) (w.heap.size + 1) (.int .i64 0) (.int .i64 0) (.int .i64 0))
      exact bodyPost_ret (v := .tuple #[(col3 [u0, u1, u2]).v, .agg #[.int .i64 0, .int .i64 0, .int .i64 0]]) (by simp [results, Tryz.results59, go_sem, col3, Qc.v, k0, k1, k2, k3, k4, k5, k6]) rfl ⟨y2, HX.out.2.2.2.2.2.2.1, .inr ⟨col3 [u0, u1, u2], a2, rfl, HX.out.2.2.2.2.1, TXI.own (TXI.own HX.out.1 C4 (Nat.le_refl _) (Turn.st4 (Turn.refl _ _) (.inl (by simp))) (by decide) (by decide) (by decide) (by decide) (by decide)) (F4.st4 hcf') (by omega) (Turn.st3 (Turn.refl _ _) (.inl (by simp))) (by decide) (by decide) (by decide) (by decide) (by decide), HX.out.2.2.2.2.2.1, fun z k => by rw [HX.out.2.2.2.2.2.2.2]; rfl⟩⟩
end Go.Proofs.YthljhebbblhakaaGreatDoor
