/- Writing PNM: the document's Write of text. -/
import Derived.Test.YthljhebbblhakaaGreatDoorEWords
import Derived.Test.YthljhebbblhakaaGreatDoorProg
import Derived.WalkKit
import Derived.WalkSpells
import Derived.WalkLawsBesides
import Derived.Lib.Hide
import Derived.Laws.OwnMore
import Derived.Deep.AppendLies
import Derived.Deep.Draws
import Derived.Deep.Onto
import Derived.Deep.AppendSrc
import Derived.Deep.QuietTactic
import Derived.BigQuiet
import Derived.Deep.LoopGhost
import Derived.Deep.CutBlock
import Derived.Deep.DeepCutAuto
import Derived.Deep.Light
import Derived.Deep.RegionWith
import Derived.Test.YthljhebbblhakaaGreatDoorESync
import Derived.Defers
import Derived.Laws.Pointers
import Derived.Laws.LoneSync
import Derived.Laws.NewBlocks
import Derived.RegionTactic
import Derived.RegionCalls
import Derived.ChangeAlike
import Derived.Laws.Rows
import Derived.StillTailTactics
import Derived.Test.YthljhebbblhakaaGreatDoorEBits
import Derived.Laws.BitsAllLaws
import Derived.Laws.BitsLemmas
import Derived.Test.YthljhebbblhakaaGreatDoorEPnmHead
import Derived.Test.YthljhebbblhakaaGreatDoorETok
import Derived.WalkMore
import Derived.ScopeJumps
import Derived.Test.YthljhebbblhakaaGreatDoorEPnmD
import Derived.Test.YthljhebbblhakaaGreatDoorEPnmBst
import Derived.Deep.OwnRows
import Derived.Test.YthljhebbblhakaaGreatDoorEPnmEnc
import Derived.Lib.ItoaNum
import Derived.Test.YthljhebbblhakaaGreatDoorEPnmEnd
import Derived.Test.YthljhebbblhakaaGreatDoorETok2
import Derived.Test.YthljhebbblhakaaGreatDoorETok3
import Derived.Test.YthljhebbblhakaaGreatDoorETok4
import Derived.Test.YthljhebbblhakaaGreatDoorENum
import Derived.Test.YthljhebbblhakaaGreatDoorUPnmW
import Derived.Lib.Mul64
import Derived.Laws.Bits64b
import Derived.Test.YthljhebbblhakaaGreatDoorEBuf
import Derived.Lib.BufferWrite
import Derived.Test.YthljhebbblhakaaGreatDoorERas
import Derived.Test.YthljhebbblhakaaGreatDoorEPnmW
import Derived.Test.YthljhebbblhakaaGreatDoorEPnmKind
import Derived.Test.YthljhebbblhakaaGreatDoorEPnmH
import Derived.Test.YthljhebbblhakaaGreatDoorEPnmStage
import Derived.Test.YthljhebbblhakaaGreatDoorEPnmR
import Derived.Test.YthljhebbblhakaaGreatDoorEPnmR2
import Derived.Test.YthljhebbblhakaaGreatDoorEPnmHd
import Derived.Test.YthljhebbblhakaaGreatDoorEOpenInts
import Derived.ProofKit
import Derived.OpenShut
import Derived.Deep.Slices
import Derived.Test.YthljhebbblhakaaGreatDoorEScaler
import Derived.Test.YthljhebbblhakaaGreatDoorEFfRef3
import Derived.Test.YthljhebbblhakaaGreatDoorUFfD
import Derived.Deep.RegionHeld3
import Derived.ArgAppend
import Derived.Lib.SlBytesConst
import Derived.Deep.RegionLaw
import Derived.Test.YthljhebbblhakaaGreatDoorEFfM
import Derived.Lib.ConvBytes
import Derived.Lib.SliceRun
import Derived.BigRegion
import Derived.Deep.Fields
import Derived.ChangeSame
import Derived.Lib.SmallJoins
import Derived.Test.YthljhebbblhakaaGreatDoorEPnmWb
import Derived.Test.YthljhebbblhakaaGreatDoorPnmShelf
import Derived.Lib.AppendIntMem
import Derived.Test.YthljhebbblhakaaGreatDoorEPnmWc
import Derived.Test.YthljhebbblhakaaGreatDoorETgaKm
import Derived.Test.YthljhebbblhakaaGreatDoorEPnmWd
import Derived.Test.YthljhebbblhakaaGreatDoorEPnmDocs
import Derived.Test.YthljhebbblhakaaGreatDoorUPnmT
import Derived.Test.YthljhebbblhakaaGreatDoorEPnmWg
import Derived.Test.YthljhebbblhakaaGreatDoorUPnmUm
import Derived.Lib.ItoaMem
import Derived.CellFam
import Derived.Test.YthljhebbblhakaaGreatDoorEPnmWh
import Derived.Test.YthljhebbblhakaaGreatDoorUPnmUc
namespace Go.Proofs.YthljhebbblhakaaGreatDoor
open Go.RowKit
set_option linter.unusedVariables false
set_option linter.unusedSimpArgs false

/-- a text's bytes -/
def TxtIs (S : ByteArray) (l : List UInt8) : Prop := S.data.toList = l
theorem TxtIs.size {S : ByteArray} {l : List UInt8} (h : TxtIs S l) : S.size = l.length := by
  unfold TxtIs at h
  rw [← h, Array.length_toList]
  rfl
theorem TxtIs.add {S T : ByteArray} {l m : List UInt8} (h : TxtIs S l) (h2 : TxtIs T m) : TxtIs (S ++ T) (l ++ m) := by
  unfold TxtIs at h h2 ⊢
  rw [ByteArray.data_append, Array.toList_append, h, h2]
theorem TxtIs.is {S : ByteArray} {l : List UInt8} (h : TxtIs S l) : S = strOf l := by
  unfold TxtIs at h
  unfold strOf
  rw [← h]
theorem txt_dec (n : Nat) : TxtIs (dec n) (dg n) := by unfold TxtIs dec dg; simp
theorem add_run {S T : ByteArray} {l m : List UInt8} (h : TxtIs S l) (h2 : TxtIs T m) (hs : l.length + m.length ≤ 4611686018427387904) (w : World) : (Op.stringOp .add S T).run Tryz.prog w = .ok (.string (S ++ T)) w := run_string_add_sum w S T (by rw [h.size, h2.size]; omega)
theorem text_small3 {K W H y x : Nat} {l : List UInt8} (hK : K = 1 ∨ K = 2 ∨ K = 3) (hW : W ≤ 4000) (hH : H ≤ 4000) (hx : x ≤ W) : (hdrL K W H ++ encRows K ((rowsOf l W H).take y) ++ rowT K ((rowOf l W y).take x)).length ≤ 110000000000 := Nat.le_of_lt (text_part hK hW hH hx)
theorem rowT_next {K x : Nat} {L : List Qc} {q : Qc} (h : L[x]? = some q) : rowT K (L.take (x + 1)) = rowT K (L.take x) ++ (if x = 0 then (pxT K 10 q).tail else pxT K 32 q) := by
  rw [List.take_add_one, h]
  have hl := (List.getElem?_eq_some_iff.1 h).1
  cases x with
  | zero => simp [rowT]
  | succ x =>
    rw [if_neg (by omega)]
    cases L with
    | nil => simp at hl
    | cons p L => simp [rowT]
set_option maxRecDepth 100000 in
set_option maxHeartbeats 8000000 in
theorem refText_1 {K : Nat} (hK : K = 1) {W H n c : Nat} {a : Option Addr} {l : List UInt8} {w : World} (hr : RightP (W : Int) (H : Int) n) (hl : n = l.length) (hnc : n ≤ c) (hb : BytesAt w a n l) (hWb : W ≤ 4000) (hHb : H ≤ 4000) : Calls Tryz.prog 10 #[.agg #[.int .i64 (W : Int), .int .i64 (H : Int), .slice a n c], .int .i64 (K : Int)] w fun e w' => Below w.heap.size w w' ∧ e = .returned (.string (strOf (encL K W H l))) := by
  have hW := hr.1
  have hH := hr.2.1
  have hK4b : ¬ (1 : Int) < (K : Int) := by omega
  have hKa : ((K : Int) == 1) = true := by subst hK; rfl
  have hKb : ((K : Int) == 2) = false := by subst hK; rfl
  have hKt : K ≤ 3 := by omega
  have HK3 : Hid (K = 1 ∨ K = 2 ∨ K = 3) := Lib.hid (by omega)
  have HK14 : Hid (K = 1) := Lib.hid hK
  have HP := Lib.hid (fun (X Y : Nat) (hX : X < W) (hY : Y < H) => (px_both (a := a) hr hl hnc hX hY).2)
  have HBY := Lib.hid hb
  have HIT1 := Lib.hid (refDigitsC K (by omega))
  have HIT2 := Lib.hid (refDigitsC W (by omega))
  have HIT3 := Lib.hid (refDigitsC H (by omega))
  have W1 : WiI w (w.alloc (.cells #[.int .i64 (W : Int), .int .i64 (H : Int), .slice a n c] 24)) W H n c a l := WiI.new hb
  have z1 := dec_size K
  have z2 := dec_size W
  have z3 := dec_size H
  have z4 : (⟨#[80]⟩ : ByteArray).size = 1 := rfl
  have z5 : (⟨#[10]⟩ : ByteArray).size = 1 := rfl
  have z6 : (⟨#[32]⟩ : ByteArray).size = 1 := rfl
  obtain ⟨c1, hc1⟩ : ∃ c1, (⟨#[80]⟩ : ByteArray) ++ dec K = c1 := ⟨_, rfl⟩
  have s1 : c1.size = 1 + (dec K).size := by rw [← hc1, ByteArray.size_append, z4]
  have A1 : ∀ w : World, (Op.stringOp .add ⟨#[80]⟩ (dec K)).run Tryz.prog w = .ok (.string c1) w := fun w => by rw [← hc1]; exact run_string_add_sum w _ _ (by omega)
  obtain ⟨c2, hc2⟩ : ∃ c2, c1 ++ ⟨#[10]⟩ = c2 := ⟨_, rfl⟩
  have s2 : c2.size = c1.size + 1 := by rw [← hc2, ByteArray.size_append, z5]
  have A2 : ∀ w : World, (Op.stringOp .add c1 ⟨#[10]⟩).run Tryz.prog w = .ok (.string c2) w := fun w => by rw [← hc2]; exact run_string_add_sum w _ _ (by omega)
  obtain ⟨c3, hc3⟩ : ∃ c3, c2 ++ dec W = c3 := ⟨_, rfl⟩
  have s3 : c3.size = c2.size + (dec W).size := by rw [← hc3, ByteArray.size_append]
  have A3 : ∀ w : World, (Op.stringOp .add c2 (dec W)).run Tryz.prog w = .ok (.string c3) w := fun w => by rw [← hc3]; exact run_string_add_sum w _ _ (by omega)
  obtain ⟨c4, hc4⟩ : ∃ c4, c3 ++ ⟨#[32]⟩ = c4 := ⟨_, rfl⟩
  have s4 : c4.size = c3.size + 1 := by rw [← hc4, ByteArray.size_append, z6]
  have A4 : ∀ w : World, (Op.stringOp .add c3 ⟨#[32]⟩).run Tryz.prog w = .ok (.string c4) w := fun w => by rw [← hc4]; exact run_string_add_sum w _ _ (by omega)
  obtain ⟨c5, hc5⟩ : ∃ c5, c4 ++ dec H = c5 := ⟨_, rfl⟩
  have s5 : c5.size = c4.size + (dec H).size := by rw [← hc5, ByteArray.size_append]
  have A5 : ∀ w : World, (Op.stringOp .add c4 (dec H)).run Tryz.prog w = .ok (.string c5) w := fun w => by rw [← hc5]; exact run_string_add_sum w _ _ (by omega)
  obtain ⟨c6, hc6⟩ : ∃ c6, c5 ++ ⟨#[10]⟩ = c6 := ⟨_, rfl⟩
  have s6 : c6.size = c5.size + 1 := by rw [← hc6, ByteArray.size_append, z5]
  have A6 : ∀ w : World, (Op.stringOp .add c5 ⟨#[10]⟩).run Tryz.prog w = .ok (.string c6) w := fun w => by rw [← hc6]; exact run_string_add_sum w _ _ (by omega)
  have hc6s : c6.size ≤ 1000000 := by omega
  have hc6l : c6.data.toList = hdrA K W H := by rw [← hc6, ← hc5, ← hc4, ← hc3, ← hc2, ← hc1]; exact hdr_text (by omega)
  have HC6 := Lib.hid hc6l
  generalize dec K = dK at A1 s1 HIT1
  generalize dec W = dW at A3 s3 HIT2
  generalize dec H = dH at A5 s5 HIT3
  have hc6l := HC6.out
  clear hr hl hnc hb hc1 hc2 hc3 hc4 hc5 hc6 s1 s2 s3 s4 s5 s6 z1 z2 z3 z4 z5 z6 hc6l hK
  go_enter Tryz.func10, Tryz.ntmps10
  have HI1 := Lib.hid W1
  obtain ⟨i0, i1, i2, z0, z1, z2, il⟩ := IB.all W1.I
  clear i2 z0 z1 z2 il W1
  go_upto_region 1 with fail
  refine wp_region_held_drew (S := fun wx => wx.cell? ⟨w.heap.size, 0, none⟩ = some (.int .i64 (W : Int)) ∧ wx.cell? ⟨w.heap.size, 1, none⟩ = some (.int .i64 (H : Int))) (by kernel_rfl) ⟨i0, i1⟩ (fun hHeld => ?_)
  refine wpAnyH_take (i := 0) (v := ?_) rfl (by kernel_rfl) (by kernel_rfl) (by kernel_rfl) (fun _ _ _ h => h) (Or.inl ⟨by kernel_rfl, ?_⟩) (by assumption) ?_
  rotate_left
  · intro w hSw; obtain ⟨s0, s1⟩ := hSw; go_simp; (try with_reducible rfl)
  (try simp only [Act.put, List.getElem_toArray, List.getElem_cons_succ, List.getElem_cons_zero, List.setIfInBounds_toArray, List.set_cons_zero, List.set_cons_succ])
  refine wpAnyH_take (i := 4) (v := ?_) rfl (by kernel_rfl) (by kernel_rfl) (by kernel_rfl) (fun _ _ _ h => h) (Or.inl ⟨by kernel_rfl, ?_⟩) (by assumption) ?_
  rotate_left
  · intro w hSw; obtain ⟨s0, s1⟩ := hSw; go_simp; (try with_reducible rfl)
  (try simp only [Act.put, List.getElem_toArray, List.getElem_cons_succ, List.getElem_cons_zero, List.setIfInBounds_toArray, List.set_cons_zero, List.set_cons_succ])
  refine wpAnyH_take (i := 5) (v := ?_) rfl (by kernel_rfl) (by kernel_rfl) (by kernel_rfl) (fun _ _ _ h => h) (Or.inl ⟨by kernel_rfl, ?_⟩) (by assumption) ?_
  rotate_left
  · intro w hSw; obtain ⟨s0, s1⟩ := hSw; go_simp; (try with_reducible rfl)
  (try simp only [Act.put, List.getElem_toArray, List.getElem_cons_succ, List.getElem_cons_zero, List.setIfInBounds_toArray, List.set_cons_zero, List.set_cons_succ])
  refine wpAnyH_take (i := 9) (v := ?_) rfl (by kernel_rfl) (by kernel_rfl) (by kernel_rfl) (fun _ _ _ h => h) (Or.inl ⟨by kernel_rfl, ?_⟩) (by assumption) ?_
  rotate_left
  · intro w hSw; obtain ⟨s0, s1⟩ := hSw; go_simp; (try with_reducible rfl)
  (try simp only [Act.put, List.getElem_toArray, List.getElem_cons_succ, List.getElem_cons_zero, List.setIfInBounds_toArray, List.set_cons_zero, List.set_cons_succ])
  refine wpAnyH_take (i := 10) (v := ?_) rfl (by kernel_rfl) (by kernel_rfl) (by kernel_rfl) (fun _ _ _ h => h) (Or.inl ⟨by kernel_rfl, ?_⟩) (by assumption) ?_
  rotate_left
  · intro w hSw; obtain ⟨s0, s1⟩ := hSw; go_simp; (try with_reducible rfl)
  (try simp only [Act.put, List.getElem_toArray, List.getElem_cons_succ, List.getElem_cons_zero, List.setIfInBounds_toArray, List.set_cons_zero, List.set_cons_succ])
  refine wpAnyH_ready (rs := [1]) (by kernel_rfl) (by simp) ?_
  refine AllReadyH.cons rfl (fun K hK => ?_) AllReadyH.nil
  go_simp
  refine (HIT1.out _).mono ?_
  rintro e w'0 ⟨rfl, b0⟩
  have J0 := (HI1.out.drew).below b0
  refine hK.out _ _ (⟨Blk.cell J0.I 0, Blk.cell J0.I 1⟩) (fun hHeld' => ?_)
  clear hK K hHeld
  have hHeld := hHeld'
  clear hHeld'
  (try simp only [Act.put, List.getElem_toArray, List.getElem_cons_succ, List.getElem_cons_zero, List.setIfInBounds_toArray, List.set_cons_zero, List.set_cons_succ])
  refine wpAnyH_take (i := 2) (v := ?_) rfl (by kernel_rfl) (by kernel_rfl) (by kernel_rfl) (fun _ _ _ h => h) (Or.inl ⟨by kernel_rfl, ?_⟩) (by assumption) ?_
  rotate_left
  · intro w hSw; obtain ⟨s0, s1⟩ := hSw; go_simp; (try with_reducible rfl)
  (try simp only [Act.put, List.getElem_toArray, List.getElem_cons_succ, List.getElem_cons_zero, List.setIfInBounds_toArray, List.set_cons_zero, List.set_cons_succ])
  refine wpAnyH_take (i := 3) (v := ?_) rfl (by kernel_rfl) (by kernel_rfl) (by kernel_rfl) (fun _ _ _ h => h) (Or.inl ⟨by kernel_rfl, ?_⟩) (by assumption) ?_
  rotate_left
  · intro w hSw; obtain ⟨s0, s1⟩ := hSw; go_simp; (try with_reducible rfl)
  (try simp only [Act.put, List.getElem_toArray, List.getElem_cons_succ, List.getElem_cons_zero, List.setIfInBounds_toArray, List.set_cons_zero, List.set_cons_succ])
  refine wpAnyH_ready (rs := [6]) (by kernel_rfl) (by simp) ?_
  refine AllReadyH.cons rfl (fun K hK => ?_) AllReadyH.nil
  go_simp
  refine (HIT2.out _).mono ?_
  rintro e w'1 ⟨rfl, b1⟩
  have J1 := (J0).below b1
  refine hK.out _ _ (⟨Blk.cell J1.I 0, Blk.cell J1.I 1⟩) (fun hHeld' => ?_)
  clear hK K hHeld
  have hHeld := hHeld'
  clear hHeld'
  (try simp only [Act.put, List.getElem_toArray, List.getElem_cons_succ, List.getElem_cons_zero, List.setIfInBounds_toArray, List.set_cons_zero, List.set_cons_succ])
  refine wpAnyH_take (i := 7) (v := ?_) rfl (by kernel_rfl) (by kernel_rfl) (by kernel_rfl) (fun _ _ _ h => h) (Or.inl ⟨by kernel_rfl, ?_⟩) (by assumption) ?_
  rotate_left
  · intro w hSw; obtain ⟨s0, s1⟩ := hSw; go_simp; (try with_reducible rfl)
  (try simp only [Act.put, List.getElem_toArray, List.getElem_cons_succ, List.getElem_cons_zero, List.setIfInBounds_toArray, List.set_cons_zero, List.set_cons_succ])
  refine wpAnyH_take (i := 8) (v := ?_) rfl (by kernel_rfl) (by kernel_rfl) (by kernel_rfl) (fun _ _ _ h => h) (Or.inl ⟨by kernel_rfl, ?_⟩) (by assumption) ?_
  rotate_left
  · intro w hSw; obtain ⟨s0, s1⟩ := hSw; go_simp; (try with_reducible rfl)
  (try simp only [Act.put, List.getElem_toArray, List.getElem_cons_succ, List.getElem_cons_zero, List.setIfInBounds_toArray, List.set_cons_zero, List.set_cons_succ])
  refine wpAnyH_ready (rs := [11]) (by kernel_rfl) (by simp) ?_
  refine AllReadyH.cons rfl (fun K hK => ?_) AllReadyH.nil
  go_simp
  refine (HIT3.out _).mono ?_
  rintro e w'2 ⟨rfl, b2⟩
  have J2 := (J1).below b2
  refine hK.out _ _ (⟨Blk.cell J2.I 0, Blk.cell J2.I 1⟩) (fun hHeld' => ?_)
  clear hK K hHeld
  have hHeld := hHeld'
  clear hHeld'
  (try simp only [Act.put, List.getElem_toArray, List.getElem_cons_succ, List.getElem_cons_zero, List.setIfInBounds_toArray, List.set_cons_zero, List.set_cons_succ])
  refine wpAnyH_take (i := 12) (v := ?_) rfl (by kernel_rfl) (by kernel_rfl) (by kernel_rfl) (fun _ _ _ h => h) (Or.inl ⟨by kernel_rfl, ?_⟩) (by assumption) ?_
  rotate_left
  · intro w hSw; obtain ⟨s0, s1⟩ := hSw; go_simp; (try with_reducible rfl)
  (try simp only [Act.put, List.getElem_toArray, List.getElem_cons_succ, List.getElem_cons_zero, List.setIfInBounds_toArray, List.set_cons_zero, List.set_cons_succ])
  refine wpAnyH_take (i := 13) (v := ?_) rfl (by kernel_rfl) (by kernel_rfl) (by kernel_rfl) (fun _ _ _ h => h) (Or.inl ⟨by kernel_rfl, ?_⟩) (by assumption) ?_
  rotate_left
  · intro w hSw; obtain ⟨s0, s1⟩ := hSw; go_simp; (try with_reducible rfl)
  (try simp only [Act.put, List.getElem_toArray, List.getElem_cons_succ, List.getElem_cons_zero, List.setIfInBounds_toArray, List.set_cons_zero, List.set_cons_succ])
  refine wpAnyH_take (i := 14) (v := ?_) rfl (by kernel_rfl) (by kernel_rfl) (by kernel_rfl) (fun _ _ _ h => h) (Or.inl ⟨by kernel_rfl, ?_⟩) (by assumption) ?_
  rotate_left
  · intro w hSw; obtain ⟨s0, s1⟩ := hSw; go_simp; (try with_reducible rfl)
  (try simp only [Act.put, List.getElem_toArray, List.getElem_cons_succ, List.getElem_cons_zero, List.setIfInBounds_toArray, List.set_cons_zero, List.set_cons_succ])
  refine wpAnyH_done (by kernel_rfl) ?_ _
  (try simp only [List.getElem_toArray, List.getElem_cons_succ, List.getElem_cons_zero, List.set_cons_zero, List.set_cons_succ])
  clear hHeld
  clear i0 i1
  have i0 : w'2.cell? ⟨w.heap.size, 0, none⟩ = some (.int .i64 (W : Int)) := Blk.cell J2.I 0
  have i1 : w'2.cell? ⟨w.heap.size, 1, none⟩ = some (.int .i64 (H : Int)) := Blk.cell J2.I 1
  have HS0 : Hid (TxtIs c6 (hdrL K W H ++ encRows K ((rowsOf l W H).take 0))) := Lib.hid (by
    rw [List.take_zero, show encRows K [] = [] from rfl, List.append_nil, HK14.out, ← hdrA_one, ← HK14.out]
    exact HC6.out)
  have HX0 := Lib.hid J2
  clear J0 J1 J2 b0 b1 b2 HI1 HIT1 HIT2 HIT3 A1 A2 A3 A4 A5 A6 hc6s hc6l HC6
  go_upto_region 5 with fail
  (try clear i0 i1)
  go_loopg [5, 6, 7, 8] H (fun gh v5 v6 v7 v8 wr => ∃ (y : Nat) (S : ByteArray), y + gh = H ∧ v6 = .int .i64 (y : Int) ∧ v5 = .string S ∧ Hid (TxtIs S (hdrL K W H ++ encRows K ((rowsOf l W H).take y))) ∧ Hid (WiI w wr W H n c a l))
  case atStart => exact ⟨0, c6, by omega, rfl, rfl, HS0, HX0⟩
  case round =>
    clear HS0 HX0
    obtain ⟨y, S, hy, rfl, rfl, HSS, HX⟩ := hrel
    obtain ⟨i0, i1, i2, z0, z1, z2, il⟩ := IB.all HX.out.I
    by_cases hyH : y < H
    · have hyI : (y : Int) < (H : Int) := by omega
      obtain ⟨m, rfl⟩ : ∃ m, gk = m + 1 := ⟨gk - 1, by omega⟩
      go_upto_region 8 with fail
      clear i0 i1 i2 z0 z1 z2 il
      have HS1 : Hid (TxtIs S (hdrL K W H ++ encRows K ((rowsOf l W H).take y) ++ rowT K ((rowOf l W y).take 0))) := Lib.hid (by rw [List.take_zero, show rowT K [] = [] from rfl, List.append_nil]; exact HSS.out)
      have HX1 := HX
      clear HSS HX
      obtain ⟨wo, hwo⟩ : ∃ wo, wo = wr := ⟨_, rfl⟩
      obtain ⟨So, hSo⟩ : ∃ So, So = S := ⟨_, rfl⟩
      subst hwo
      subst hSo
      go_loopg [5, 7, 8] W (fun gx v5 v7 v8 wx => ∃ (x : Nat) (S : ByteArray), x + gx = W ∧ v7 = .int .i64 (x : Int) ∧ v5 = .string S ∧ Hid (TxtIs S (hdrL K W H ++ encRows K ((rowsOf l W H).take y) ++ rowT K ((rowOf l W y).take x))) ∧ Hid (WiI w wx W H n c a l))
      case atStart => exact ⟨0, _, by omega, rfl, rfl, HS1, HX1⟩
      case round =>
        clear HS1 HX1
        obtain ⟨x, S, hx, rfl, rfl, HSS, HX⟩ := hrel
        obtain ⟨i0, i1, i2, z0, z1, z2, il⟩ := IB.all HX.out.I
        by_cases hxW : x < W
        · have hxI : (x : Int) < (W : Int) := by omega
          obtain ⟨g', rfl⟩ : ∃ g', gk = g' + 1 := ⟨gk - 1, by omega⟩
          have HPX := Lib.hid (HP.out x y hxW hyH _ (HBY.out.below HX.out.B))
          obtain ⟨q, hq⟩ : ∃ q, pcAt l (y * W + x) = q := ⟨_, rfl⟩
          have hrow := row_at (l := l) (W := W) (y := y) hxW
          rw [hq] at HPX hrow
          unfold Qc.v at HPX
          have HRO := Lib.hid hrow
          clear hq hrow
          go_upto_region 11 with (go_at_call 30; refine HPX.out.mono ?_; rintro e w7 ⟨rfl, b7⟩; have HX8 := Lib.hid ((HX.out.below b7).alloc (.cells #[.int .u8 (q.r.toNat : Int), .int .u8 (q.g.toNat : Int), .int .u8 (q.b.toNat : Int), .int .u8 (q.a.toNat : Int)] 48)); have C7 : CB (w7.alloc (.cells #[.int .u8 (q.r.toNat : Int), .int .u8 (q.g.toNat : Int), .int .u8 (q.b.toNat : Int), .int .u8 (q.a.toNat : Int)] 48)) w7.heap.size (q.r.toNat : Int) (q.g.toNat : Int) (q.b.toNat : Int) (q.a.toNat : Int) := Blk.new _ _ _; clear i0 i1 i2 z0 z1 z2 il)
          clear HX HPX b7
          generalize w7.alloc (.cells #[.int .u8 (q.r.toNat : Int), .int .u8 (q.g.toNat : Int), .int .u8 (q.b.toNat : Int), .int .u8 (q.a.toNat : Int)] 48) = w8 at HX8 C7 ⊢
          generalize w7.heap.size = qc at C7 ⊢
          have c0 := C7.c0
          have c1 := C7.c1
          have c2 := C7.c2
          by_cases hx0 : x = 0
          · have hx0I : ¬ (0 : Int) < (x : Int) := by omega
            obtain ⟨S2, hS2⟩ : ∃ S2, S ++ dec (1 - q.r.toNat / 255) = S2 := ⟨_, rfl⟩
            have A2 : ∀ w : World, (Op.stringOp .add S (dec (1 - q.r.toNat / 255))).run Tryz.prog w = .ok (.string S2) w := fun w => by
              rw [← hS2]
              exact add_run HSS.out (txt_dec _) (by have h1 := text_small3 (y := y) (l := l) HK3.out hWb hHb (Nat.le_of_lt hxW); have h2 := dg_le (1 - q.r.toNat / 255); have h3 := q.r.toNat_lt; omega) w
            have HD := Lib.hid (refDigitsC (1 - q.r.toNat / 255) (by have := q.r.toNat_lt; omega))
            have HS2 : Hid (TxtIs S2 (hdrL K W H ++ encRows K ((rowsOf l W H).take y) ++ rowT K ((rowOf l W y).take (x + 1)))) := Lib.hid (by
              have h := HSS.out.add (txt_dec (1 - q.r.toNat / 255))
              rw [hS2] at h
              rw [rowT_next HRO.out, ← List.append_assoc]
              rw [show dg (1 - q.r.toNat / 255) = [UInt8.ofNat (48 + (1 - q.r.toNat / 255))] from dg_small (by have := q.r.toNat_lt; omega)] at h
              rw [HK14.out] at h ⊢
              rw [if_pos hx0]
              simpa [pxT] using h)
            have w1 : IntKind.i64.wrap (q.r.toNat : Int) = (q.r.toNat : Int) := IntWalk.i64_in _ (by have := q.r.toNat_lt; omega)
            have w4 : IntKind.i64.wrap ((q.r.toNat : Int) / 255) = (q.r.toNat : Int) / 255 := IntWalk.i64_in _ (by have := q.r.toNat_lt; omega)
            have w5' : IntKind.i64.wrap (1 - (q.r.toNat : Int) / 255) = ((1 - q.r.toNat / 255 : Nat) : Int) := by rw [show 1 - (q.r.toNat : Int) / 255 = ((1 - q.r.toNat / 255 : Nat) : Int) by have := q.r.toNat_lt; omega]; exact IntWalk.i64_in _ (by have := q.r.toNat_lt; omega)
            generalize dec (1 - q.r.toNat / 255) = dd at A2 HD
            clear hS2
            go_wp2_with (go_at_call 31; refine (HD.out _).mono ?_; rintro e w9 ⟨rfl, b9⟩)
            go_roundg g'
            case measure => omega
            case rel => exact ⟨x + 1, S2, by omega, by go_num, rfl, HS2, Lib.hid (HX8.out.below b9)⟩
          · have hx0I : (0 : Int) < (x : Int) := by omega
            obtain ⟨S1, hS1⟩ : ∃ S1, S ++ ⟨#[32]⟩ = S1 := ⟨_, rfl⟩
            have A1 : ∀ w : World, (Op.stringOp .add S ⟨#[32]⟩).run Tryz.prog w = .ok (.string S1) w := fun w => by
              rw [← hS1]
              exact add_run HSS.out (show TxtIs ⟨#[32]⟩ [32] from rfl) (by have h1 := text_small3 (y := y) (l := l) HK3.out hWb hHb (Nat.le_of_lt hxW); simp only [List.length_cons, List.length_nil]; omega) w
            have HSS1 : Hid (TxtIs S1 (hdrL K W H ++ encRows K ((rowsOf l W H).take y) ++ rowT K ((rowOf l W y).take x) ++ [32])) := Lib.hid (by rw [← hS1]; exact HSS.out.add (show TxtIs ⟨#[32]⟩ [32] from rfl))
            clear hS1
            obtain ⟨S2, hS2⟩ : ∃ S2, S1 ++ dec (1 - q.r.toNat / 255) = S2 := ⟨_, rfl⟩
            have A2 : ∀ w : World, (Op.stringOp .add S1 (dec (1 - q.r.toNat / 255))).run Tryz.prog w = .ok (.string S2) w := fun w => by
              rw [← hS2]
              exact add_run HSS1.out (txt_dec _) (by have h1 := text_small3 (y := y) (l := l) HK3.out hWb hHb (Nat.le_of_lt hxW); have h2 := dg_le (1 - q.r.toNat / 255); have h3 := q.r.toNat_lt; rw [List.length_append]; simp only [List.length_cons, List.length_nil]; omega) w
            have HD := Lib.hid (refDigitsC (1 - q.r.toNat / 255) (by have := q.r.toNat_lt; omega))
            have HS2 : Hid (TxtIs S2 (hdrL K W H ++ encRows K ((rowsOf l W H).take y) ++ rowT K ((rowOf l W y).take (x + 1)))) := Lib.hid (by
              have h := HSS1.out.add (txt_dec (1 - q.r.toNat / 255))
              rw [hS2] at h
              rw [rowT_next HRO.out, ← List.append_assoc]
              rw [show dg (1 - q.r.toNat / 255) = [UInt8.ofNat (48 + (1 - q.r.toNat / 255))] from dg_small (by have := q.r.toNat_lt; omega)] at h
              rw [HK14.out] at h ⊢
              rw [if_neg hx0]
              simpa [pxT] using h)
            have w1 : IntKind.i64.wrap (q.r.toNat : Int) = (q.r.toNat : Int) := IntWalk.i64_in _ (by have := q.r.toNat_lt; omega)
            have w4 : IntKind.i64.wrap ((q.r.toNat : Int) / 255) = (q.r.toNat : Int) / 255 := IntWalk.i64_in _ (by have := q.r.toNat_lt; omega)
            have w5' : IntKind.i64.wrap (1 - (q.r.toNat : Int) / 255) = ((1 - q.r.toNat / 255 : Nat) : Int) := by rw [show 1 - (q.r.toNat : Int) / 255 = ((1 - q.r.toNat / 255 : Nat) : Int) by have := q.r.toNat_lt; omega]; exact IntWalk.i64_in _ (by have := q.r.toNat_lt; omega)
            generalize dec (1 - q.r.toNat / 255) = dd at A2 HD
            clear hS2
            go_wp2_with (go_at_call 31; refine (HD.out _).mono ?_; rintro e w9 ⟨rfl, b9⟩)
            go_roundg g'
            case measure => omega
            case rel => exact ⟨x + 1, S2, by omega, by go_num, rfl, HS2, Lib.hid (HX8.out.below b9)⟩
        · obtain rfl : x = W := by omega
          obtain rfl : gk = 0 := by omega
          have hxI : ¬ (x : Int) < (x : Int) := by omega
          obtain ⟨S2, hS2⟩ : ∃ S2, S ++ ⟨#[10]⟩ = S2 := ⟨_, rfl⟩
          have A2 : ∀ w : World, (Op.stringOp .add S ⟨#[10]⟩).run Tryz.prog w = .ok (.string S2) w := fun w => by
            rw [← hS2]
            exact add_run HSS.out (show TxtIs ⟨#[10]⟩ [10] from rfl) (by have h1 := text_small3 (y := y) (l := l) (x := x) HK3.out hWb hHb (Nat.le_refl _); simp only [List.length_cons, List.length_nil]; omega) w
          have HS2 : Hid (TxtIs S2 (hdrL K x H ++ encRows K ((rowsOf l x H).take (y + 1)))) := Lib.hid (by
            have h := HSS.out.add (show TxtIs ⟨#[10]⟩ [10] from rfl)
            rw [hS2, List.take_of_length_le (show (rowOf l x y).length ≤ x by rw [rowOf_len]; exact Nat.le_refl _)] at h
            rw [rows_next hyH, ← rowT_end HK3.out, ← List.append_assoc, ← List.append_assoc]
            exact h)
          clear hS2
          go_wp2_with fail
          go_roundg m
          case measure => omega
          case rel => exact ⟨y + 1, S2, by omega, by go_num, rfl, HS2, HX⟩
    · obtain rfl : y = H := by omega
      obtain rfl : gk = 0 := by omega
      have hyI : ¬ (y : Int) < (y : Int) := by omega
      have hO := HSS.out
      rw [List.take_of_length_le (show (rowsOf l W y).length ≤ y by unfold rowsOf; simp)] at hO
      have HO := Lib.hid hO
      clear hO
      go_wp2_with fail
      go_ret
      exact ⟨HX.out.B, by rw [show strOf (encL K W y l) = S from (TxtIs.is HO.out).symm]; rfl⟩
set_option maxRecDepth 100000 in
set_option maxHeartbeats 8000000 in
theorem refText_2 {K : Nat} (hK : K = 2) {W H n c : Nat} {a : Option Addr} {l : List UInt8} {w : World} (hr : RightP (W : Int) (H : Int) n) (hl : n = l.length) (hnc : n ≤ c) (hb : BytesAt w a n l) (hWb : W ≤ 4000) (hHb : H ≤ 4000) : Calls Tryz.prog 10 #[.agg #[.int .i64 (W : Int), .int .i64 (H : Int), .slice a n c], .int .i64 (K : Int)] w fun e w' => Below w.heap.size w w' ∧ e = .returned (.string (strOf (encL K W H l))) := by
  have hW := hr.1
  have hH := hr.2.1
  have hK4b : (1 : Int) < (K : Int) := by omega
  have hKa : ((K : Int) == 1) = false := by subst hK; rfl
  have hKb : ((K : Int) == 2) = true := by subst hK; rfl
  have hKt : K ≤ 3 := by omega
  have HK3 : Hid (K = 1 ∨ K = 2 ∨ K = 3) := Lib.hid (by omega)
  have HK14 : Hid (K = 2) := Lib.hid hK
  have HP := Lib.hid (fun (X Y : Nat) (hX : X < W) (hY : Y < H) => (px_both (a := a) hr hl hnc hX hY).2)
  have HBY := Lib.hid hb
  have HIT1 := Lib.hid (refDigitsC K (by omega))
  have HIT2 := Lib.hid (refDigitsC W (by omega))
  have HIT3 := Lib.hid (refDigitsC H (by omega))
  have W1 : WiI w (w.alloc (.cells #[.int .i64 (W : Int), .int .i64 (H : Int), .slice a n c] 24)) W H n c a l := WiI.new hb
  have z1 := dec_size K
  have z2 := dec_size W
  have z3 := dec_size H
  have z4 : (⟨#[80]⟩ : ByteArray).size = 1 := rfl
  have z5 : (⟨#[10]⟩ : ByteArray).size = 1 := rfl
  have z6 : (⟨#[32]⟩ : ByteArray).size = 1 := rfl
  obtain ⟨c1, hc1⟩ : ∃ c1, (⟨#[80]⟩ : ByteArray) ++ dec K = c1 := ⟨_, rfl⟩
  have s1 : c1.size = 1 + (dec K).size := by rw [← hc1, ByteArray.size_append, z4]
  have A1 : ∀ w : World, (Op.stringOp .add ⟨#[80]⟩ (dec K)).run Tryz.prog w = .ok (.string c1) w := fun w => by rw [← hc1]; exact run_string_add_sum w _ _ (by omega)
  obtain ⟨c2, hc2⟩ : ∃ c2, c1 ++ ⟨#[10]⟩ = c2 := ⟨_, rfl⟩
  have s2 : c2.size = c1.size + 1 := by rw [← hc2, ByteArray.size_append, z5]
  have A2 : ∀ w : World, (Op.stringOp .add c1 ⟨#[10]⟩).run Tryz.prog w = .ok (.string c2) w := fun w => by rw [← hc2]; exact run_string_add_sum w _ _ (by omega)
  obtain ⟨c3, hc3⟩ : ∃ c3, c2 ++ dec W = c3 := ⟨_, rfl⟩
  have s3 : c3.size = c2.size + (dec W).size := by rw [← hc3, ByteArray.size_append]
  have A3 : ∀ w : World, (Op.stringOp .add c2 (dec W)).run Tryz.prog w = .ok (.string c3) w := fun w => by rw [← hc3]; exact run_string_add_sum w _ _ (by omega)
  obtain ⟨c4, hc4⟩ : ∃ c4, c3 ++ ⟨#[32]⟩ = c4 := ⟨_, rfl⟩
  have s4 : c4.size = c3.size + 1 := by rw [← hc4, ByteArray.size_append, z6]
  have A4 : ∀ w : World, (Op.stringOp .add c3 ⟨#[32]⟩).run Tryz.prog w = .ok (.string c4) w := fun w => by rw [← hc4]; exact run_string_add_sum w _ _ (by omega)
  obtain ⟨c5, hc5⟩ : ∃ c5, c4 ++ dec H = c5 := ⟨_, rfl⟩
  have s5 : c5.size = c4.size + (dec H).size := by rw [← hc5, ByteArray.size_append]
  have A5 : ∀ w : World, (Op.stringOp .add c4 (dec H)).run Tryz.prog w = .ok (.string c5) w := fun w => by rw [← hc5]; exact run_string_add_sum w _ _ (by omega)
  obtain ⟨c6, hc6⟩ : ∃ c6, c5 ++ ⟨#[10]⟩ = c6 := ⟨_, rfl⟩
  have s6 : c6.size = c5.size + 1 := by rw [← hc6, ByteArray.size_append, z5]
  have A6 : ∀ w : World, (Op.stringOp .add c5 ⟨#[10]⟩).run Tryz.prog w = .ok (.string c6) w := fun w => by rw [← hc6]; exact run_string_add_sum w _ _ (by omega)
  have hc6s : c6.size ≤ 1000000 := by omega
  have hc6l : c6.data.toList = hdrA K W H := by rw [← hc6, ← hc5, ← hc4, ← hc3, ← hc2, ← hc1]; exact hdr_text (by omega)
  have HC6 := Lib.hid hc6l
  generalize dec K = dK at A1 s1 HIT1
  generalize dec W = dW at A3 s3 HIT2
  generalize dec H = dH at A5 s5 HIT3
  have hc6l := HC6.out
  clear hr hl hnc hb hc1 hc2 hc3 hc4 hc5 hc6 s1 s2 s3 s4 s5 s6 z1 z2 z3 z4 z5 z6 hc6l hK
  go_enter Tryz.func10, Tryz.ntmps10
  have HI1 := Lib.hid W1
  obtain ⟨i0, i1, i2, z0, z1, z2, il⟩ := IB.all W1.I
  clear i2 z0 z1 z2 il W1
  go_upto_region 1 with fail
  refine wp_region_held_drew (S := fun wx => wx.cell? ⟨w.heap.size, 0, none⟩ = some (.int .i64 (W : Int)) ∧ wx.cell? ⟨w.heap.size, 1, none⟩ = some (.int .i64 (H : Int))) (by kernel_rfl) ⟨i0, i1⟩ (fun hHeld => ?_)
  refine wpAnyH_take (i := 0) (v := ?_) rfl (by kernel_rfl) (by kernel_rfl) (by kernel_rfl) (fun _ _ _ h => h) (Or.inl ⟨by kernel_rfl, ?_⟩) (by assumption) ?_
  rotate_left
  · intro w hSw; obtain ⟨s0, s1⟩ := hSw; go_simp; (try with_reducible rfl)
  (try simp only [Act.put, List.getElem_toArray, List.getElem_cons_succ, List.getElem_cons_zero, List.setIfInBounds_toArray, List.set_cons_zero, List.set_cons_succ])
  refine wpAnyH_take (i := 4) (v := ?_) rfl (by kernel_rfl) (by kernel_rfl) (by kernel_rfl) (fun _ _ _ h => h) (Or.inl ⟨by kernel_rfl, ?_⟩) (by assumption) ?_
  rotate_left
  · intro w hSw; obtain ⟨s0, s1⟩ := hSw; go_simp; (try with_reducible rfl)
  (try simp only [Act.put, List.getElem_toArray, List.getElem_cons_succ, List.getElem_cons_zero, List.setIfInBounds_toArray, List.set_cons_zero, List.set_cons_succ])
  refine wpAnyH_take (i := 5) (v := ?_) rfl (by kernel_rfl) (by kernel_rfl) (by kernel_rfl) (fun _ _ _ h => h) (Or.inl ⟨by kernel_rfl, ?_⟩) (by assumption) ?_
  rotate_left
  · intro w hSw; obtain ⟨s0, s1⟩ := hSw; go_simp; (try with_reducible rfl)
  (try simp only [Act.put, List.getElem_toArray, List.getElem_cons_succ, List.getElem_cons_zero, List.setIfInBounds_toArray, List.set_cons_zero, List.set_cons_succ])
  refine wpAnyH_take (i := 9) (v := ?_) rfl (by kernel_rfl) (by kernel_rfl) (by kernel_rfl) (fun _ _ _ h => h) (Or.inl ⟨by kernel_rfl, ?_⟩) (by assumption) ?_
  rotate_left
  · intro w hSw; obtain ⟨s0, s1⟩ := hSw; go_simp; (try with_reducible rfl)
  (try simp only [Act.put, List.getElem_toArray, List.getElem_cons_succ, List.getElem_cons_zero, List.setIfInBounds_toArray, List.set_cons_zero, List.set_cons_succ])
  refine wpAnyH_take (i := 10) (v := ?_) rfl (by kernel_rfl) (by kernel_rfl) (by kernel_rfl) (fun _ _ _ h => h) (Or.inl ⟨by kernel_rfl, ?_⟩) (by assumption) ?_
  rotate_left
  · intro w hSw; obtain ⟨s0, s1⟩ := hSw; go_simp; (try with_reducible rfl)
  (try simp only [Act.put, List.getElem_toArray, List.getElem_cons_succ, List.getElem_cons_zero, List.setIfInBounds_toArray, List.set_cons_zero, List.set_cons_succ])
  refine wpAnyH_ready (rs := [1]) (by kernel_rfl) (by simp) ?_
  refine AllReadyH.cons rfl (fun K hK => ?_) AllReadyH.nil
  go_simp
  refine (HIT1.out _).mono ?_
  rintro e w'0 ⟨rfl, b0⟩
  have J0 := (HI1.out.drew).below b0
  refine hK.out _ _ (⟨Blk.cell J0.I 0, Blk.cell J0.I 1⟩) (fun hHeld' => ?_)
  clear hK K hHeld
  have hHeld := hHeld'
  clear hHeld'
  (try simp only [Act.put, List.getElem_toArray, List.getElem_cons_succ, List.getElem_cons_zero, List.setIfInBounds_toArray, List.set_cons_zero, List.set_cons_succ])
  refine wpAnyH_take (i := 2) (v := ?_) rfl (by kernel_rfl) (by kernel_rfl) (by kernel_rfl) (fun _ _ _ h => h) (Or.inl ⟨by kernel_rfl, ?_⟩) (by assumption) ?_
  rotate_left
  · intro w hSw; obtain ⟨s0, s1⟩ := hSw; go_simp; (try with_reducible rfl)
  (try simp only [Act.put, List.getElem_toArray, List.getElem_cons_succ, List.getElem_cons_zero, List.setIfInBounds_toArray, List.set_cons_zero, List.set_cons_succ])
  refine wpAnyH_take (i := 3) (v := ?_) rfl (by kernel_rfl) (by kernel_rfl) (by kernel_rfl) (fun _ _ _ h => h) (Or.inl ⟨by kernel_rfl, ?_⟩) (by assumption) ?_
  rotate_left
  · intro w hSw; obtain ⟨s0, s1⟩ := hSw; go_simp; (try with_reducible rfl)
  (try simp only [Act.put, List.getElem_toArray, List.getElem_cons_succ, List.getElem_cons_zero, List.setIfInBounds_toArray, List.set_cons_zero, List.set_cons_succ])
  refine wpAnyH_ready (rs := [6]) (by kernel_rfl) (by simp) ?_
  refine AllReadyH.cons rfl (fun K hK => ?_) AllReadyH.nil
  go_simp
  refine (HIT2.out _).mono ?_
  rintro e w'1 ⟨rfl, b1⟩
  have J1 := (J0).below b1
  refine hK.out _ _ (⟨Blk.cell J1.I 0, Blk.cell J1.I 1⟩) (fun hHeld' => ?_)
  clear hK K hHeld
  have hHeld := hHeld'
  clear hHeld'
  (try simp only [Act.put, List.getElem_toArray, List.getElem_cons_succ, List.getElem_cons_zero, List.setIfInBounds_toArray, List.set_cons_zero, List.set_cons_succ])
  refine wpAnyH_take (i := 7) (v := ?_) rfl (by kernel_rfl) (by kernel_rfl) (by kernel_rfl) (fun _ _ _ h => h) (Or.inl ⟨by kernel_rfl, ?_⟩) (by assumption) ?_
  rotate_left
  · intro w hSw; obtain ⟨s0, s1⟩ := hSw; go_simp; (try with_reducible rfl)
  (try simp only [Act.put, List.getElem_toArray, List.getElem_cons_succ, List.getElem_cons_zero, List.setIfInBounds_toArray, List.set_cons_zero, List.set_cons_succ])
  refine wpAnyH_take (i := 8) (v := ?_) rfl (by kernel_rfl) (by kernel_rfl) (by kernel_rfl) (fun _ _ _ h => h) (Or.inl ⟨by kernel_rfl, ?_⟩) (by assumption) ?_
  rotate_left
  · intro w hSw; obtain ⟨s0, s1⟩ := hSw; go_simp; (try with_reducible rfl)
  (try simp only [Act.put, List.getElem_toArray, List.getElem_cons_succ, List.getElem_cons_zero, List.setIfInBounds_toArray, List.set_cons_zero, List.set_cons_succ])
  refine wpAnyH_ready (rs := [11]) (by kernel_rfl) (by simp) ?_
  refine AllReadyH.cons rfl (fun K hK => ?_) AllReadyH.nil
  go_simp
  refine (HIT3.out _).mono ?_
  rintro e w'2 ⟨rfl, b2⟩
  have J2 := (J1).below b2
  refine hK.out _ _ (⟨Blk.cell J2.I 0, Blk.cell J2.I 1⟩) (fun hHeld' => ?_)
  clear hK K hHeld
  have hHeld := hHeld'
  clear hHeld'
  (try simp only [Act.put, List.getElem_toArray, List.getElem_cons_succ, List.getElem_cons_zero, List.setIfInBounds_toArray, List.set_cons_zero, List.set_cons_succ])
  refine wpAnyH_take (i := 12) (v := ?_) rfl (by kernel_rfl) (by kernel_rfl) (by kernel_rfl) (fun _ _ _ h => h) (Or.inl ⟨by kernel_rfl, ?_⟩) (by assumption) ?_
  rotate_left
  · intro w hSw; obtain ⟨s0, s1⟩ := hSw; go_simp; (try with_reducible rfl)
  (try simp only [Act.put, List.getElem_toArray, List.getElem_cons_succ, List.getElem_cons_zero, List.setIfInBounds_toArray, List.set_cons_zero, List.set_cons_succ])
  refine wpAnyH_take (i := 13) (v := ?_) rfl (by kernel_rfl) (by kernel_rfl) (by kernel_rfl) (fun _ _ _ h => h) (Or.inl ⟨by kernel_rfl, ?_⟩) (by assumption) ?_
  rotate_left
  · intro w hSw; obtain ⟨s0, s1⟩ := hSw; go_simp; (try with_reducible rfl)
  (try simp only [Act.put, List.getElem_toArray, List.getElem_cons_succ, List.getElem_cons_zero, List.setIfInBounds_toArray, List.set_cons_zero, List.set_cons_succ])
  refine wpAnyH_take (i := 14) (v := ?_) rfl (by kernel_rfl) (by kernel_rfl) (by kernel_rfl) (fun _ _ _ h => h) (Or.inl ⟨by kernel_rfl, ?_⟩) (by assumption) ?_
  rotate_left
  · intro w hSw; obtain ⟨s0, s1⟩ := hSw; go_simp; (try with_reducible rfl)
  (try simp only [Act.put, List.getElem_toArray, List.getElem_cons_succ, List.getElem_cons_zero, List.setIfInBounds_toArray, List.set_cons_zero, List.set_cons_succ])
  refine wpAnyH_done (by kernel_rfl) ?_ _
  (try simp only [List.getElem_toArray, List.getElem_cons_succ, List.getElem_cons_zero, List.set_cons_zero, List.set_cons_succ])
  clear hHeld
  clear i0 i1
  have i0 : w'2.cell? ⟨w.heap.size, 0, none⟩ = some (.int .i64 (W : Int)) := Blk.cell J2.I 0
  have i1 : w'2.cell? ⟨w.heap.size, 1, none⟩ = some (.int .i64 (H : Int)) := Blk.cell J2.I 1
  obtain ⟨c7, hc7⟩ : ∃ c7, c6 ++ ⟨#[50, 53, 53, 10]⟩ = c7 := ⟨_, rfl⟩
  have A7 : ∀ w : World, (Op.stringOp .add c6 ⟨#[50, 53, 53, 10]⟩).run Tryz.prog w = .ok (.string c7) w := fun w => by
    rw [← hc7]
    exact run_string_add_sum w _ _ (by have : (⟨#[50, 53, 53, 10]⟩ : ByteArray).size = 4 := rfl; omega)
  have HS0 : Hid (TxtIs c7 (hdrL K W H ++ encRows K ((rowsOf l W H).take 0))) := Lib.hid (by
    rw [List.take_zero, show encRows K [] = [] from rfl, List.append_nil, ← hdrA_more W H (by have := HK14.out; omega), ← hc7]
    exact TxtIs.add HC6.out rfl)
  have HX0 := Lib.hid J2
  clear hc7
  go_upto_region 4 with fail
  clear A7 J0 J1 J2 b0 b1 b2 HI1 HIT1 HIT2 HIT3 A1 A2 A3 A4 A5 A6 hc6s hc6l HC6
  go_upto_region 5 with fail
  (try clear i0 i1)
  go_loopg [5, 6, 7, 8] H (fun gh v5 v6 v7 v8 wr => ∃ (y : Nat) (S : ByteArray), y + gh = H ∧ v6 = .int .i64 (y : Int) ∧ v5 = .string S ∧ Hid (TxtIs S (hdrL K W H ++ encRows K ((rowsOf l W H).take y))) ∧ Hid (WiI w wr W H n c a l))
  case atStart => exact ⟨0, c7, by omega, rfl, rfl, HS0, HX0⟩
  case round =>
    clear HS0 HX0
    obtain ⟨y, S, hy, rfl, rfl, HSS, HX⟩ := hrel
    obtain ⟨i0, i1, i2, z0, z1, z2, il⟩ := IB.all HX.out.I
    by_cases hyH : y < H
    · have hyI : (y : Int) < (H : Int) := by omega
      obtain ⟨m, rfl⟩ : ∃ m, gk = m + 1 := ⟨gk - 1, by omega⟩
      go_upto_region 8 with fail
      clear i0 i1 i2 z0 z1 z2 il
      have HS1 : Hid (TxtIs S (hdrL K W H ++ encRows K ((rowsOf l W H).take y) ++ rowT K ((rowOf l W y).take 0))) := Lib.hid (by rw [List.take_zero, show rowT K [] = [] from rfl, List.append_nil]; exact HSS.out)
      have HX1 := HX
      clear HSS HX
      obtain ⟨wo, hwo⟩ : ∃ wo, wo = wr := ⟨_, rfl⟩
      obtain ⟨So, hSo⟩ : ∃ So, So = S := ⟨_, rfl⟩
      subst hwo
      subst hSo
      go_loopg [5, 7, 8] W (fun gx v5 v7 v8 wx => ∃ (x : Nat) (S : ByteArray), x + gx = W ∧ v7 = .int .i64 (x : Int) ∧ v5 = .string S ∧ Hid (TxtIs S (hdrL K W H ++ encRows K ((rowsOf l W H).take y) ++ rowT K ((rowOf l W y).take x))) ∧ Hid (WiI w wx W H n c a l))
      case atStart => exact ⟨0, _, by omega, rfl, rfl, HS1, HX1⟩
      case round =>
        clear HS1 HX1
        obtain ⟨x, S, hx, rfl, rfl, HSS, HX⟩ := hrel
        obtain ⟨i0, i1, i2, z0, z1, z2, il⟩ := IB.all HX.out.I
        by_cases hxW : x < W
        · have hxI : (x : Int) < (W : Int) := by omega
          obtain ⟨g', rfl⟩ : ∃ g', gk = g' + 1 := ⟨gk - 1, by omega⟩
          have HPX := Lib.hid (HP.out x y hxW hyH _ (HBY.out.below HX.out.B))
          obtain ⟨q, hq⟩ : ∃ q, pcAt l (y * W + x) = q := ⟨_, rfl⟩
          have hrow := row_at (l := l) (W := W) (y := y) hxW
          rw [hq] at HPX hrow
          unfold Qc.v at HPX
          have HRO := Lib.hid hrow
          clear hq hrow
          go_upto_region 11 with (go_at_call 30; refine HPX.out.mono ?_; rintro e w7 ⟨rfl, b7⟩; have HX8 := Lib.hid ((HX.out.below b7).alloc (.cells #[.int .u8 (q.r.toNat : Int), .int .u8 (q.g.toNat : Int), .int .u8 (q.b.toNat : Int), .int .u8 (q.a.toNat : Int)] 48)); have C7 : CB (w7.alloc (.cells #[.int .u8 (q.r.toNat : Int), .int .u8 (q.g.toNat : Int), .int .u8 (q.b.toNat : Int), .int .u8 (q.a.toNat : Int)] 48)) w7.heap.size (q.r.toNat : Int) (q.g.toNat : Int) (q.b.toNat : Int) (q.a.toNat : Int) := Blk.new _ _ _; clear i0 i1 i2 z0 z1 z2 il)
          clear HX HPX b7
          generalize w7.alloc (.cells #[.int .u8 (q.r.toNat : Int), .int .u8 (q.g.toNat : Int), .int .u8 (q.b.toNat : Int), .int .u8 (q.a.toNat : Int)] 48) = w8 at HX8 C7 ⊢
          generalize w7.heap.size = qc at C7 ⊢
          have c0 := C7.c0
          have c1 := C7.c1
          have c2 := C7.c2
          by_cases hx0 : x = 0
          · have hx0I : ¬ (0 : Int) < (x : Int) := by omega
            obtain ⟨S2, hS2⟩ : ∃ S2, S ++ dec (q.r.toNat) = S2 := ⟨_, rfl⟩
            have A2 : ∀ w : World, (Op.stringOp .add S (dec (q.r.toNat))).run Tryz.prog w = .ok (.string S2) w := fun w => by
              rw [← hS2]
              exact add_run HSS.out (txt_dec _) (by have h1 := text_small3 (y := y) (l := l) HK3.out hWb hHb (Nat.le_of_lt hxW); have h2 := dg_le (q.r.toNat); have h3 := q.r.toNat_lt; omega) w
            have HD := Lib.hid (refDigitsC (q.r.toNat) (by have := q.r.toNat_lt; omega))
            have HS2 : Hid (TxtIs S2 (hdrL K W H ++ encRows K ((rowsOf l W H).take y) ++ rowT K ((rowOf l W y).take (x + 1)))) := Lib.hid (by
              have h := HSS.out.add (txt_dec (q.r.toNat))
              rw [hS2] at h
              rw [rowT_next HRO.out, ← List.append_assoc]
              rw [HK14.out] at h ⊢
              rw [if_pos hx0]
              simpa [pxT] using h)
            have w1 : IntKind.i64.wrap (q.r.toNat : Int) = (q.r.toNat : Int) := IntWalk.i64_in _ (by have := q.r.toNat_lt; omega)
            generalize dec (q.r.toNat) = dd at A2 HD
            clear hS2
            go_wp2_with (go_at_call 31; refine (HD.out _).mono ?_; rintro e w9 ⟨rfl, b9⟩)
            go_roundg g'
            case measure => omega
            case rel => exact ⟨x + 1, S2, by omega, by go_num, rfl, HS2, Lib.hid (HX8.out.below b9)⟩
          · have hx0I : (0 : Int) < (x : Int) := by omega
            obtain ⟨S1, hS1⟩ : ∃ S1, S ++ ⟨#[32]⟩ = S1 := ⟨_, rfl⟩
            have A1 : ∀ w : World, (Op.stringOp .add S ⟨#[32]⟩).run Tryz.prog w = .ok (.string S1) w := fun w => by
              rw [← hS1]
              exact add_run HSS.out (show TxtIs ⟨#[32]⟩ [32] from rfl) (by have h1 := text_small3 (y := y) (l := l) HK3.out hWb hHb (Nat.le_of_lt hxW); simp only [List.length_cons, List.length_nil]; omega) w
            have HSS1 : Hid (TxtIs S1 (hdrL K W H ++ encRows K ((rowsOf l W H).take y) ++ rowT K ((rowOf l W y).take x) ++ [32])) := Lib.hid (by rw [← hS1]; exact HSS.out.add (show TxtIs ⟨#[32]⟩ [32] from rfl))
            clear hS1
            obtain ⟨S2, hS2⟩ : ∃ S2, S1 ++ dec (q.r.toNat) = S2 := ⟨_, rfl⟩
            have A2 : ∀ w : World, (Op.stringOp .add S1 (dec (q.r.toNat))).run Tryz.prog w = .ok (.string S2) w := fun w => by
              rw [← hS2]
              exact add_run HSS1.out (txt_dec _) (by have h1 := text_small3 (y := y) (l := l) HK3.out hWb hHb (Nat.le_of_lt hxW); have h2 := dg_le (q.r.toNat); have h3 := q.r.toNat_lt; rw [List.length_append]; simp only [List.length_cons, List.length_nil]; omega) w
            have HD := Lib.hid (refDigitsC (q.r.toNat) (by have := q.r.toNat_lt; omega))
            have HS2 : Hid (TxtIs S2 (hdrL K W H ++ encRows K ((rowsOf l W H).take y) ++ rowT K ((rowOf l W y).take (x + 1)))) := Lib.hid (by
              have h := HSS1.out.add (txt_dec (q.r.toNat))
              rw [hS2] at h
              rw [rowT_next HRO.out, ← List.append_assoc]
              rw [HK14.out] at h ⊢
              rw [if_neg hx0]
              simpa [pxT] using h)
            have w1 : IntKind.i64.wrap (q.r.toNat : Int) = (q.r.toNat : Int) := IntWalk.i64_in _ (by have := q.r.toNat_lt; omega)
            generalize dec (q.r.toNat) = dd at A2 HD
            clear hS2
            go_wp2_with (go_at_call 31; refine (HD.out _).mono ?_; rintro e w9 ⟨rfl, b9⟩)
            go_roundg g'
            case measure => omega
            case rel => exact ⟨x + 1, S2, by omega, by go_num, rfl, HS2, Lib.hid (HX8.out.below b9)⟩
        · obtain rfl : x = W := by omega
          obtain rfl : gk = 0 := by omega
          have hxI : ¬ (x : Int) < (x : Int) := by omega
          obtain ⟨S2, hS2⟩ : ∃ S2, S ++ ⟨#[10]⟩ = S2 := ⟨_, rfl⟩
          have A2 : ∀ w : World, (Op.stringOp .add S ⟨#[10]⟩).run Tryz.prog w = .ok (.string S2) w := fun w => by
            rw [← hS2]
            exact add_run HSS.out (show TxtIs ⟨#[10]⟩ [10] from rfl) (by have h1 := text_small3 (y := y) (l := l) (x := x) HK3.out hWb hHb (Nat.le_refl _); simp only [List.length_cons, List.length_nil]; omega) w
          have HS2 : Hid (TxtIs S2 (hdrL K x H ++ encRows K ((rowsOf l x H).take (y + 1)))) := Lib.hid (by
            have h := HSS.out.add (show TxtIs ⟨#[10]⟩ [10] from rfl)
            rw [hS2, List.take_of_length_le (show (rowOf l x y).length ≤ x by rw [rowOf_len]; exact Nat.le_refl _)] at h
            rw [rows_next hyH, ← rowT_end HK3.out, ← List.append_assoc, ← List.append_assoc]
            exact h)
          clear hS2
          go_wp2_with fail
          go_roundg m
          case measure => omega
          case rel => exact ⟨y + 1, S2, by omega, by go_num, rfl, HS2, HX⟩
    · obtain rfl : y = H := by omega
      obtain rfl : gk = 0 := by omega
      have hyI : ¬ (y : Int) < (y : Int) := by omega
      have hO := HSS.out
      rw [List.take_of_length_le (show (rowsOf l W y).length ≤ y by unfold rowsOf; simp)] at hO
      have HO := Lib.hid hO
      clear hO
      go_wp2_with fail
      go_ret
      exact ⟨HX.out.B, by rw [show strOf (encL K W y l) = S from (TxtIs.is HO.out).symm]; rfl⟩
set_option maxRecDepth 100000 in
set_option maxHeartbeats 8000000 in
theorem refText_3 {K : Nat} (hK : K = 3) {W H n c : Nat} {a : Option Addr} {l : List UInt8} {w : World} (hr : RightP (W : Int) (H : Int) n) (hl : n = l.length) (hnc : n ≤ c) (hb : BytesAt w a n l) (hWb : W ≤ 4000) (hHb : H ≤ 4000) : Calls Tryz.prog 10 #[.agg #[.int .i64 (W : Int), .int .i64 (H : Int), .slice a n c], .int .i64 (K : Int)] w fun e w' => Below w.heap.size w w' ∧ e = .returned (.string (strOf (encL K W H l))) := by
  have hW := hr.1
  have hH := hr.2.1
  have hK4b : (1 : Int) < (K : Int) := by omega
  have hKa : ((K : Int) == 1) = false := by subst hK; rfl
  have hKb : ((K : Int) == 2) = false := by subst hK; rfl
  have hKt : K ≤ 3 := by omega
  have HK3 : Hid (K = 1 ∨ K = 2 ∨ K = 3) := Lib.hid (by omega)
  have HK14 : Hid (K = 3) := Lib.hid hK
  have HP := Lib.hid (fun (X Y : Nat) (hX : X < W) (hY : Y < H) => (px_both (a := a) hr hl hnc hX hY).2)
  have HBY := Lib.hid hb
  have HIT1 := Lib.hid (refDigitsC K (by omega))
  have HIT2 := Lib.hid (refDigitsC W (by omega))
  have HIT3 := Lib.hid (refDigitsC H (by omega))
  have W1 : WiI w (w.alloc (.cells #[.int .i64 (W : Int), .int .i64 (H : Int), .slice a n c] 24)) W H n c a l := WiI.new hb
  have z1 := dec_size K
  have z2 := dec_size W
  have z3 := dec_size H
  have z4 : (⟨#[80]⟩ : ByteArray).size = 1 := rfl
  have z5 : (⟨#[10]⟩ : ByteArray).size = 1 := rfl
  have z6 : (⟨#[32]⟩ : ByteArray).size = 1 := rfl
  obtain ⟨c1, hc1⟩ : ∃ c1, (⟨#[80]⟩ : ByteArray) ++ dec K = c1 := ⟨_, rfl⟩
  have s1 : c1.size = 1 + (dec K).size := by rw [← hc1, ByteArray.size_append, z4]
  have A1 : ∀ w : World, (Op.stringOp .add ⟨#[80]⟩ (dec K)).run Tryz.prog w = .ok (.string c1) w := fun w => by rw [← hc1]; exact run_string_add_sum w _ _ (by omega)
  obtain ⟨c2, hc2⟩ : ∃ c2, c1 ++ ⟨#[10]⟩ = c2 := ⟨_, rfl⟩
  have s2 : c2.size = c1.size + 1 := by rw [← hc2, ByteArray.size_append, z5]
  have A2 : ∀ w : World, (Op.stringOp .add c1 ⟨#[10]⟩).run Tryz.prog w = .ok (.string c2) w := fun w => by rw [← hc2]; exact run_string_add_sum w _ _ (by omega)
  obtain ⟨c3, hc3⟩ : ∃ c3, c2 ++ dec W = c3 := ⟨_, rfl⟩
  have s3 : c3.size = c2.size + (dec W).size := by rw [← hc3, ByteArray.size_append]
  have A3 : ∀ w : World, (Op.stringOp .add c2 (dec W)).run Tryz.prog w = .ok (.string c3) w := fun w => by rw [← hc3]; exact run_string_add_sum w _ _ (by omega)
  obtain ⟨c4, hc4⟩ : ∃ c4, c3 ++ ⟨#[32]⟩ = c4 := ⟨_, rfl⟩
  have s4 : c4.size = c3.size + 1 := by rw [← hc4, ByteArray.size_append, z6]
  have A4 : ∀ w : World, (Op.stringOp .add c3 ⟨#[32]⟩).run Tryz.prog w = .ok (.string c4) w := fun w => by rw [← hc4]; exact run_string_add_sum w _ _ (by omega)
  obtain ⟨c5, hc5⟩ : ∃ c5, c4 ++ dec H = c5 := ⟨_, rfl⟩
  have s5 : c5.size = c4.size + (dec H).size := by rw [← hc5, ByteArray.size_append]
  have A5 : ∀ w : World, (Op.stringOp .add c4 (dec H)).run Tryz.prog w = .ok (.string c5) w := fun w => by rw [← hc5]; exact run_string_add_sum w _ _ (by omega)
  obtain ⟨c6, hc6⟩ : ∃ c6, c5 ++ ⟨#[10]⟩ = c6 := ⟨_, rfl⟩
  have s6 : c6.size = c5.size + 1 := by rw [← hc6, ByteArray.size_append, z5]
  have A6 : ∀ w : World, (Op.stringOp .add c5 ⟨#[10]⟩).run Tryz.prog w = .ok (.string c6) w := fun w => by rw [← hc6]; exact run_string_add_sum w _ _ (by omega)
  have hc6s : c6.size ≤ 1000000 := by omega
  have hc6l : c6.data.toList = hdrA K W H := by rw [← hc6, ← hc5, ← hc4, ← hc3, ← hc2, ← hc1]; exact hdr_text (by omega)
  have HC6 := Lib.hid hc6l
  generalize dec K = dK at A1 s1 HIT1
  generalize dec W = dW at A3 s3 HIT2
  generalize dec H = dH at A5 s5 HIT3
  have hc6l := HC6.out
  clear hr hl hnc hb hc1 hc2 hc3 hc4 hc5 hc6 s1 s2 s3 s4 s5 s6 z1 z2 z3 z4 z5 z6 hc6l hK
  go_enter Tryz.func10, Tryz.ntmps10
  have HI1 := Lib.hid W1
  obtain ⟨i0, i1, i2, z0, z1, z2, il⟩ := IB.all W1.I
  clear i2 z0 z1 z2 il W1
  go_upto_region 1 with fail
  refine wp_region_held_drew (S := fun wx => wx.cell? ⟨w.heap.size, 0, none⟩ = some (.int .i64 (W : Int)) ∧ wx.cell? ⟨w.heap.size, 1, none⟩ = some (.int .i64 (H : Int))) (by kernel_rfl) ⟨i0, i1⟩ (fun hHeld => ?_)
  refine wpAnyH_take (i := 0) (v := ?_) rfl (by kernel_rfl) (by kernel_rfl) (by kernel_rfl) (fun _ _ _ h => h) (Or.inl ⟨by kernel_rfl, ?_⟩) (by assumption) ?_
  rotate_left
  · intro w hSw; obtain ⟨s0, s1⟩ := hSw; go_simp; (try with_reducible rfl)
  (try simp only [Act.put, List.getElem_toArray, List.getElem_cons_succ, List.getElem_cons_zero, List.setIfInBounds_toArray, List.set_cons_zero, List.set_cons_succ])
  refine wpAnyH_take (i := 4) (v := ?_) rfl (by kernel_rfl) (by kernel_rfl) (by kernel_rfl) (fun _ _ _ h => h) (Or.inl ⟨by kernel_rfl, ?_⟩) (by assumption) ?_
  rotate_left
  · intro w hSw; obtain ⟨s0, s1⟩ := hSw; go_simp; (try with_reducible rfl)
  (try simp only [Act.put, List.getElem_toArray, List.getElem_cons_succ, List.getElem_cons_zero, List.setIfInBounds_toArray, List.set_cons_zero, List.set_cons_succ])
  refine wpAnyH_take (i := 5) (v := ?_) rfl (by kernel_rfl) (by kernel_rfl) (by kernel_rfl) (fun _ _ _ h => h) (Or.inl ⟨by kernel_rfl, ?_⟩) (by assumption) ?_
  rotate_left
  · intro w hSw; obtain ⟨s0, s1⟩ := hSw; go_simp; (try with_reducible rfl)
  (try simp only [Act.put, List.getElem_toArray, List.getElem_cons_succ, List.getElem_cons_zero, List.setIfInBounds_toArray, List.set_cons_zero, List.set_cons_succ])
  refine wpAnyH_take (i := 9) (v := ?_) rfl (by kernel_rfl) (by kernel_rfl) (by kernel_rfl) (fun _ _ _ h => h) (Or.inl ⟨by kernel_rfl, ?_⟩) (by assumption) ?_
  rotate_left
  · intro w hSw; obtain ⟨s0, s1⟩ := hSw; go_simp; (try with_reducible rfl)
  (try simp only [Act.put, List.getElem_toArray, List.getElem_cons_succ, List.getElem_cons_zero, List.setIfInBounds_toArray, List.set_cons_zero, List.set_cons_succ])
  refine wpAnyH_take (i := 10) (v := ?_) rfl (by kernel_rfl) (by kernel_rfl) (by kernel_rfl) (fun _ _ _ h => h) (Or.inl ⟨by kernel_rfl, ?_⟩) (by assumption) ?_
  rotate_left
  · intro w hSw; obtain ⟨s0, s1⟩ := hSw; go_simp; (try with_reducible rfl)
  (try simp only [Act.put, List.getElem_toArray, List.getElem_cons_succ, List.getElem_cons_zero, List.setIfInBounds_toArray, List.set_cons_zero, List.set_cons_succ])
  refine wpAnyH_ready (rs := [1]) (by kernel_rfl) (by simp) ?_
  refine AllReadyH.cons rfl (fun K hK => ?_) AllReadyH.nil
  go_simp
  refine (HIT1.out _).mono ?_
  rintro e w'0 ⟨rfl, b0⟩
  have J0 := (HI1.out.drew).below b0
  refine hK.out _ _ (⟨Blk.cell J0.I 0, Blk.cell J0.I 1⟩) (fun hHeld' => ?_)
  clear hK K hHeld
  have hHeld := hHeld'
  clear hHeld'
  (try simp only [Act.put, List.getElem_toArray, List.getElem_cons_succ, List.getElem_cons_zero, List.setIfInBounds_toArray, List.set_cons_zero, List.set_cons_succ])
  refine wpAnyH_take (i := 2) (v := ?_) rfl (by kernel_rfl) (by kernel_rfl) (by kernel_rfl) (fun _ _ _ h => h) (Or.inl ⟨by kernel_rfl, ?_⟩) (by assumption) ?_
  rotate_left
  · intro w hSw; obtain ⟨s0, s1⟩ := hSw; go_simp; (try with_reducible rfl)
  (try simp only [Act.put, List.getElem_toArray, List.getElem_cons_succ, List.getElem_cons_zero, List.setIfInBounds_toArray, List.set_cons_zero, List.set_cons_succ])
  refine wpAnyH_take (i := 3) (v := ?_) rfl (by kernel_rfl) (by kernel_rfl) (by kernel_rfl) (fun _ _ _ h => h) (Or.inl ⟨by kernel_rfl, ?_⟩) (by assumption) ?_
  rotate_left
  · intro w hSw; obtain ⟨s0, s1⟩ := hSw; go_simp; (try with_reducible rfl)
  (try simp only [Act.put, List.getElem_toArray, List.getElem_cons_succ, List.getElem_cons_zero, List.setIfInBounds_toArray, List.set_cons_zero, List.set_cons_succ])
  refine wpAnyH_ready (rs := [6]) (by kernel_rfl) (by simp) ?_
  refine AllReadyH.cons rfl (fun K hK => ?_) AllReadyH.nil
  go_simp
  refine (HIT2.out _).mono ?_
  rintro e w'1 ⟨rfl, b1⟩
  have J1 := (J0).below b1
  refine hK.out _ _ (⟨Blk.cell J1.I 0, Blk.cell J1.I 1⟩) (fun hHeld' => ?_)
  clear hK K hHeld
  have hHeld := hHeld'
  clear hHeld'
  (try simp only [Act.put, List.getElem_toArray, List.getElem_cons_succ, List.getElem_cons_zero, List.setIfInBounds_toArray, List.set_cons_zero, List.set_cons_succ])
  refine wpAnyH_take (i := 7) (v := ?_) rfl (by kernel_rfl) (by kernel_rfl) (by kernel_rfl) (fun _ _ _ h => h) (Or.inl ⟨by kernel_rfl, ?_⟩) (by assumption) ?_
  rotate_left
  · intro w hSw; obtain ⟨s0, s1⟩ := hSw; go_simp; (try with_reducible rfl)
  (try simp only [Act.put, List.getElem_toArray, List.getElem_cons_succ, List.getElem_cons_zero, List.setIfInBounds_toArray, List.set_cons_zero, List.set_cons_succ])
  refine wpAnyH_take (i := 8) (v := ?_) rfl (by kernel_rfl) (by kernel_rfl) (by kernel_rfl) (fun _ _ _ h => h) (Or.inl ⟨by kernel_rfl, ?_⟩) (by assumption) ?_
  rotate_left
  · intro w hSw; obtain ⟨s0, s1⟩ := hSw; go_simp; (try with_reducible rfl)
  (try simp only [Act.put, List.getElem_toArray, List.getElem_cons_succ, List.getElem_cons_zero, List.setIfInBounds_toArray, List.set_cons_zero, List.set_cons_succ])
  refine wpAnyH_ready (rs := [11]) (by kernel_rfl) (by simp) ?_
  refine AllReadyH.cons rfl (fun K hK => ?_) AllReadyH.nil
  go_simp
  refine (HIT3.out _).mono ?_
  rintro e w'2 ⟨rfl, b2⟩
  have J2 := (J1).below b2
  refine hK.out _ _ (⟨Blk.cell J2.I 0, Blk.cell J2.I 1⟩) (fun hHeld' => ?_)
  clear hK K hHeld
  have hHeld := hHeld'
  clear hHeld'
  (try simp only [Act.put, List.getElem_toArray, List.getElem_cons_succ, List.getElem_cons_zero, List.setIfInBounds_toArray, List.set_cons_zero, List.set_cons_succ])
  refine wpAnyH_take (i := 12) (v := ?_) rfl (by kernel_rfl) (by kernel_rfl) (by kernel_rfl) (fun _ _ _ h => h) (Or.inl ⟨by kernel_rfl, ?_⟩) (by assumption) ?_
  rotate_left
  · intro w hSw; obtain ⟨s0, s1⟩ := hSw; go_simp; (try with_reducible rfl)
  (try simp only [Act.put, List.getElem_toArray, List.getElem_cons_succ, List.getElem_cons_zero, List.setIfInBounds_toArray, List.set_cons_zero, List.set_cons_succ])
  refine wpAnyH_take (i := 13) (v := ?_) rfl (by kernel_rfl) (by kernel_rfl) (by kernel_rfl) (fun _ _ _ h => h) (Or.inl ⟨by kernel_rfl, ?_⟩) (by assumption) ?_
  rotate_left
  · intro w hSw; obtain ⟨s0, s1⟩ := hSw; go_simp; (try with_reducible rfl)
  (try simp only [Act.put, List.getElem_toArray, List.getElem_cons_succ, List.getElem_cons_zero, List.setIfInBounds_toArray, List.set_cons_zero, List.set_cons_succ])
  refine wpAnyH_take (i := 14) (v := ?_) rfl (by kernel_rfl) (by kernel_rfl) (by kernel_rfl) (fun _ _ _ h => h) (Or.inl ⟨by kernel_rfl, ?_⟩) (by assumption) ?_
  rotate_left
  · intro w hSw; obtain ⟨s0, s1⟩ := hSw; go_simp; (try with_reducible rfl)
  (try simp only [Act.put, List.getElem_toArray, List.getElem_cons_succ, List.getElem_cons_zero, List.setIfInBounds_toArray, List.set_cons_zero, List.set_cons_succ])
  refine wpAnyH_done (by kernel_rfl) ?_ _
  (try simp only [List.getElem_toArray, List.getElem_cons_succ, List.getElem_cons_zero, List.set_cons_zero, List.set_cons_succ])
  clear hHeld
  clear i0 i1
  have i0 : w'2.cell? ⟨w.heap.size, 0, none⟩ = some (.int .i64 (W : Int)) := Blk.cell J2.I 0
  have i1 : w'2.cell? ⟨w.heap.size, 1, none⟩ = some (.int .i64 (H : Int)) := Blk.cell J2.I 1
  obtain ⟨c7, hc7⟩ : ∃ c7, c6 ++ ⟨#[50, 53, 53, 10]⟩ = c7 := ⟨_, rfl⟩
  have A7 : ∀ w : World, (Op.stringOp .add c6 ⟨#[50, 53, 53, 10]⟩).run Tryz.prog w = .ok (.string c7) w := fun w => by
    rw [← hc7]
    exact run_string_add_sum w _ _ (by have : (⟨#[50, 53, 53, 10]⟩ : ByteArray).size = 4 := rfl; omega)
  have HS0 : Hid (TxtIs c7 (hdrL K W H ++ encRows K ((rowsOf l W H).take 0))) := Lib.hid (by
    rw [List.take_zero, show encRows K [] = [] from rfl, List.append_nil, ← hdrA_more W H (by have := HK14.out; omega), ← hc7]
    exact TxtIs.add HC6.out rfl)
  have HX0 := Lib.hid J2
  clear hc7
  go_upto_region 4 with fail
  clear A7 J0 J1 J2 b0 b1 b2 HI1 HIT1 HIT2 HIT3 A1 A2 A3 A4 A5 A6 hc6s hc6l HC6
  go_upto_region 5 with fail
  (try clear i0 i1)
  go_loopg [5, 6, 7, 8] H (fun gh v5 v6 v7 v8 wr => ∃ (y : Nat) (S : ByteArray), y + gh = H ∧ v6 = .int .i64 (y : Int) ∧ v5 = .string S ∧ Hid (TxtIs S (hdrL K W H ++ encRows K ((rowsOf l W H).take y))) ∧ Hid (WiI w wr W H n c a l))
  case atStart => exact ⟨0, c7, by omega, rfl, rfl, HS0, HX0⟩
  case round =>
    clear HS0 HX0
    obtain ⟨y, S, hy, rfl, rfl, HSS, HX⟩ := hrel
    obtain ⟨i0, i1, i2, z0, z1, z2, il⟩ := IB.all HX.out.I
    by_cases hyH : y < H
    · have hyI : (y : Int) < (H : Int) := by omega
      obtain ⟨m, rfl⟩ : ∃ m, gk = m + 1 := ⟨gk - 1, by omega⟩
      go_upto_region 8 with fail
      clear i0 i1 i2 z0 z1 z2 il
      have HS1 : Hid (TxtIs S (hdrL K W H ++ encRows K ((rowsOf l W H).take y) ++ rowT K ((rowOf l W y).take 0))) := Lib.hid (by rw [List.take_zero, show rowT K [] = [] from rfl, List.append_nil]; exact HSS.out)
      have HX1 := HX
      clear HSS HX
      obtain ⟨wo, hwo⟩ : ∃ wo, wo = wr := ⟨_, rfl⟩
      obtain ⟨So, hSo⟩ : ∃ So, So = S := ⟨_, rfl⟩
      subst hwo
      subst hSo
      go_loopg [5, 7, 8] W (fun gx v5 v7 v8 wx => ∃ (x : Nat) (S : ByteArray), x + gx = W ∧ v7 = .int .i64 (x : Int) ∧ v5 = .string S ∧ Hid (TxtIs S (hdrL K W H ++ encRows K ((rowsOf l W H).take y) ++ rowT K ((rowOf l W y).take x))) ∧ Hid (WiI w wx W H n c a l))
      case atStart => exact ⟨0, _, by omega, rfl, rfl, HS1, HX1⟩
      case round =>
        clear HS1 HX1
        obtain ⟨x, S, hx, rfl, rfl, HSS, HX⟩ := hrel
        obtain ⟨i0, i1, i2, z0, z1, z2, il⟩ := IB.all HX.out.I
        by_cases hxW : x < W
        · have hxI : (x : Int) < (W : Int) := by omega
          obtain ⟨g', rfl⟩ : ∃ g', gk = g' + 1 := ⟨gk - 1, by omega⟩
          have HPX := Lib.hid (HP.out x y hxW hyH _ (HBY.out.below HX.out.B))
          obtain ⟨q, hq⟩ : ∃ q, pcAt l (y * W + x) = q := ⟨_, rfl⟩
          have hrow := row_at (l := l) (W := W) (y := y) hxW
          rw [hq] at HPX hrow
          unfold Qc.v at HPX
          have HRO := Lib.hid hrow
          clear hq hrow
          go_upto_region 11 with (go_at_call 30; refine HPX.out.mono ?_; rintro e w7 ⟨rfl, b7⟩; have HX8 := Lib.hid ((HX.out.below b7).alloc (.cells #[.int .u8 (q.r.toNat : Int), .int .u8 (q.g.toNat : Int), .int .u8 (q.b.toNat : Int), .int .u8 (q.a.toNat : Int)] 48)); have C7 : CB (w7.alloc (.cells #[.int .u8 (q.r.toNat : Int), .int .u8 (q.g.toNat : Int), .int .u8 (q.b.toNat : Int), .int .u8 (q.a.toNat : Int)] 48)) w7.heap.size (q.r.toNat : Int) (q.g.toNat : Int) (q.b.toNat : Int) (q.a.toNat : Int) := Blk.new _ _ _; clear i0 i1 i2 z0 z1 z2 il)
          clear HX HPX b7
          generalize w7.alloc (.cells #[.int .u8 (q.r.toNat : Int), .int .u8 (q.g.toNat : Int), .int .u8 (q.b.toNat : Int), .int .u8 (q.a.toNat : Int)] 48) = w8 at HX8 C7 ⊢
          generalize w7.heap.size = qc at C7 ⊢
          have c0 := C7.c0
          have c1 := C7.c1
          have c2 := C7.c2
          by_cases hx0 : x = 0
          · have hx0I : ¬ (0 : Int) < (x : Int) := by omega
            have hr3 := dg_le q.r.toNat
            have hg3 := dg_le q.g.toNat
            have hb3 := dg_le q.b.toNat
            have hr4 := q.r.toNat_lt
            have hg4 := q.g.toNat_lt
            have hb4 := q.b.toNat_lt
            have D1 := Lib.hid (refDigitsC q.r.toNat (by omega))
            have D2 := Lib.hid (refDigitsC q.g.toNat (by omega))
            have D3 := Lib.hid (refDigitsC q.b.toNat (by omega))
            obtain ⟨e1, he1⟩ : ∃ e1, dec q.r.toNat ++ ⟨#[32]⟩ = e1 := ⟨_, rfl⟩
            have X1 : TxtIs e1 (dg q.r.toNat ++ [32]) := by rw [← he1]; exact (txt_dec _).add (show TxtIs ⟨#[32]⟩ [32] from rfl)
            have P1 : ∀ w : World, (Op.stringOp .add (dec q.r.toNat) ⟨#[32]⟩).run Tryz.prog w = .ok (.string e1) w := fun w => by rw [← he1]; exact add_run (txt_dec _) (show TxtIs ⟨#[32]⟩ [32] from rfl) (by simp only [List.length_append, List.length_cons, List.length_nil]; omega) w
            obtain ⟨e2, he2⟩ : ∃ e2, e1 ++ dec q.g.toNat = e2 := ⟨_, rfl⟩
            have X2 : TxtIs e2 (dg q.r.toNat ++ [32] ++ dg q.g.toNat) := by rw [← he2]; exact X1.add (txt_dec _)
            have P2 : ∀ w : World, (Op.stringOp .add e1 (dec q.g.toNat)).run Tryz.prog w = .ok (.string e2) w := fun w => by rw [← he2]; exact add_run X1 (txt_dec _) (by simp only [List.length_append, List.length_cons, List.length_nil]; omega) w
            obtain ⟨e3, he3⟩ : ∃ e3, e2 ++ ⟨#[32]⟩ = e3 := ⟨_, rfl⟩
            have X3 : TxtIs e3 (dg q.r.toNat ++ [32] ++ dg q.g.toNat ++ [32]) := by rw [← he3]; exact X2.add (show TxtIs ⟨#[32]⟩ [32] from rfl)
            have P3 : ∀ w : World, (Op.stringOp .add e2 ⟨#[32]⟩).run Tryz.prog w = .ok (.string e3) w := fun w => by rw [← he3]; exact add_run X2 (show TxtIs ⟨#[32]⟩ [32] from rfl) (by simp only [List.length_append, List.length_cons, List.length_nil]; omega) w
            obtain ⟨e4, he4⟩ : ∃ e4, e3 ++ dec q.b.toNat = e4 := ⟨_, rfl⟩
            have X4 : TxtIs e4 (dg q.r.toNat ++ [32] ++ dg q.g.toNat ++ [32] ++ dg q.b.toNat) := by rw [← he4]; exact X3.add (txt_dec _)
            have P4 : ∀ w : World, (Op.stringOp .add e3 (dec q.b.toNat)).run Tryz.prog w = .ok (.string e4) w := fun w => by rw [← he4]; exact add_run X3 (txt_dec _) (by simp only [List.length_append, List.length_cons, List.length_nil]; omega) w
            obtain ⟨S2, hS2⟩ : ∃ S2, S ++ e4 = S2 := ⟨_, rfl⟩
            have P5 : ∀ w : World, (Op.stringOp .add S e4).run Tryz.prog w = .ok (.string S2) w := fun w => by
              rw [← hS2]
              exact add_run HSS.out X4 (by have h1 := text_small3 (y := y) (l := l) HK3.out hWb hHb (Nat.le_of_lt hxW); have h2 : (dg q.r.toNat ++ [32] ++ dg q.g.toNat ++ [32] ++ dg q.b.toNat).length ≤ 800 := (by simp only [List.length_append, List.length_cons, List.length_nil]; omega); omega) w
            have HS2 : Hid (TxtIs S2 (hdrL K W H ++ encRows K ((rowsOf l W H).take y) ++ rowT K ((rowOf l W y).take (x + 1)))) := Lib.hid (by
              have h := HSS.out.add X4
              rw [hS2] at h
              rw [rowT_next HRO.out, ← List.append_assoc]
              rw [HK14.out] at h ⊢
              rw [if_pos hx0]
              simpa [pxT] using h)
            have w1 : IntKind.i64.wrap (q.r.toNat : Int) = (q.r.toNat : Int) := IntWalk.i64_in _ (by omega)
            have w2 : IntKind.i64.wrap (q.g.toNat : Int) = (q.g.toNat : Int) := IntWalk.i64_in _ (by omega)
            have w3 : IntKind.i64.wrap (q.b.toNat : Int) = (q.b.toNat : Int) := IntWalk.i64_in _ (by omega)
            generalize dec q.r.toNat = dR at P1 D1
            generalize dec q.g.toNat = dG at P2 D2
            generalize dec q.b.toNat = dB at P4 D3
            clear he1 he2 he3 he4 hS2 X1 X2 X3 X4 hr3 hg3 hb3
            go_upto_region 17 with fail
            refine wp_region_held_drew (S := fun wx => wx.cell? ⟨qc, 0, none⟩ = some (.int .u8 (q.r.toNat : Int)) ∧ wx.cell? ⟨qc, 1, none⟩ = some (.int .u8 (q.g.toNat : Int)) ∧ wx.cell? ⟨qc, 2, none⟩ = some (.int .u8 (q.b.toNat : Int))) (by kernel_rfl) ⟨c0, c1, c2⟩ (fun hHeld => ?_)
            refine wpAnyH_take (i := 0) (v := ?_) rfl (by kernel_rfl) (by kernel_rfl) (by kernel_rfl) (fun _ _ _ h => h) (Or.inl ⟨by kernel_rfl, ?_⟩) (by assumption) ?_
            rotate_left
            · intro w hSw; obtain ⟨s0, s1, s2⟩ := hSw; go_simp; (try with_reducible rfl)
            (try simp only [Act.put, List.getElem_toArray, List.getElem_cons_succ, List.getElem_cons_zero, List.setIfInBounds_toArray, List.set_cons_zero, List.set_cons_succ])
            refine wpAnyH_take (i := 1) (v := ?_) rfl (by kernel_rfl) (by kernel_rfl) (by kernel_rfl) (fun _ _ _ h => h) (Or.inl ⟨by kernel_rfl, ?_⟩) (by assumption) ?_
            rotate_left
            · intro w hSw; obtain ⟨s0, s1, s2⟩ := hSw; go_simp; (try with_reducible rfl)
            (try simp only [Act.put, List.getElem_toArray, List.getElem_cons_succ, List.getElem_cons_zero, List.setIfInBounds_toArray, List.set_cons_zero, List.set_cons_succ])
            refine wpAnyH_take (i := 2) (v := ?_) rfl (by kernel_rfl) (by kernel_rfl) (by kernel_rfl) (fun _ _ _ h => h) (Or.inl ⟨by kernel_rfl, ?_⟩) (by assumption) ?_
            rotate_left
            · intro w hSw; obtain ⟨s0, s1, s2⟩ := hSw; go_simp; (try with_reducible rfl)
            (try simp only [Act.put, List.getElem_toArray, List.getElem_cons_succ, List.getElem_cons_zero, List.setIfInBounds_toArray, List.set_cons_zero, List.set_cons_succ])
            refine wpAnyH_take (i := 3) (v := ?_) rfl (by kernel_rfl) (by kernel_rfl) (by kernel_rfl) (fun _ _ _ h => h) (Or.inl ⟨by kernel_rfl, ?_⟩) (by assumption) ?_
            rotate_left
            · intro w hSw; obtain ⟨s0, s1, s2⟩ := hSw; go_simp; (try with_reducible rfl)
            (try simp only [Act.put, List.getElem_toArray, List.getElem_cons_succ, List.getElem_cons_zero, List.setIfInBounds_toArray, List.set_cons_zero, List.set_cons_succ])
            refine wpAnyH_take (i := 6) (v := ?_) rfl (by kernel_rfl) (by kernel_rfl) (by kernel_rfl) (fun _ _ _ h => h) (Or.inl ⟨by kernel_rfl, ?_⟩) (by assumption) ?_
            rotate_left
            · intro w hSw; obtain ⟨s0, s1, s2⟩ := hSw; go_simp; (try with_reducible rfl)
            (try simp only [Act.put, List.getElem_toArray, List.getElem_cons_succ, List.getElem_cons_zero, List.setIfInBounds_toArray, List.set_cons_zero, List.set_cons_succ])
            refine wpAnyH_take (i := 7) (v := ?_) rfl (by kernel_rfl) (by kernel_rfl) (by kernel_rfl) (fun _ _ _ h => h) (Or.inl ⟨by kernel_rfl, ?_⟩) (by assumption) ?_
            rotate_left
            · intro w hSw; obtain ⟨s0, s1, s2⟩ := hSw; go_simp; (try with_reducible rfl)
            (try simp only [Act.put, List.getElem_toArray, List.getElem_cons_succ, List.getElem_cons_zero, List.setIfInBounds_toArray, List.set_cons_zero, List.set_cons_succ])
            refine wpAnyH_take (i := 8) (v := ?_) rfl (by kernel_rfl) (by kernel_rfl) (by kernel_rfl) (fun _ _ _ h => h) (Or.inl ⟨by kernel_rfl, ?_⟩) (by assumption) ?_
            rotate_left
            · intro w hSw; obtain ⟨s0, s1, s2⟩ := hSw; go_simp; (try with_reducible rfl)
            (try simp only [Act.put, List.getElem_toArray, List.getElem_cons_succ, List.getElem_cons_zero, List.setIfInBounds_toArray, List.set_cons_zero, List.set_cons_succ])
            refine wpAnyH_take (i := 12) (v := ?_) rfl (by kernel_rfl) (by kernel_rfl) (by kernel_rfl) (fun _ _ _ h => h) (Or.inl ⟨by kernel_rfl, ?_⟩) (by assumption) ?_
            rotate_left
            · intro w hSw; obtain ⟨s0, s1, s2⟩ := hSw; go_simp; (try with_reducible rfl)
            (try simp only [Act.put, List.getElem_toArray, List.getElem_cons_succ, List.getElem_cons_zero, List.setIfInBounds_toArray, List.set_cons_zero, List.set_cons_succ])
            refine wpAnyH_take (i := 13) (v := ?_) rfl (by kernel_rfl) (by kernel_rfl) (by kernel_rfl) (fun _ _ _ h => h) (Or.inl ⟨by kernel_rfl, ?_⟩) (by assumption) ?_
            rotate_left
            · intro w hSw; obtain ⟨s0, s1, s2⟩ := hSw; go_simp; (try with_reducible rfl)
            (try simp only [Act.put, List.getElem_toArray, List.getElem_cons_succ, List.getElem_cons_zero, List.setIfInBounds_toArray, List.set_cons_zero, List.set_cons_succ])
            refine wpAnyH_take (i := 14) (v := ?_) rfl (by kernel_rfl) (by kernel_rfl) (by kernel_rfl) (fun _ _ _ h => h) (Or.inl ⟨by kernel_rfl, ?_⟩) (by assumption) ?_
            rotate_left
            · intro w hSw; obtain ⟨s0, s1, s2⟩ := hSw; go_simp; (try with_reducible rfl)
            (try simp only [Act.put, List.getElem_toArray, List.getElem_cons_succ, List.getElem_cons_zero, List.setIfInBounds_toArray, List.set_cons_zero, List.set_cons_succ])
            refine wpAnyH_ready (rs := [4]) (by kernel_rfl) (by simp) ?_
            refine AllReadyH.cons rfl (fun K hK => ?_) AllReadyH.nil
            go_simp
            refine (D1.out _).mono ?_
            rintro e v0 ⟨rfl, y0⟩
            have M0 := WiI.below (HX8.out.drew) y0
            have N0 : CB v0 qc (q.r.toNat : Int) (q.g.toNat : Int) (q.b.toNat : Int) (q.a.toNat : Int) := Blk.below (Blk.drew C7) y0 (Blk.lt (Blk.drew C7))
            refine hK.out _ _ (⟨N0.c0, N0.c1, N0.c2⟩) (fun hHeld' => ?_)
            clear hK K hHeld
            have hHeld := hHeld'
            clear hHeld'
            (try simp only [Act.put, List.getElem_toArray, List.getElem_cons_succ, List.getElem_cons_zero, List.setIfInBounds_toArray, List.set_cons_zero, List.set_cons_succ])
            refine wpAnyH_take (i := 5) (v := ?_) rfl (by kernel_rfl) (by kernel_rfl) (by kernel_rfl) (fun _ _ _ h => h) (Or.inl ⟨by kernel_rfl, ?_⟩) (by assumption) ?_
            rotate_left
            · intro w hSw; obtain ⟨s0, s1, s2⟩ := hSw; go_simp; (try with_reducible rfl)
            (try simp only [Act.put, List.getElem_toArray, List.getElem_cons_succ, List.getElem_cons_zero, List.setIfInBounds_toArray, List.set_cons_zero, List.set_cons_succ])
            refine wpAnyH_ready (rs := [9]) (by kernel_rfl) (by simp) ?_
            refine AllReadyH.cons rfl (fun K hK => ?_) AllReadyH.nil
            go_simp
            refine (D2.out _).mono ?_
            rintro e v1 ⟨rfl, y1⟩
            have M1 := WiI.below (M0) y1
            have N1 : CB v1 qc (q.r.toNat : Int) (q.g.toNat : Int) (q.b.toNat : Int) (q.a.toNat : Int) := Blk.below (N0) y1 (Blk.lt (N0))
            refine hK.out _ _ (⟨N1.c0, N1.c1, N1.c2⟩) (fun hHeld' => ?_)
            clear hK K hHeld
            have hHeld := hHeld'
            clear hHeld'
            (try simp only [Act.put, List.getElem_toArray, List.getElem_cons_succ, List.getElem_cons_zero, List.setIfInBounds_toArray, List.set_cons_zero, List.set_cons_succ])
            refine wpAnyH_take (i := 10) (v := ?_) rfl (by kernel_rfl) (by kernel_rfl) (by kernel_rfl) (fun _ _ _ h => h) (Or.inl ⟨by kernel_rfl, ?_⟩) (by assumption) ?_
            rotate_left
            · intro w hSw; obtain ⟨s0, s1, s2⟩ := hSw; go_simp; (try with_reducible rfl)
            (try simp only [Act.put, List.getElem_toArray, List.getElem_cons_succ, List.getElem_cons_zero, List.setIfInBounds_toArray, List.set_cons_zero, List.set_cons_succ])
            refine wpAnyH_take (i := 11) (v := ?_) rfl (by kernel_rfl) (by kernel_rfl) (by kernel_rfl) (fun _ _ _ h => h) (Or.inl ⟨by kernel_rfl, ?_⟩) (by assumption) ?_
            rotate_left
            · intro w hSw; obtain ⟨s0, s1, s2⟩ := hSw; go_simp; (try with_reducible rfl)
            (try simp only [Act.put, List.getElem_toArray, List.getElem_cons_succ, List.getElem_cons_zero, List.setIfInBounds_toArray, List.set_cons_zero, List.set_cons_succ])
            refine wpAnyH_ready (rs := [15]) (by kernel_rfl) (by simp) ?_
            refine AllReadyH.cons rfl (fun K hK => ?_) AllReadyH.nil
            go_simp
            refine (D3.out _).mono ?_
            rintro e v2 ⟨rfl, y2⟩
            have M2 := WiI.below (M1) y2
            have N2 : CB v2 qc (q.r.toNat : Int) (q.g.toNat : Int) (q.b.toNat : Int) (q.a.toNat : Int) := Blk.below (N1) y2 (Blk.lt (N1))
            refine hK.out _ _ (⟨N2.c0, N2.c1, N2.c2⟩) (fun hHeld' => ?_)
            clear hK K hHeld
            have hHeld := hHeld'
            clear hHeld'
            (try simp only [Act.put, List.getElem_toArray, List.getElem_cons_succ, List.getElem_cons_zero, List.setIfInBounds_toArray, List.set_cons_zero, List.set_cons_succ])
            refine wpAnyH_take (i := 16) (v := ?_) rfl (by kernel_rfl) (by kernel_rfl) (by kernel_rfl) (fun _ _ _ h => h) (Or.inl ⟨by kernel_rfl, ?_⟩) (by assumption) ?_
            rotate_left
            · intro w hSw; obtain ⟨s0, s1, s2⟩ := hSw; go_simp; (try with_reducible rfl)
            (try simp only [Act.put, List.getElem_toArray, List.getElem_cons_succ, List.getElem_cons_zero, List.setIfInBounds_toArray, List.set_cons_zero, List.set_cons_succ])
            refine wpAnyH_take (i := 17) (v := ?_) rfl (by kernel_rfl) (by kernel_rfl) (by kernel_rfl) (fun _ _ _ h => h) (Or.inl ⟨by kernel_rfl, ?_⟩) (by assumption) ?_
            rotate_left
            · intro w hSw; obtain ⟨s0, s1, s2⟩ := hSw; go_simp; (try with_reducible rfl)
            (try simp only [Act.put, List.getElem_toArray, List.getElem_cons_succ, List.getElem_cons_zero, List.setIfInBounds_toArray, List.set_cons_zero, List.set_cons_succ])
            refine wpAnyH_take (i := 18) (v := ?_) rfl (by kernel_rfl) (by kernel_rfl) (by kernel_rfl) (fun _ _ _ h => h) (Or.inl ⟨by kernel_rfl, ?_⟩) (by assumption) ?_
            rotate_left
            · intro w hSw; obtain ⟨s0, s1, s2⟩ := hSw; go_simp; (try with_reducible rfl)
            (try simp only [Act.put, List.getElem_toArray, List.getElem_cons_succ, List.getElem_cons_zero, List.setIfInBounds_toArray, List.set_cons_zero, List.set_cons_succ])
            refine wpAnyH_done (by kernel_rfl) ?_ _
            (try simp only [List.getElem_toArray, List.getElem_cons_succ, List.getElem_cons_zero, List.set_cons_zero, List.set_cons_succ])
            clear hHeld
            go_wp2_with fail
            go_roundg g'
            case measure => omega
            case rel => exact ⟨x + 1, S2, by omega, by go_num, rfl, HS2, Lib.hid M2⟩
          · have hx0I : (0 : Int) < (x : Int) := by omega
            obtain ⟨S1, hS1⟩ : ∃ S1, S ++ ⟨#[32]⟩ = S1 := ⟨_, rfl⟩
            have A1 : ∀ w : World, (Op.stringOp .add S ⟨#[32]⟩).run Tryz.prog w = .ok (.string S1) w := fun w => by
              rw [← hS1]
              exact add_run HSS.out (show TxtIs ⟨#[32]⟩ [32] from rfl) (by have h1 := text_small3 (y := y) (l := l) HK3.out hWb hHb (Nat.le_of_lt hxW); simp only [List.length_cons, List.length_nil]; omega) w
            have HSS1 : Hid (TxtIs S1 (hdrL K W H ++ encRows K ((rowsOf l W H).take y) ++ rowT K ((rowOf l W y).take x) ++ [32])) := Lib.hid (by rw [← hS1]; exact HSS.out.add (show TxtIs ⟨#[32]⟩ [32] from rfl))
            clear hS1
            have hr3 := dg_le q.r.toNat
            have hg3 := dg_le q.g.toNat
            have hb3 := dg_le q.b.toNat
            have hr4 := q.r.toNat_lt
            have hg4 := q.g.toNat_lt
            have hb4 := q.b.toNat_lt
            have D1 := Lib.hid (refDigitsC q.r.toNat (by omega))
            have D2 := Lib.hid (refDigitsC q.g.toNat (by omega))
            have D3 := Lib.hid (refDigitsC q.b.toNat (by omega))
            obtain ⟨e1, he1⟩ : ∃ e1, dec q.r.toNat ++ ⟨#[32]⟩ = e1 := ⟨_, rfl⟩
            have X1 : TxtIs e1 (dg q.r.toNat ++ [32]) := by rw [← he1]; exact (txt_dec _).add (show TxtIs ⟨#[32]⟩ [32] from rfl)
            have P1 : ∀ w : World, (Op.stringOp .add (dec q.r.toNat) ⟨#[32]⟩).run Tryz.prog w = .ok (.string e1) w := fun w => by rw [← he1]; exact add_run (txt_dec _) (show TxtIs ⟨#[32]⟩ [32] from rfl) (by simp only [List.length_append, List.length_cons, List.length_nil]; omega) w
            obtain ⟨e2, he2⟩ : ∃ e2, e1 ++ dec q.g.toNat = e2 := ⟨_, rfl⟩
            have X2 : TxtIs e2 (dg q.r.toNat ++ [32] ++ dg q.g.toNat) := by rw [← he2]; exact X1.add (txt_dec _)
            have P2 : ∀ w : World, (Op.stringOp .add e1 (dec q.g.toNat)).run Tryz.prog w = .ok (.string e2) w := fun w => by rw [← he2]; exact add_run X1 (txt_dec _) (by simp only [List.length_append, List.length_cons, List.length_nil]; omega) w
            obtain ⟨e3, he3⟩ : ∃ e3, e2 ++ ⟨#[32]⟩ = e3 := ⟨_, rfl⟩
            have X3 : TxtIs e3 (dg q.r.toNat ++ [32] ++ dg q.g.toNat ++ [32]) := by rw [← he3]; exact X2.add (show TxtIs ⟨#[32]⟩ [32] from rfl)
            have P3 : ∀ w : World, (Op.stringOp .add e2 ⟨#[32]⟩).run Tryz.prog w = .ok (.string e3) w := fun w => by rw [← he3]; exact add_run X2 (show TxtIs ⟨#[32]⟩ [32] from rfl) (by simp only [List.length_append, List.length_cons, List.length_nil]; omega) w
            obtain ⟨e4, he4⟩ : ∃ e4, e3 ++ dec q.b.toNat = e4 := ⟨_, rfl⟩
            have X4 : TxtIs e4 (dg q.r.toNat ++ [32] ++ dg q.g.toNat ++ [32] ++ dg q.b.toNat) := by rw [← he4]; exact X3.add (txt_dec _)
            have P4 : ∀ w : World, (Op.stringOp .add e3 (dec q.b.toNat)).run Tryz.prog w = .ok (.string e4) w := fun w => by rw [← he4]; exact add_run X3 (txt_dec _) (by simp only [List.length_append, List.length_cons, List.length_nil]; omega) w
            obtain ⟨S2, hS2⟩ : ∃ S2, S1 ++ e4 = S2 := ⟨_, rfl⟩
            have P5 : ∀ w : World, (Op.stringOp .add S1 e4).run Tryz.prog w = .ok (.string S2) w := fun w => by
              rw [← hS2]
              exact add_run HSS1.out X4 (by have h1 := text_small3 (y := y) (l := l) HK3.out hWb hHb (Nat.le_of_lt hxW); have h2 : (dg q.r.toNat ++ [32] ++ dg q.g.toNat ++ [32] ++ dg q.b.toNat).length ≤ 800 := (by simp only [List.length_append, List.length_cons, List.length_nil]; omega); rw [List.length_append]; simp only [List.length_cons, List.length_nil]; omega) w
            have HS2 : Hid (TxtIs S2 (hdrL K W H ++ encRows K ((rowsOf l W H).take y) ++ rowT K ((rowOf l W y).take (x + 1)))) := Lib.hid (by
              have h := HSS1.out.add X4
              rw [hS2] at h
              rw [rowT_next HRO.out, ← List.append_assoc]
              rw [HK14.out] at h ⊢
              rw [if_neg hx0]
              simpa [pxT] using h)
            have w1 : IntKind.i64.wrap (q.r.toNat : Int) = (q.r.toNat : Int) := IntWalk.i64_in _ (by omega)
            have w2 : IntKind.i64.wrap (q.g.toNat : Int) = (q.g.toNat : Int) := IntWalk.i64_in _ (by omega)
            have w3 : IntKind.i64.wrap (q.b.toNat : Int) = (q.b.toNat : Int) := IntWalk.i64_in _ (by omega)
            generalize dec q.r.toNat = dR at P1 D1
            generalize dec q.g.toNat = dG at P2 D2
            generalize dec q.b.toNat = dB at P4 D3
            clear he1 he2 he3 he4 hS2 X1 X2 X3 X4 hr3 hg3 hb3
            go_upto_region 17 with fail
            refine wp_region_held_drew (S := fun wx => wx.cell? ⟨qc, 0, none⟩ = some (.int .u8 (q.r.toNat : Int)) ∧ wx.cell? ⟨qc, 1, none⟩ = some (.int .u8 (q.g.toNat : Int)) ∧ wx.cell? ⟨qc, 2, none⟩ = some (.int .u8 (q.b.toNat : Int))) (by kernel_rfl) ⟨c0, c1, c2⟩ (fun hHeld => ?_)
            refine wpAnyH_take (i := 0) (v := ?_) rfl (by kernel_rfl) (by kernel_rfl) (by kernel_rfl) (fun _ _ _ h => h) (Or.inl ⟨by kernel_rfl, ?_⟩) (by assumption) ?_
            rotate_left
            · intro w hSw; obtain ⟨s0, s1, s2⟩ := hSw; go_simp; (try with_reducible rfl)
            (try simp only [Act.put, List.getElem_toArray, List.getElem_cons_succ, List.getElem_cons_zero, List.setIfInBounds_toArray, List.set_cons_zero, List.set_cons_succ])
            refine wpAnyH_take (i := 1) (v := ?_) rfl (by kernel_rfl) (by kernel_rfl) (by kernel_rfl) (fun _ _ _ h => h) (Or.inl ⟨by kernel_rfl, ?_⟩) (by assumption) ?_
            rotate_left
            · intro w hSw; obtain ⟨s0, s1, s2⟩ := hSw; go_simp; (try with_reducible rfl)
            (try simp only [Act.put, List.getElem_toArray, List.getElem_cons_succ, List.getElem_cons_zero, List.setIfInBounds_toArray, List.set_cons_zero, List.set_cons_succ])
            refine wpAnyH_take (i := 2) (v := ?_) rfl (by kernel_rfl) (by kernel_rfl) (by kernel_rfl) (fun _ _ _ h => h) (Or.inl ⟨by kernel_rfl, ?_⟩) (by assumption) ?_
            rotate_left
            · intro w hSw; obtain ⟨s0, s1, s2⟩ := hSw; go_simp; (try with_reducible rfl)
            (try simp only [Act.put, List.getElem_toArray, List.getElem_cons_succ, List.getElem_cons_zero, List.setIfInBounds_toArray, List.set_cons_zero, List.set_cons_succ])
            refine wpAnyH_take (i := 3) (v := ?_) rfl (by kernel_rfl) (by kernel_rfl) (by kernel_rfl) (fun _ _ _ h => h) (Or.inl ⟨by kernel_rfl, ?_⟩) (by assumption) ?_
            rotate_left
            · intro w hSw; obtain ⟨s0, s1, s2⟩ := hSw; go_simp; (try with_reducible rfl)
            (try simp only [Act.put, List.getElem_toArray, List.getElem_cons_succ, List.getElem_cons_zero, List.setIfInBounds_toArray, List.set_cons_zero, List.set_cons_succ])
            refine wpAnyH_take (i := 6) (v := ?_) rfl (by kernel_rfl) (by kernel_rfl) (by kernel_rfl) (fun _ _ _ h => h) (Or.inl ⟨by kernel_rfl, ?_⟩) (by assumption) ?_
            rotate_left
            · intro w hSw; obtain ⟨s0, s1, s2⟩ := hSw; go_simp; (try with_reducible rfl)
            (try simp only [Act.put, List.getElem_toArray, List.getElem_cons_succ, List.getElem_cons_zero, List.setIfInBounds_toArray, List.set_cons_zero, List.set_cons_succ])
            refine wpAnyH_take (i := 7) (v := ?_) rfl (by kernel_rfl) (by kernel_rfl) (by kernel_rfl) (fun _ _ _ h => h) (Or.inl ⟨by kernel_rfl, ?_⟩) (by assumption) ?_
            rotate_left
            · intro w hSw; obtain ⟨s0, s1, s2⟩ := hSw; go_simp; (try with_reducible rfl)
            (try simp only [Act.put, List.getElem_toArray, List.getElem_cons_succ, List.getElem_cons_zero, List.setIfInBounds_toArray, List.set_cons_zero, List.set_cons_succ])
            refine wpAnyH_take (i := 8) (v := ?_) rfl (by kernel_rfl) (by kernel_rfl) (by kernel_rfl) (fun _ _ _ h => h) (Or.inl ⟨by kernel_rfl, ?_⟩) (by assumption) ?_
            rotate_left
            · intro w hSw; obtain ⟨s0, s1, s2⟩ := hSw; go_simp; (try with_reducible rfl)
            (try simp only [Act.put, List.getElem_toArray, List.getElem_cons_succ, List.getElem_cons_zero, List.setIfInBounds_toArray, List.set_cons_zero, List.set_cons_succ])
            refine wpAnyH_take (i := 12) (v := ?_) rfl (by kernel_rfl) (by kernel_rfl) (by kernel_rfl) (fun _ _ _ h => h) (Or.inl ⟨by kernel_rfl, ?_⟩) (by assumption) ?_
            rotate_left
            · intro w hSw; obtain ⟨s0, s1, s2⟩ := hSw; go_simp; (try with_reducible rfl)
            (try simp only [Act.put, List.getElem_toArray, List.getElem_cons_succ, List.getElem_cons_zero, List.setIfInBounds_toArray, List.set_cons_zero, List.set_cons_succ])
            refine wpAnyH_take (i := 13) (v := ?_) rfl (by kernel_rfl) (by kernel_rfl) (by kernel_rfl) (fun _ _ _ h => h) (Or.inl ⟨by kernel_rfl, ?_⟩) (by assumption) ?_
            rotate_left
            · intro w hSw; obtain ⟨s0, s1, s2⟩ := hSw; go_simp; (try with_reducible rfl)
            (try simp only [Act.put, List.getElem_toArray, List.getElem_cons_succ, List.getElem_cons_zero, List.setIfInBounds_toArray, List.set_cons_zero, List.set_cons_succ])
            refine wpAnyH_take (i := 14) (v := ?_) rfl (by kernel_rfl) (by kernel_rfl) (by kernel_rfl) (fun _ _ _ h => h) (Or.inl ⟨by kernel_rfl, ?_⟩) (by assumption) ?_
            rotate_left
            · intro w hSw; obtain ⟨s0, s1, s2⟩ := hSw; go_simp; (try with_reducible rfl)
            (try simp only [Act.put, List.getElem_toArray, List.getElem_cons_succ, List.getElem_cons_zero, List.setIfInBounds_toArray, List.set_cons_zero, List.set_cons_succ])
            refine wpAnyH_ready (rs := [4]) (by kernel_rfl) (by simp) ?_
            refine AllReadyH.cons rfl (fun K hK => ?_) AllReadyH.nil
            go_simp
            refine (D1.out _).mono ?_
            rintro e v0 ⟨rfl, y0⟩
            have M0 := WiI.below (HX8.out.drew) y0
            have N0 : CB v0 qc (q.r.toNat : Int) (q.g.toNat : Int) (q.b.toNat : Int) (q.a.toNat : Int) := Blk.below (Blk.drew C7) y0 (Blk.lt (Blk.drew C7))
            refine hK.out _ _ (⟨N0.c0, N0.c1, N0.c2⟩) (fun hHeld' => ?_)
            clear hK K hHeld
            have hHeld := hHeld'
            clear hHeld'
            (try simp only [Act.put, List.getElem_toArray, List.getElem_cons_succ, List.getElem_cons_zero, List.setIfInBounds_toArray, List.set_cons_zero, List.set_cons_succ])
            refine wpAnyH_take (i := 5) (v := ?_) rfl (by kernel_rfl) (by kernel_rfl) (by kernel_rfl) (fun _ _ _ h => h) (Or.inl ⟨by kernel_rfl, ?_⟩) (by assumption) ?_
            rotate_left
            · intro w hSw; obtain ⟨s0, s1, s2⟩ := hSw; go_simp; (try with_reducible rfl)
            (try simp only [Act.put, List.getElem_toArray, List.getElem_cons_succ, List.getElem_cons_zero, List.setIfInBounds_toArray, List.set_cons_zero, List.set_cons_succ])
            refine wpAnyH_ready (rs := [9]) (by kernel_rfl) (by simp) ?_
            refine AllReadyH.cons rfl (fun K hK => ?_) AllReadyH.nil
            go_simp
            refine (D2.out _).mono ?_
            rintro e v1 ⟨rfl, y1⟩
            have M1 := WiI.below (M0) y1
            have N1 : CB v1 qc (q.r.toNat : Int) (q.g.toNat : Int) (q.b.toNat : Int) (q.a.toNat : Int) := Blk.below (N0) y1 (Blk.lt (N0))
            refine hK.out _ _ (⟨N1.c0, N1.c1, N1.c2⟩) (fun hHeld' => ?_)
            clear hK K hHeld
            have hHeld := hHeld'
            clear hHeld'
            (try simp only [Act.put, List.getElem_toArray, List.getElem_cons_succ, List.getElem_cons_zero, List.setIfInBounds_toArray, List.set_cons_zero, List.set_cons_succ])
            refine wpAnyH_take (i := 10) (v := ?_) rfl (by kernel_rfl) (by kernel_rfl) (by kernel_rfl) (fun _ _ _ h => h) (Or.inl ⟨by kernel_rfl, ?_⟩) (by assumption) ?_
            rotate_left
            · intro w hSw; obtain ⟨s0, s1, s2⟩ := hSw; go_simp; (try with_reducible rfl)
            (try simp only [Act.put, List.getElem_toArray, List.getElem_cons_succ, List.getElem_cons_zero, List.setIfInBounds_toArray, List.set_cons_zero, List.set_cons_succ])
            refine wpAnyH_take (i := 11) (v := ?_) rfl (by kernel_rfl) (by kernel_rfl) (by kernel_rfl) (fun _ _ _ h => h) (Or.inl ⟨by kernel_rfl, ?_⟩) (by assumption) ?_
            rotate_left
            · intro w hSw; obtain ⟨s0, s1, s2⟩ := hSw; go_simp; (try with_reducible rfl)
            (try simp only [Act.put, List.getElem_toArray, List.getElem_cons_succ, List.getElem_cons_zero, List.setIfInBounds_toArray, List.set_cons_zero, List.set_cons_succ])
            refine wpAnyH_ready (rs := [15]) (by kernel_rfl) (by simp) ?_
            refine AllReadyH.cons rfl (fun K hK => ?_) AllReadyH.nil
            go_simp
            refine (D3.out _).mono ?_
            rintro e v2 ⟨rfl, y2⟩
            have M2 := WiI.below (M1) y2
            have N2 : CB v2 qc (q.r.toNat : Int) (q.g.toNat : Int) (q.b.toNat : Int) (q.a.toNat : Int) := Blk.below (N1) y2 (Blk.lt (N1))
            refine hK.out _ _ (⟨N2.c0, N2.c1, N2.c2⟩) (fun hHeld' => ?_)
            clear hK K hHeld
            have hHeld := hHeld'
            clear hHeld'
            (try simp only [Act.put, List.getElem_toArray, List.getElem_cons_succ, List.getElem_cons_zero, List.setIfInBounds_toArray, List.set_cons_zero, List.set_cons_succ])
            refine wpAnyH_take (i := 16) (v := ?_) rfl (by kernel_rfl) (by kernel_rfl) (by kernel_rfl) (fun _ _ _ h => h) (Or.inl ⟨by kernel_rfl, ?_⟩) (by assumption) ?_
            rotate_left
            · intro w hSw; obtain ⟨s0, s1, s2⟩ := hSw; go_simp; (try with_reducible rfl)
            (try simp only [Act.put, List.getElem_toArray, List.getElem_cons_succ, List.getElem_cons_zero, List.setIfInBounds_toArray, List.set_cons_zero, List.set_cons_succ])
            refine wpAnyH_take (i := 17) (v := ?_) rfl (by kernel_rfl) (by kernel_rfl) (by kernel_rfl) (fun _ _ _ h => h) (Or.inl ⟨by kernel_rfl, ?_⟩) (by assumption) ?_
            rotate_left
            · intro w hSw; obtain ⟨s0, s1, s2⟩ := hSw; go_simp; (try with_reducible rfl)
            (try simp only [Act.put, List.getElem_toArray, List.getElem_cons_succ, List.getElem_cons_zero, List.setIfInBounds_toArray, List.set_cons_zero, List.set_cons_succ])
            refine wpAnyH_take (i := 18) (v := ?_) rfl (by kernel_rfl) (by kernel_rfl) (by kernel_rfl) (fun _ _ _ h => h) (Or.inl ⟨by kernel_rfl, ?_⟩) (by assumption) ?_
            rotate_left
            · intro w hSw; obtain ⟨s0, s1, s2⟩ := hSw; go_simp; (try with_reducible rfl)
            (try simp only [Act.put, List.getElem_toArray, List.getElem_cons_succ, List.getElem_cons_zero, List.setIfInBounds_toArray, List.set_cons_zero, List.set_cons_succ])
            refine wpAnyH_done (by kernel_rfl) ?_ _
            (try simp only [List.getElem_toArray, List.getElem_cons_succ, List.getElem_cons_zero, List.set_cons_zero, List.set_cons_succ])
            clear hHeld
            go_wp2_with fail
            go_roundg g'
            case measure => omega
            case rel => exact ⟨x + 1, S2, by omega, by go_num, rfl, HS2, Lib.hid M2⟩
        · obtain rfl : x = W := by omega
          obtain rfl : gk = 0 := by omega
          have hxI : ¬ (x : Int) < (x : Int) := by omega
          obtain ⟨S2, hS2⟩ : ∃ S2, S ++ ⟨#[10]⟩ = S2 := ⟨_, rfl⟩
          have A2 : ∀ w : World, (Op.stringOp .add S ⟨#[10]⟩).run Tryz.prog w = .ok (.string S2) w := fun w => by
            rw [← hS2]
            exact add_run HSS.out (show TxtIs ⟨#[10]⟩ [10] from rfl) (by have h1 := text_small3 (y := y) (l := l) (x := x) HK3.out hWb hHb (Nat.le_refl _); simp only [List.length_cons, List.length_nil]; omega) w
          have HS2 : Hid (TxtIs S2 (hdrL K x H ++ encRows K ((rowsOf l x H).take (y + 1)))) := Lib.hid (by
            have h := HSS.out.add (show TxtIs ⟨#[10]⟩ [10] from rfl)
            rw [hS2, List.take_of_length_le (show (rowOf l x y).length ≤ x by rw [rowOf_len]; exact Nat.le_refl _)] at h
            rw [rows_next hyH, ← rowT_end HK3.out, ← List.append_assoc, ← List.append_assoc]
            exact h)
          clear hS2
          go_wp2_with fail
          go_roundg m
          case measure => omega
          case rel => exact ⟨y + 1, S2, by omega, by go_num, rfl, HS2, HX⟩
    · obtain rfl : y = H := by omega
      obtain rfl : gk = 0 := by omega
      have hyI : ¬ (y : Int) < (y : Int) := by omega
      have hO := HSS.out
      rw [List.take_of_length_le (show (rowsOf l W y).length ≤ y by unfold rowsOf; simp)] at hO
      have HO := Lib.hid hO
      clear hO
      go_wp2_with fail
      go_ret
      exact ⟨HX.out.B, by rw [show strOf (encL K W y l) = S from (TxtIs.is HO.out).symm]; rfl⟩
theorem refTextC {K : Nat} (hK : K = 1 ∨ K = 2 ∨ K = 3) {W H n c : Nat} {a : Option Addr} {l : List UInt8} {w : World} (hr : RightP (W : Int) (H : Int) n) (hl : n = l.length) (hnc : n ≤ c) (hb : BytesAt w a n l) (hWb : W ≤ 4000) (hHb : H ≤ 4000) : Calls Tryz.prog 10 #[.agg #[.int .i64 (W : Int), .int .i64 (H : Int), .slice a n c], .int .i64 (K : Int)] w fun e w' => Below w.heap.size w w' ∧ e = .returned (.string (strOf (encL K W H l))) := by
  rcases hK with h | h | h
  · exact refText_1 h hr hl hnc hb hWb hHb
  · exact refText_2 h hr hl hnc hb hWb hHb
  · exact refText_3 h hr hl hnc hb hWb hHb
end Go.Proofs.YthljhebbblhakaaGreatDoor
