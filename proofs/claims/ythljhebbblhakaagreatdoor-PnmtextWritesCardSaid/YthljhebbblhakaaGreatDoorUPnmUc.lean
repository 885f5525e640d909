/- Writing PNM: pnmtext.Write. -/
import Derived.Test.YthljhebbblhakaaGreatDoorEWords
import Derived.Test.YthljhebbblhakaaGreatDoorProg
import Derived.WalkKit
import Derived.WalkSpells
import Derived.WalkLawsBesides
import Derived.Lib.Hide
import Derived.Laws.OwnMore
import Derived.Deep.AppendLies
import Derived.Deep.Draws
import Derived.Deep.Onto
import Derived.Deep.AppendSrc
import Derived.Deep.QuietTactic
import Derived.BigQuiet
import Derived.Deep.LoopGhost
import Derived.Deep.CutBlock
import Derived.Deep.DeepCutAuto
import Derived.Deep.Light
import Derived.Deep.RegionWith
import Derived.Test.YthljhebbblhakaaGreatDoorESync
import Derived.Defers
import Derived.Laws.Pointers
import Derived.Laws.LoneSync
import Derived.Laws.NewBlocks
import Derived.RegionTactic
import Derived.RegionCalls
import Derived.ChangeAlike
import Derived.Laws.Rows
import Derived.StillTailTactics
import Derived.Test.YthljhebbblhakaaGreatDoorEBits
import Derived.Laws.BitsAllLaws
import Derived.Laws.BitsLemmas
import Derived.Test.YthljhebbblhakaaGreatDoorEPnmHead
import Derived.Test.YthljhebbblhakaaGreatDoorETok
import Derived.WalkMore
import Derived.ScopeJumps
import Derived.Test.YthljhebbblhakaaGreatDoorEPnmD
import Derived.Test.YthljhebbblhakaaGreatDoorEPnmBst
import Derived.Deep.OwnRows
import Derived.Test.YthljhebbblhakaaGreatDoorEPnmEnc
import Derived.Lib.ItoaNum
import Derived.Test.YthljhebbblhakaaGreatDoorEPnmEnd
import Derived.Test.YthljhebbblhakaaGreatDoorETok2
import Derived.Test.YthljhebbblhakaaGreatDoorETok3
import Derived.Test.YthljhebbblhakaaGreatDoorETok4
import Derived.Test.YthljhebbblhakaaGreatDoorENum
import Derived.Test.YthljhebbblhakaaGreatDoorUPnmW
import Derived.Lib.Mul64
import Derived.Laws.Bits64b
import Derived.Test.YthljhebbblhakaaGreatDoorEBuf
import Derived.Lib.BufferWrite
import Derived.Test.YthljhebbblhakaaGreatDoorERas
import Derived.Test.YthljhebbblhakaaGreatDoorEPnmW
import Derived.Test.YthljhebbblhakaaGreatDoorEPnmKind
import Derived.Test.YthljhebbblhakaaGreatDoorEPnmH
import Derived.Test.YthljhebbblhakaaGreatDoorEPnmStage
import Derived.Test.YthljhebbblhakaaGreatDoorEPnmR
import Derived.Test.YthljhebbblhakaaGreatDoorEPnmR2
import Derived.Test.YthljhebbblhakaaGreatDoorEPnmHd
import Derived.Test.YthljhebbblhakaaGreatDoorEOpenInts
import Derived.ProofKit
import Derived.OpenShut
import Derived.Deep.Slices
import Derived.Test.YthljhebbblhakaaGreatDoorEScaler
import Derived.Test.YthljhebbblhakaaGreatDoorEFfRef3
import Derived.Test.YthljhebbblhakaaGreatDoorUFfD
import Derived.Deep.RegionHeld3
import Derived.ArgAppend
import Derived.Lib.SlBytesConst
import Derived.Deep.RegionLaw
import Derived.Test.YthljhebbblhakaaGreatDoorEFfM
import Derived.Lib.ConvBytes
import Derived.Lib.SliceRun
import Derived.BigRegion
import Derived.Deep.Fields
import Derived.ChangeSame
import Derived.Lib.SmallJoins
import Derived.Test.YthljhebbblhakaaGreatDoorEPnmWb
import Derived.Test.YthljhebbblhakaaGreatDoorPnmShelf
import Derived.Lib.AppendIntMem
import Derived.Test.YthljhebbblhakaaGreatDoorEPnmWc
import Derived.Test.YthljhebbblhakaaGreatDoorETgaKm
import Derived.Test.YthljhebbblhakaaGreatDoorEPnmWd
import Derived.Test.YthljhebbblhakaaGreatDoorEPnmDocs
import Derived.Test.YthljhebbblhakaaGreatDoorUPnmT
import Derived.Test.YthljhebbblhakaaGreatDoorEPnmWg
import Derived.Test.YthljhebbblhakaaGreatDoorUPnmUm
import Derived.Lib.ItoaMem
import Derived.CellFam
import Derived.Test.YthljhebbblhakaaGreatDoorEPnmWh
namespace Go.Proofs.YthljhebbblhakaaGreatDoor
open Go.RowKit
set_option linter.unusedVariables false
set_option linter.unusedSimpArgs false

def gpS (n : Nat) : ByteArray := ⟨(gp n).toArray⟩
theorem gpS_list (n : Nat) : (gpS n).data.toList = gp n := by unfold gpS; simp
theorem gpS_size (n : Nat) : (gpS n).size ≤ 1 := by unfold gpS gp; split <;> decide
theorem gpS_pos {n : Nat} (h : 1 ≤ n) : gpS n = ⟨#[32]⟩ := by unfold gpS gp; rw [if_neg (by omega)]
theorem dg_le (n : Nat) : (dg n).length ≤ n + 1 := dec_size' n
theorem pxT_len (K : Nat) (b : UInt8) (q : Qc) : (pxT K b q).length ≤ 800 := by
  have h1 := dg_le q.r.toNat
  have h2 := dg_le q.g.toNat
  have h3 := dg_le q.b.toNat
  have e1 := q.r.toNat_lt
  have e2 := q.g.toNat_lt
  have e3 := q.b.toNat_lt
  unfold pxT
  split
  · simp
  · split
    · simp only [List.length_cons, List.length_append]; omega
    · simp only [List.length_cons]; omega
theorem rowT_len (K : Nat) (L : List Qc) : (rowT K L).length ≤ 800 * L.length := by
  have h : ∀ M : List Qc, ((M.map (pxT K 32)).flatten).length ≤ 800 * M.length := by
    intro M
    induction M with
    | nil => simp
    | cons x M ih =>
      rw [List.map_cons, List.flatten_cons, List.length_append, List.length_cons]
      have := pxT_len K 32 x
      omega
  cases L with
  | nil => simp [rowT]
  | cons q qs =>
    unfold rowT
    rw [List.length_append, List.length_tail, List.length_cons]
    have h1 := pxT_len K 10 q
    have h2 := h qs
    omega
theorem smpT_len {x : Nat} {K : Nat} {q : Qc} (i : Nat) : (smpT x (smp K q) i).length ≤ 800 := by
  have h : ∀ S : List Nat, (∀ t ∈ S, t ≤ 255) → ((S.map fun t => 32 :: dg t).flatten).length ≤ 257 * S.length := by
    intro S
    induction S with
    | nil => intro _; simp
    | cons t S ih =>
      intro hS
      rw [List.map_cons, List.flatten_cons, List.length_append, List.length_cons, List.length_cons]
      have h1 := dg_le t
      have h2 := hS t List.mem_cons_self
      have h3 := ih (fun u hu => hS u (List.mem_cons_of_mem _ hu))
      omega
  have hs := h ((smp K q).take i) (fun t ht => by
    obtain ⟨j, hj⟩ := List.getElem?_of_mem (List.mem_of_mem_take ht)
    exact smp_le hj)
  have h3 := (smp_pos K q).2
  have h4 : ((smp K q).take i).length ≤ 3 := by rw [List.length_take]; omega
  unfold smpT
  split
  · rw [List.length_tail]; omega
  · omega
theorem text_len {K W : Nat} (hK : K = 1 ∨ K = 2 ∨ K = 3) : ∀ rows : List (List Qc), (∀ r ∈ rows, r.length = W) → (encRows K rows).length ≤ rows.length * (800 * W + 1)
  | [], _ => by simp [encRows]
  | r :: rows, h => by
    have h1 := rowT_len K r
    have h2 := text_len hK rows (fun x hx => h x (List.mem_cons_of_mem _ hx))
    have h3 : (encRow K r).length = (rowT K r).length + 1 := by rw [← rowT_end hK]; simp
    rw [h r List.mem_cons_self] at h1
    unfold encRows at h2 ⊢
    rw [List.map_cons, List.flatten_cons, List.length_append, List.length_cons, Nat.add_mul, Nat.one_mul]
    omega
theorem text_small {K W H y : Nat} {l : List UInt8} (hK : K = 1 ∨ K = 2 ∨ K = 3) (hW : W ≤ 4000) (hH : H ≤ 4000) : (hdrL K W H ++ encRows K ((rowsOf l W H).take y)).length < 100000000000 := by
  have h2 := text_len (W := W) hK ((rowsOf l W H).take y) (fun r hr => by
    obtain ⟨z, _, rfl⟩ := List.mem_map.1 (List.mem_of_mem_take hr)
    exact rowOf_len l W z)
  have h3 : ((rowsOf l W H).take y).length ≤ 4000 := by
    rw [List.length_take]
    unfold rowsOf
    simp
    omega
  have h4 : ((rowsOf l W H).take y).length * (800 * W + 1) ≤ 4000 * 3200001 := Nat.mul_le_mul h3 (by omega)
  have h5 := hdr_len K W H
  have h8 : (dN W).length ≤ W + 1 := by rw [dg_len]; exact dg_le W
  have h9 : (dN H).length ≤ H + 1 := by rw [dg_len]; exact dg_le H
  rw [List.length_append, h5]
  split <;> omega
theorem text_part {K W H y x : Nat} {l : List UInt8} (hK : K = 1 ∨ K = 2 ∨ K = 3) (hW : W ≤ 4000) (hH : H ≤ 4000) (hx : x ≤ W) : (hdrL K W H ++ encRows K ((rowsOf l W H).take y) ++ rowT K ((rowOf l W y).take x)).length < 110000000000 := by
  have h1 := text_small (y := y) (l := l) hK hW hH
  have h2 := rowT_len K ((rowOf l W y).take x)
  have h3 : ((rowOf l W y).take x).length ≤ 4000 := by rw [List.length_take]; omega
  rw [List.length_append]
  omega
theorem hdrA_one (W H : Nat) : hdrA 1 W H = hdrL 1 W H := by unfold hdrA hdrL; simp
theorem smp_at {K : Nat} {q : Qc} {i : Nat} (h : i < (smp K q).length) : ∃ t : Nat, (smp K q)[i]? = some t ∧ ((smp K q).map fun (t : Nat) => Value.int .i64 (t : Int)).toArray[i]? = some (.int .i64 (t : Int)) := by
  refine ⟨(smp K q)[i], List.getElem?_eq_getElem h, ?_⟩
  simp [List.getElem?_eq_getElem h]
set_option maxRecDepth 100000 in
set_option maxHeartbeats 8000000 in
theorem textWrite_one {K : Nat} (hK : K = 1) {W H n c : Nat} {a : Option Addr} {l : List UInt8} {w : World} (hT : TabW w) (hr : RightP (W : Int) (H : Int) n) (hl : n = l.length) (hnc : n ≤ c) (hb : BytesAt w a n l) (hWb : W ≤ 4000) (hHb : H ≤ 4000) : Calls Tryz.prog 7 #[.agg #[.int .i64 (W : Int), .int .i64 (H : Int), .slice a n c], .int .i64 (K : Int)] w fun e w' => Below w.heap.size w w' ∧ e = .returned (rawV K W H l) := by
  have hW := hr.1
  have hH := hr.2.1
  have hK4b : ¬ (1 : Int) < (K : Int) := by omega
  have hKt : K ≤ 3 := by omega
  have HK3 : Hid (K = 1 ∨ K = 2 ∨ K = 3) := Lib.hid (by omega)
  have HK14 : Hid (K = 1) := Lib.hid hK
  have HTX : Hid (∀ w, Calls Tryz.prog 23 #[.int .i64 (K : Int)] w fun e w' => e = .returned (.bool true) ∧ w = w') := Lib.hid (fun w => by
    have h := ptext_any K w
    rw [decide_eq_true (by omega)] at h
    exact h)
  have HP := Lib.hid (fun (X Y : Nat) (hX : X < W) (hY : Y < H) => (px_both (a := a) hr hl hnc hX hY).1)
  have HRT := Lib.hid (fun w => right_true (a := a) (c := c) hr w)
  have HBY := Lib.hid hb
  have HT := Lib.hid hT
  have HIT1 := Lib.hid (fun (w' : World) (b : Below w.heap.size w w') => itoaC (hT.below b) (n := K) (by omega))
  have HIT2 := Lib.hid (fun (w' : World) (b : Below w.heap.size w w') => itoaC (hT.below b) (n := W) (by omega))
  have HIT3 := Lib.hid (fun (w' : World) (b : Below w.heap.size w w') => itoaC (hT.below b) (n := H) (by omega))
  have W1 : WiI w (w.alloc (.cells #[.int .i64 (W : Int), .int .i64 (H : Int), .slice a n c] 24)) W H n c a l := WiI.new hb
  have z1 := dec_size K
  have z2 := dec_size W
  have z3 := dec_size H
  have z4 : (⟨#[80]⟩ : ByteArray).size = 1 := rfl
  have z5 : (⟨#[10]⟩ : ByteArray).size = 1 := rfl
  have z6 : (⟨#[32]⟩ : ByteArray).size = 1 := rfl
  obtain ⟨c1, hc1⟩ : ∃ c1, (⟨#[80]⟩ : ByteArray) ++ dec K = c1 := ⟨_, rfl⟩
  have s1 : c1.size = 1 + (dec K).size := by rw [← hc1, ByteArray.size_append, z4]
  have A1 : ∀ w : World, (Op.stringOp .add ⟨#[80]⟩ (dec K)).run Tryz.prog w = .ok (.string c1) w := fun w => by rw [← hc1]; exact run_string_add_sum w _ _ (by omega)
  obtain ⟨c2, hc2⟩ : ∃ c2, c1 ++ ⟨#[10]⟩ = c2 := ⟨_, rfl⟩
  have s2 : c2.size = c1.size + 1 := by rw [← hc2, ByteArray.size_append, z5]
  have A2 : ∀ w : World, (Op.stringOp .add c1 ⟨#[10]⟩).run Tryz.prog w = .ok (.string c2) w := fun w => by rw [← hc2]; exact run_string_add_sum w _ _ (by omega)
  obtain ⟨c3, hc3⟩ : ∃ c3, c2 ++ dec W = c3 := ⟨_, rfl⟩
  have s3 : c3.size = c2.size + (dec W).size := by rw [← hc3, ByteArray.size_append]
  have A3 : ∀ w : World, (Op.stringOp .add c2 (dec W)).run Tryz.prog w = .ok (.string c3) w := fun w => by rw [← hc3]; exact run_string_add_sum w _ _ (by omega)
  obtain ⟨c4, hc4⟩ : ∃ c4, c3 ++ ⟨#[32]⟩ = c4 := ⟨_, rfl⟩
  have s4 : c4.size = c3.size + 1 := by rw [← hc4, ByteArray.size_append, z6]
  have A4 : ∀ w : World, (Op.stringOp .add c3 ⟨#[32]⟩).run Tryz.prog w = .ok (.string c4) w := fun w => by rw [← hc4]; exact run_string_add_sum w _ _ (by omega)
  obtain ⟨c5, hc5⟩ : ∃ c5, c4 ++ dec H = c5 := ⟨_, rfl⟩
  have s5 : c5.size = c4.size + (dec H).size := by rw [← hc5, ByteArray.size_append]
  have A5 : ∀ w : World, (Op.stringOp .add c4 (dec H)).run Tryz.prog w = .ok (.string c5) w := fun w => by rw [← hc5]; exact run_string_add_sum w _ _ (by omega)
  obtain ⟨c6, hc6⟩ : ∃ c6, c5 ++ ⟨#[10]⟩ = c6 := ⟨_, rfl⟩
  have s6 : c6.size = c5.size + 1 := by rw [← hc6, ByteArray.size_append, z5]
  have A6 : ∀ w : World, (Op.stringOp .add c5 ⟨#[10]⟩).run Tryz.prog w = .ok (.string c6) w := fun w => by rw [← hc6]; exact run_string_add_sum w _ _ (by omega)
  have hc6s : c6.size ≤ 1000000 := by omega
  have hc6l : c6.data.toList = hdrA K W H := by rw [← hc6, ← hc5, ← hc4, ← hc3, ← hc2, ← hc1]; exact hdr_text (by omega)
  have HC6 := Lib.hid hc6l
  generalize dec K = dK at A1 s1 HIT1
  generalize dec W = dW at A3 s3 HIT2
  generalize dec H = dH at A5 s5 HIT3
  have hc6l := HC6.out
  clear hr hl hnc hb hT hc1 hc2 hc3 hc4 hc5 hc6 s1 s2 s3 s4 s5 s6 z1 z2 z3 z4 z5 z6 hc6l hK
  go_enter Tryz.func7, Tryz.ntmps7
  have HI0 := Lib.hid W1
  obtain ⟨i0, i1, i2, z0, z1, z2, il⟩ := IB.all W1.I
  go_upto_region 5 with (first | (go_at_call 23; refine (HTX.out _).mono ?_; rintro e w'' ⟨rfl, rfl⟩) | (go_at_call 24; refine (HRT.out _).mono ?_; rintro e w1 ⟨rfl, b1⟩; have W2 := HI0.out.below b1; clear i0 i1 i2 z0 z1 z2 il; obtain ⟨i0, i1, i2, z0, z1, z2, il⟩ := IB.all W2.I))
  clear HI0 W1 b1 i2 z0 z1 z2 il
  have HI1 := Lib.hid W2
  clear W2
  refine wp_region_held_drew (S := fun wx => wx.cell? ⟨w.heap.size, 0, none⟩ = some (.int .i64 (W : Int)) ∧ wx.cell? ⟨w.heap.size, 1, none⟩ = some (.int .i64 (H : Int))) (by kernel_rfl) ⟨i0, i1⟩ (fun hHeld => ?_)
  refine wpAnyH_take (i := 0) (v := ?_) rfl (by kernel_rfl) (by kernel_rfl) (by kernel_rfl) (fun _ _ _ h => h) (Or.inl ⟨by kernel_rfl, ?_⟩) (by assumption) ?_
  rotate_left
  · intro w hSw; obtain ⟨s0, s1⟩ := hSw; go_simp; (try with_reducible rfl)
  (try simp only [Act.put, List.getElem_toArray, List.getElem_cons_succ, List.getElem_cons_zero, List.setIfInBounds_toArray, List.set_cons_zero, List.set_cons_succ])
  refine wpAnyH_take (i := 4) (v := ?_) rfl (by kernel_rfl) (by kernel_rfl) (by kernel_rfl) (fun _ _ _ h => h) (Or.inl ⟨by kernel_rfl, ?_⟩) (by assumption) ?_
  rotate_left
  · intro w hSw; obtain ⟨s0, s1⟩ := hSw; go_simp; (try with_reducible rfl)
  (try simp only [Act.put, List.getElem_toArray, List.getElem_cons_succ, List.getElem_cons_zero, List.setIfInBounds_toArray, List.set_cons_zero, List.set_cons_succ])
  refine wpAnyH_take (i := 5) (v := ?_) rfl (by kernel_rfl) (by kernel_rfl) (by kernel_rfl) (fun _ _ _ h => h) (Or.inl ⟨by kernel_rfl, ?_⟩) (by assumption) ?_
  rotate_left
  · intro w hSw; obtain ⟨s0, s1⟩ := hSw; go_simp; (try with_reducible rfl)
  (try simp only [Act.put, List.getElem_toArray, List.getElem_cons_succ, List.getElem_cons_zero, List.setIfInBounds_toArray, List.set_cons_zero, List.set_cons_succ])
  refine wpAnyH_take (i := 9) (v := ?_) rfl (by kernel_rfl) (by kernel_rfl) (by kernel_rfl) (fun _ _ _ h => h) (Or.inl ⟨by kernel_rfl, ?_⟩) (by assumption) ?_
  rotate_left
  · intro w hSw; obtain ⟨s0, s1⟩ := hSw; go_simp; (try with_reducible rfl)
  (try simp only [Act.put, List.getElem_toArray, List.getElem_cons_succ, List.getElem_cons_zero, List.setIfInBounds_toArray, List.set_cons_zero, List.set_cons_succ])
  refine wpAnyH_take (i := 10) (v := ?_) rfl (by kernel_rfl) (by kernel_rfl) (by kernel_rfl) (fun _ _ _ h => h) (Or.inl ⟨by kernel_rfl, ?_⟩) (by assumption) ?_
  rotate_left
  · intro w hSw; obtain ⟨s0, s1⟩ := hSw; go_simp; (try with_reducible rfl)
  (try simp only [Act.put, List.getElem_toArray, List.getElem_cons_succ, List.getElem_cons_zero, List.setIfInBounds_toArray, List.set_cons_zero, List.set_cons_succ])
  refine wpAnyH_ready (rs := [1]) (by kernel_rfl) (by simp) ?_
  refine AllReadyH.cons rfl (fun K hK => ?_) AllReadyH.nil
  go_simp
  refine (HIT1.out _ (HI1.out.drew).B).mono ?_
  rintro e w'0 ⟨rfl, b0⟩
  have J0 := (HI1.out.drew).below b0
  refine hK.out _ _ (⟨Blk.cell J0.I 0, Blk.cell J0.I 1⟩) (fun hHeld' => ?_)
  clear hK K hHeld
  have hHeld := hHeld'
  clear hHeld'
  (try simp only [Act.put, List.getElem_toArray, List.getElem_cons_succ, List.getElem_cons_zero, List.setIfInBounds_toArray, List.set_cons_zero, List.set_cons_succ])
  refine wpAnyH_take (i := 2) (v := ?_) rfl (by kernel_rfl) (by kernel_rfl) (by kernel_rfl) (fun _ _ _ h => h) (Or.inl ⟨by kernel_rfl, ?_⟩) (by assumption) ?_
  rotate_left
  · intro w hSw; obtain ⟨s0, s1⟩ := hSw; go_simp; (try with_reducible rfl)
  (try simp only [Act.put, List.getElem_toArray, List.getElem_cons_succ, List.getElem_cons_zero, List.setIfInBounds_toArray, List.set_cons_zero, List.set_cons_succ])
  refine wpAnyH_take (i := 3) (v := ?_) rfl (by kernel_rfl) (by kernel_rfl) (by kernel_rfl) (fun _ _ _ h => h) (Or.inl ⟨by kernel_rfl, ?_⟩) (by assumption) ?_
  rotate_left
  · intro w hSw; obtain ⟨s0, s1⟩ := hSw; go_simp; (try with_reducible rfl)
  (try simp only [Act.put, List.getElem_toArray, List.getElem_cons_succ, List.getElem_cons_zero, List.setIfInBounds_toArray, List.set_cons_zero, List.set_cons_succ])
  refine wpAnyH_ready (rs := [6]) (by kernel_rfl) (by simp) ?_
  refine AllReadyH.cons rfl (fun K hK => ?_) AllReadyH.nil
  go_simp
  refine (HIT2.out _ (J0).B).mono ?_
  rintro e w'1 ⟨rfl, b1⟩
  have J1 := (J0).below b1
  refine hK.out _ _ (⟨Blk.cell J1.I 0, Blk.cell J1.I 1⟩) (fun hHeld' => ?_)
  clear hK K hHeld
  have hHeld := hHeld'
  clear hHeld'
  (try simp only [Act.put, List.getElem_toArray, List.getElem_cons_succ, List.getElem_cons_zero, List.setIfInBounds_toArray, List.set_cons_zero, List.set_cons_succ])
  refine wpAnyH_take (i := 7) (v := ?_) rfl (by kernel_rfl) (by kernel_rfl) (by kernel_rfl) (fun _ _ _ h => h) (Or.inl ⟨by kernel_rfl, ?_⟩) (by assumption) ?_
  rotate_left
  · intro w hSw; obtain ⟨s0, s1⟩ := hSw; go_simp; (try with_reducible rfl)
  (try simp only [Act.put, List.getElem_toArray, List.getElem_cons_succ, List.getElem_cons_zero, List.setIfInBounds_toArray, List.set_cons_zero, List.set_cons_succ])
  refine wpAnyH_take (i := 8) (v := ?_) rfl (by kernel_rfl) (by kernel_rfl) (by kernel_rfl) (fun _ _ _ h => h) (Or.inl ⟨by kernel_rfl, ?_⟩) (by assumption) ?_
  rotate_left
  · intro w hSw; obtain ⟨s0, s1⟩ := hSw; go_simp; (try with_reducible rfl)
  (try simp only [Act.put, List.getElem_toArray, List.getElem_cons_succ, List.getElem_cons_zero, List.setIfInBounds_toArray, List.set_cons_zero, List.set_cons_succ])
  refine wpAnyH_ready (rs := [11]) (by kernel_rfl) (by simp) ?_
  refine AllReadyH.cons rfl (fun K hK => ?_) AllReadyH.nil
  go_simp
  refine (HIT3.out _ (J1).B).mono ?_
  rintro e w'2 ⟨rfl, b2⟩
  have J2 := (J1).below b2
  refine hK.out _ _ (⟨Blk.cell J2.I 0, Blk.cell J2.I 1⟩) (fun hHeld' => ?_)
  clear hK K hHeld
  have hHeld := hHeld'
  clear hHeld'
  (try simp only [Act.put, List.getElem_toArray, List.getElem_cons_succ, List.getElem_cons_zero, List.setIfInBounds_toArray, List.set_cons_zero, List.set_cons_succ])
  refine wpAnyH_take (i := 12) (v := ?_) rfl (by kernel_rfl) (by kernel_rfl) (by kernel_rfl) (fun _ _ _ h => h) (Or.inl ⟨by kernel_rfl, ?_⟩) (by assumption) ?_
  rotate_left
  · intro w hSw; obtain ⟨s0, s1⟩ := hSw; go_simp; (try with_reducible rfl)
  (try simp only [Act.put, List.getElem_toArray, List.getElem_cons_succ, List.getElem_cons_zero, List.setIfInBounds_toArray, List.set_cons_zero, List.set_cons_succ])
  refine wpAnyH_take (i := 13) (v := ?_) rfl (by kernel_rfl) (by kernel_rfl) (by kernel_rfl) (fun _ _ _ h => h) (Or.inl ⟨by kernel_rfl, ?_⟩) (by assumption) ?_
  rotate_left
  · intro w hSw; obtain ⟨s0, s1⟩ := hSw; go_simp; (try with_reducible rfl)
  (try simp only [Act.put, List.getElem_toArray, List.getElem_cons_succ, List.getElem_cons_zero, List.setIfInBounds_toArray, List.set_cons_zero, List.set_cons_succ])
  refine wpAnyH_ready (rs := [14]) (by kernel_rfl) (by simp) ?_
  refine AllReadyH.cons rfl (fun K hK => ?_) AllReadyH.nil
  refine step_bytes rfl _ rfl c6 rfl hc6s ?_
  intro v5 w5 o5 b5
  have J5 := J2.below b5
  refine hK.out _ _ (⟨Blk.cell J5.I 0, Blk.cell J5.I 1⟩) (fun hHeld' => ?_)
  clear hK K hHeld
  have hHeld := hHeld'
  clear hHeld'
  (try simp only [Act.put, List.getElem_toArray, List.getElem_cons_succ, List.getElem_cons_zero, List.setIfInBounds_toArray, List.set_cons_zero, List.set_cons_succ])
  refine wpAnyH_take (i := 15) (v := ?_) rfl (by kernel_rfl) (by kernel_rfl) (by kernel_rfl) (fun _ _ _ h => h) (Or.inl ⟨by kernel_rfl, ?_⟩) (by assumption) ?_
  rotate_left
  · intro w hSw; obtain ⟨s0, s1⟩ := hSw; go_simp; (try with_reducible rfl)
  (try simp only [Act.put, List.getElem_toArray, List.getElem_cons_succ, List.getElem_cons_zero, List.setIfInBounds_toArray, List.set_cons_zero, List.set_cons_succ])
  refine wpAnyH_done (by kernel_rfl) ?_ _
  (try simp only [List.getElem_toArray, List.getElem_cons_succ, List.getElem_cons_zero, List.set_cons_zero, List.set_cons_succ])
  clear hHeld
  obtain ⟨B0, hB0⟩ : ∃ B0, w'2.heap.size = B0 := ⟨_, rfl⟩
  rw [hB0] at o5
  clear i0 i1
  have i0 : w5.cell? ⟨w.heap.size, 0, none⟩ = some (.int .i64 (W : Int)) := Blk.cell J5.I 0
  have i1 : w5.cell? ⟨w.heap.size, 1, none⟩ = some (.int .i64 (H : Int)) := Blk.cell J5.I 1
  have hown : OwnsM w5 B0 v5 (hdrL K W H) := by rw [show hdrL K W H = hdrA K W H by rw [HK14.out, hdrA_one], ← HC6.out]; exact o5
  have hB0w : w.heap.size < B0 := by rw [← hB0]; exact Blk.lt J2.I
  have HR0 : Hid (RwI w w5 W H n c a B0 v5 (hdrL K W H ++ encRows K ((rowsOf l W H).take 0))) := Lib.hid ⟨by rw [List.take_zero]; simpa [encRows] using hown, J5.I, J5.B⟩
  have HBW := Lib.hid hB0w
  clear o5 b5 J5 hown J0 J1 J2 b0 b1 b2 HI1 HIT1 HIT2 HIT3 hB0 A1 A2 A3 A4 A5 A6 hc6s hc6l HC6 hB0w
  go_upto_region 9 with fail
  (try clear i0 i1 i2 z0 z1 z2 il)
  go_loopg [6, 7, 8, 9, 10, 11, 13, 43] H (fun gh v6 v7 v8 v9 v10 v11 v13 v43 wr => ∃ y : Nat, y + gh = H ∧ v43 = .int .i64 (y : Int) ∧ Hid (∀ i, i < y * W → mayB K (pcAt l i) = true) ∧ Hid (RwI w wr W H n c a B0 v6 (hdrL K W H ++ encRows K ((rowsOf l W H).take y))))
  case atStart => exact ⟨0, by omega, rfl, Lib.hid (fun i hi => by omega), HR0⟩
  case round =>
    clear HR0
    obtain ⟨y, hy, rfl, HA, HR⟩ := hrel
    obtain ⟨i0, i1, i2, z0, z1, z2, il⟩ := IB.all HR.out.I
    by_cases hyH : y < H
    · have hyI : (y : Int) < (H : Int) := by omega
      obtain ⟨m, rfl⟩ : ∃ m, gk = m + 1 := ⟨gk - 1, by omega⟩
      obtain ⟨yW, hyW⟩ : ∃ yW, y * W = yW := ⟨_, rfl⟩
      have HYW := Lib.hid hyW
      rw [hyW] at HA
      have HYB : Hid (yW + W ≤ W * H) := Lib.hid (by
        rw [← hyW, show y * W + W = (y + 1) * W by rw [Nat.add_mul, Nat.one_mul], Nat.mul_comm W H]
        exact Nat.mul_le_mul (by omega) (Nat.le_refl _))
      clear hyW
      go_upto_region 13 with fail
      clear i0 i1 i2 z0 z1 z2 il
      have HR1 : Hid (RwI w wr W H n c a B0 u6 (hdrL K W H ++ encRows K ((rowsOf l W H).take y) ++ rowT K ((rowOf l W y).take 0))) := Lib.hid (by rw [List.take_zero, show rowT K [] = [] from rfl, List.append_nil]; exact HR.out)
      obtain ⟨wo, hwo⟩ : ∃ wo, wo = wr := ⟨_, rfl⟩
      subst hwo
      go_loopg [6, 8, 9, 10, 11, 13, 48] W (fun gx v6 v8 v9 v10 v11 v13 v48 wx => ∃ x : Nat, x + gx = W ∧ v48 = .int .i64 (x : Int) ∧ v8 = .string (gpS x) ∧ Hid (∀ i, i < yW + x → mayB K (pcAt l i) = true) ∧ Hid (RwI w wx W H n c a B0 v6 (hdrL K W H ++ encRows K ((rowsOf l W H).take y) ++ rowT K ((rowOf l W y).take x))))
      case atStart => exact ⟨0, by omega, rfl, rfl, Lib.hid (fun i hi => HA.out i (by omega)), HR1⟩
      case round =>
        clear HR1 HR HA
        obtain ⟨x, hx, rfl, rfl, HA, HR2⟩ := hrel
        obtain ⟨i0, i1, i2, z0, z1, z2, il⟩ := IB.all HR2.out.I
        by_cases hxW : x < W
        · have hxI : (x : Int) < (W : Int) := by omega
          obtain ⟨g', rfl⟩ : ∃ g', gk = g' + 1 := ⟨gk - 1, by omega⟩
          have HPX := Lib.hid (HP.out x y hxW hyH _ (HBY.out.below HR2.out.B))
          rw [HYW.out] at HPX
          obtain ⟨q, hq⟩ : ∃ q, pcAt l (yW + x) = q := ⟨_, rfl⟩
          have hrow := row_at (l := l) (W := W) (y := y) hxW
          rw [HYW.out, hq] at hrow
          rw [hq] at HPX
          unfold Qc.v at HPX
          have HQ := Lib.hid hq
          have HRO := Lib.hid hrow
          clear hq hrow
          go_upto_region 16 with (go_at_call 26; refine HPX.out.mono ?_; rintro e w7 ⟨rfl, b7⟩; have HR7 := Lib.hid ((HR2.out.below b7).alloc (.cells #[.int .u8 (q.r.toNat : Int), .int .u8 (q.g.toNat : Int), .int .u8 (q.b.toNat : Int), .int .u8 (q.a.toNat : Int)] 48)); have C7 : CB (w7.alloc (.cells #[.int .u8 (q.r.toNat : Int), .int .u8 (q.g.toNat : Int), .int .u8 (q.b.toNat : Int), .int .u8 (q.a.toNat : Int)] 48)) w7.heap.size (q.r.toNat : Int) (q.g.toNat : Int) (q.b.toNat : Int) (q.a.toNat : Int) := Blk.new _ _ _; clear i0 i1 i2 z0 z1 z2 il)
          clear HR2 HPX b7
          generalize w7.alloc (.cells #[.int .u8 (q.r.toNat : Int), .int .u8 (q.g.toNat : Int), .int .u8 (q.b.toNat : Int), .int .u8 (q.a.toNat : Int)] 48) = w8 at HR7 C7 ⊢
          generalize w7.heap.size = qc at C7 ⊢
          have c0 := C7.c0
          have c1 := C7.c1
          have c2 := C7.c2
          have c3 := C7.c3
          have HC7 := Lib.hid C7
          clear C7
          have HMY0 := textMayC HK3.out q
          unfold Qc.v at HMY0
          obtain ⟨mb, hmb⟩ : ∃ mb, mayB K q = mb := ⟨_, rfl⟩
          rw [hmb] at HMY0
          have HMY := Lib.hid HMY0
          have HMB := Lib.hid hmb
          clear HMY0 hmb
          cases mb with
          | false =>
            go_wp2_with (go_at_call 27; refine (HMY.out _).mono ?_; rintro e w9 ⟨rfl, b9⟩)
            go_ret2
            exact ⟨below_next HR7.out.B b9, by rw [rawV_no (mayAll_no (i := yW + x) (by have := HYB.out; omega) (by rw [HQ.out]; exact HMB.out))]; rfl⟩
          | true =>
            have HSM0 := samplesC HK3.out q
            unfold Qc.v at HSM0
            have HSM := Lib.hid HSM0
            clear HSM0
            go_upto_region 19 with (first | (go_at_call 27; refine (HMY.out _).mono ?_; rintro e w9 ⟨rfl, b9⟩; have HR9 := Lib.hid (HR7.out.below b9); have C9 : CB w9 qc (q.r.toNat : Int) (q.g.toNat : Int) (q.b.toNat : Int) (q.a.toNat : Int) := Blk.below HC7.out b9 (Blk.lt HC7.out); clear c0 c1 c2 c3; have c0 := C9.c0; have c1 := C9.c1; have c2 := C9.c2; have c3 := C9.c3) | (go_at_call 28; refine (HSM.out _).mono ?_; rintro e w10 ⟨g, rfl, hS, b10⟩))
            have HR10 : Hid (RwI w w10 W H n c a B0 u6 (hdrL K W H ++ encRows K ((rowsOf l W H).take y) ++ rowT K ((rowOf l W y).take x) ++ smpT x (smp K q) 0)) := Lib.hid (by rw [smpT_zero, List.append_nil]; exact HR9.out.below b10)
            have HS10 := Lib.hid hS
            have HA2 : Hid (∀ i, i < yW + (x + 1) → mayB K (pcAt l i) = true) := Lib.hid (fun i hi => by
              by_cases h : i = yW + x
              · subst h
                rw [HQ.out]
                exact HMB.out
              · exact HA.out i (by omega))
            clear HR7 HC7 HMY HSM hS b10 HR9 C9 c0 c1 c2 c3 b9 HA
            have hm13 := smp_pos K q
            obtain ⟨sl, hsl⟩ : ∃ sl, (smp K q).length = sl := ⟨_, rfl⟩
            rw [hsl] at hm13 ⊢
            have HSL := Lib.hid hsl
            clear hsl
            obtain ⟨wp, hwp⟩ : ∃ wp, wp = wr := ⟨_, rfl⟩
            subst hwp
            go_loopg [6, 8, 13, 66] sl (fun gi v6 v8 v13 v66 wz => ∃ i : Nat, i + gi = sl ∧ v66 = .int .i64 (i : Int) ∧ v8 = .string (gpS (x + i)) ∧ Hid (Blk wz g 3 ((smp K q).map fun (t : Nat) => Value.int .i64 (t : Int)).toArray) ∧ Hid (RwI w wz W H n c a B0 v6 (hdrL K W H ++ encRows K ((rowsOf l W H).take y) ++ rowT K ((rowOf l W y).take x) ++ smpT x (smp K q) i)))
            case atStart => exact ⟨0, by omega, rfl, rfl, HS10, HR10⟩
            case round =>
              clear HS10 HR10
              obtain ⟨i, hi, rfl, rfl, HS, HR3⟩ := hrel
              by_cases hil : i < sl
              · have hiI : (i : Int) < (sl : Int) := by omega
                obtain ⟨g3, rfl⟩ : ∃ g3, gk = g3 + 1 := ⟨gk - 1, by omega⟩
                obtain ⟨t, ht, htc⟩ := smp_at (K := K) (q := q) (i := i) (by rw [HSL.out]; exact hil)
                have hcell := (Blk.cell HS.out i).trans htc
                have ht255 := smp_le ht
                have HTT := Lib.hid ht
                have hbs := HR3.out.hs
                have hgl := Blk.lt HS.out
                have hl0 : (hdrL K W H ++ encRows K ((rowsOf l W H).take y) ++ rowT K ((rowOf l W y).take x) ++ smpT x (smp K q) i).length < 200000000000 := by
                  have h1 := text_part (y := y) (l := l) HK3.out hWb hHb (Nat.le_of_lt hxW)
                  have h2 := smpT_len (x := x) (K := K) (q := q) i
                  rw [List.length_append]
                  omega
                have hl1 : (hdrL K W H ++ encRows K ((rowsOf l W H).take y) ++ rowT K ((rowOf l W y).take x) ++ smpT x (smp K q) i).length + (gpS (x + i)).size < 1099511627776 := by
                  have := gpS_size (x + i)
                  omega
                have HL2 : Hid ((hdrL K W H ++ encRows K ((rowsOf l W H).take y) ++ rowT K ((rowOf l W y).take x) ++ smpT x (smp K q) i ++ (gpS (x + i)).data.toList).length + 20 < 1099511627776) := Lib.hid (by
                  rw [List.length_append, gpS_list]
                  have : (gp (x + i)).length ≤ 1 := by unfold gp; split <;> decide
                  omega)
                have hwt : IntKind.i64.wrap (t : Int) = (t : Int) := IntWalk.i64_in _ (by omega)
                clear ht htc hl0
                go_upto_region 23 with (first | (at_builtin; refine wpList_append_strK rfl (.tmp 70) (.tmp 71) rfl B0 _ _ rfl HR3.out.O (gpS (x + i)) rfl hl1 hbs ?_; intro v9 w9 o9 b9 k9; have HI := Lib.hid (appInt (u := t) (by omega) (HT.out.below (HR3.out.B.trans (b9.mono (Nat.le_of_lt HBW.out)))) o9 HL2.out)) | (go_at_call 29; refine HI.out.mono ?_; rintro e w11 ⟨v11, rfl, o11, b11, k11⟩))
                have HR4 : Hid (RwI w w11 W H n c a B0 v11 (hdrL K W H ++ encRows K ((rowsOf l W H).take y) ++ rowT K ((rowOf l W y).take x) ++ smpT x (smp K q) (i + 1))) := Lib.hid (by
                  have h := (HR3.out.next HBW.out o9 b9).next HBW.out o11 b11
                  rw [gpS_list] at h
                  rw [smpT_more HTT.out]
                  simpa only [List.append_assoc] using h)
                have HS4 : Hid (Blk w11 g 3 ((smp K q).map fun (t : Nat) => Value.int .i64 (t : Int)).toArray) := Lib.hid (k11 _ _ (k9 _ _ HS.out))
                clear o9 b9 k9 o11 b11 k11 HI HR3 HS hcell hl1 HL2 hgl hbs
                go_wp2_with fail
                go_roundg g3
                case measure => omega
                case rel => exact ⟨i + 1, by omega, by go_num, by rw [gpS_pos (by omega)], HS4, HR4⟩
              · obtain rfl : i = sl := by omega
                obtain rfl : gk = 0 := by omega
                have hiI : ¬ (i : Int) < (i : Int) := by omega
                have HR5 : Hid (RwI w wr W H n c a B0 u6 (hdrL K W H ++ encRows K ((rowsOf l W H).take y) ++ rowT K ((rowOf l W y).take (x + 1)))) := Lib.hid (by
                  have h := HR3.out
                  rw [← HSL.out, List.append_assoc, rowT_more HK3.out HRO.out] at h
                  exact h)
                clear HR3 HS
                go_wp2_with fail
                go_roundg g'
                case measure => omega
                case rel => exact ⟨x + 1, by omega, by go_num, by rw [gpS_pos (by omega), gpS_pos (by omega)], HA2, HR5⟩
        · obtain rfl : x = W := by omega
          obtain rfl : gk = 0 := by omega
          have hxI : ¬ (x : Int) < (x : Int) := by omega
          have HA2 : Hid (∀ i, i < (y + 1) * x → mayB K (pcAt l i) = true) := Lib.hid (fun i hi => HA.out i (by have := HYW.out; rw [Nat.add_mul, Nat.one_mul] at hi; omega))
          have hO := HR2.out
          rw [List.take_of_length_le (show (rowOf l x y).length ≤ x by rw [rowOf_len]; exact Nat.le_refl _)] at hO
          have HR3 := Lib.hid hO
          have hbs2 : B0 ≤ (wr.alloc (.cells #[.int .u8 10] 5)).heap.size := (HR3.out.alloc _).hs
          have hlen : (hdrL K x H ++ encRows K ((rowsOf l x H).take y) ++ rowT K (rowOf l x y)).length + 1 < 1099511627776 := by
            have h1 := text_part (y := y) (l := l) (x := x) HK3.out hWb hHb (Nat.le_refl _)
            rw [List.take_of_length_le (show (rowOf l x y).length ≤ x by rw [rowOf_len]; exact Nat.le_refl _)] at h1
            omega
          clear hO HR2 HA
          go_upto_region 27 with (at_builtin; refine wpList_append_sliceM rfl (.tmp 78) (.tmp 79) rfl B0 _ _ rfl (HR3.out.alloc _).O _ 1 1 [10] rfl rfl (cellsW_new rfl) hlen hbs2 ?_; intro v9 w9 o9 b9)
          have HR9 : Hid (RwI w w9 x H n c a B0 v9 (hdrL K x H ++ encRows K ((rowsOf l x H).take (y + 1)))) := Lib.hid (by
            rw [rows_next hyH, ← rowT_end HK3.out, ← List.append_assoc, ← List.append_assoc]
            exact (HR3.out.alloc _).next HBW.out o9 b9)
          clear o9 b9 HR3 hbs2 hlen
          go_wp2_with fail
          go_roundg m
          case measure => omega
          case rel => exact ⟨y + 1, by omega, by go_num, HA2, HR9⟩
    · obtain rfl : y = H := by omega
      obtain rfl : gk = 0 := by omega
      have hyI : ¬ (y : Int) < (y : Int) := by omega
      have hO := HR.out.O
      rw [List.take_of_length_le (show (rowsOf l W y).length ≤ y by unfold rowsOf; simp)] at hO
      have HO := Lib.hid hO
      clear hO
      go_wp2_with (refine wpList_convert_M rfl (.tmp 82) 9 Tryz.underlying9 rfl _ _ _ rfl HO.out ?_)
      go_ret2
      exact ⟨HR.out.B, by rw [rawV_yes (mayAll_yes (fun i hi => HA.out i (by rw [Nat.mul_comm]; exact hi)))]; rfl⟩
set_option maxRecDepth 100000 in
set_option maxHeartbeats 8000000 in
theorem textWrite_more {K : Nat} (hK : K = 2 ∨ K = 3) {W H n c : Nat} {a : Option Addr} {l : List UInt8} {w : World} (hT : TabW w) (hr : RightP (W : Int) (H : Int) n) (hl : n = l.length) (hnc : n ≤ c) (hb : BytesAt w a n l) (hWb : W ≤ 4000) (hHb : H ≤ 4000) : Calls Tryz.prog 7 #[.agg #[.int .i64 (W : Int), .int .i64 (H : Int), .slice a n c], .int .i64 (K : Int)] w fun e w' => Below w.heap.size w w' ∧ e = .returned (rawV K W H l) := by
  have hW := hr.1
  have hH := hr.2.1
  have hK4b : (1 : Int) < (K : Int) := by omega
  have hKt : K ≤ 3 := by omega
  have HK3 : Hid (K = 1 ∨ K = 2 ∨ K = 3) := Lib.hid (by omega)
  have HK14 : Hid (K = 2 ∨ K = 3) := Lib.hid hK
  have HTX : Hid (∀ w, Calls Tryz.prog 23 #[.int .i64 (K : Int)] w fun e w' => e = .returned (.bool true) ∧ w = w') := Lib.hid (fun w => by
    have h := ptext_any K w
    rw [decide_eq_true (by omega)] at h
    exact h)
  have HP := Lib.hid (fun (X Y : Nat) (hX : X < W) (hY : Y < H) => (px_both (a := a) hr hl hnc hX hY).1)
  have HRT := Lib.hid (fun w => right_true (a := a) (c := c) hr w)
  have HBY := Lib.hid hb
  have HT := Lib.hid hT
  have HIT1 := Lib.hid (fun (w' : World) (b : Below w.heap.size w w') => itoaC (hT.below b) (n := K) (by omega))
  have HIT2 := Lib.hid (fun (w' : World) (b : Below w.heap.size w w') => itoaC (hT.below b) (n := W) (by omega))
  have HIT3 := Lib.hid (fun (w' : World) (b : Below w.heap.size w w') => itoaC (hT.below b) (n := H) (by omega))
  have W1 : WiI w (w.alloc (.cells #[.int .i64 (W : Int), .int .i64 (H : Int), .slice a n c] 24)) W H n c a l := WiI.new hb
  have z1 := dec_size K
  have z2 := dec_size W
  have z3 := dec_size H
  have z4 : (⟨#[80]⟩ : ByteArray).size = 1 := rfl
  have z5 : (⟨#[10]⟩ : ByteArray).size = 1 := rfl
  have z6 : (⟨#[32]⟩ : ByteArray).size = 1 := rfl
  obtain ⟨c1, hc1⟩ : ∃ c1, (⟨#[80]⟩ : ByteArray) ++ dec K = c1 := ⟨_, rfl⟩
  have s1 : c1.size = 1 + (dec K).size := by rw [← hc1, ByteArray.size_append, z4]
  have A1 : ∀ w : World, (Op.stringOp .add ⟨#[80]⟩ (dec K)).run Tryz.prog w = .ok (.string c1) w := fun w => by rw [← hc1]; exact run_string_add_sum w _ _ (by omega)
  obtain ⟨c2, hc2⟩ : ∃ c2, c1 ++ ⟨#[10]⟩ = c2 := ⟨_, rfl⟩
  have s2 : c2.size = c1.size + 1 := by rw [← hc2, ByteArray.size_append, z5]
  have A2 : ∀ w : World, (Op.stringOp .add c1 ⟨#[10]⟩).run Tryz.prog w = .ok (.string c2) w := fun w => by rw [← hc2]; exact run_string_add_sum w _ _ (by omega)
  obtain ⟨c3, hc3⟩ : ∃ c3, c2 ++ dec W = c3 := ⟨_, rfl⟩
  have s3 : c3.size = c2.size + (dec W).size := by rw [← hc3, ByteArray.size_append]
  have A3 : ∀ w : World, (Op.stringOp .add c2 (dec W)).run Tryz.prog w = .ok (.string c3) w := fun w => by rw [← hc3]; exact run_string_add_sum w _ _ (by omega)
  obtain ⟨c4, hc4⟩ : ∃ c4, c3 ++ ⟨#[32]⟩ = c4 := ⟨_, rfl⟩
  have s4 : c4.size = c3.size + 1 := by rw [← hc4, ByteArray.size_append, z6]
  have A4 : ∀ w : World, (Op.stringOp .add c3 ⟨#[32]⟩).run Tryz.prog w = .ok (.string c4) w := fun w => by rw [← hc4]; exact run_string_add_sum w _ _ (by omega)
  obtain ⟨c5, hc5⟩ : ∃ c5, c4 ++ dec H = c5 := ⟨_, rfl⟩
  have s5 : c5.size = c4.size + (dec H).size := by rw [← hc5, ByteArray.size_append]
  have A5 : ∀ w : World, (Op.stringOp .add c4 (dec H)).run Tryz.prog w = .ok (.string c5) w := fun w => by rw [← hc5]; exact run_string_add_sum w _ _ (by omega)
  obtain ⟨c6, hc6⟩ : ∃ c6, c5 ++ ⟨#[10]⟩ = c6 := ⟨_, rfl⟩
  have s6 : c6.size = c5.size + 1 := by rw [← hc6, ByteArray.size_append, z5]
  have A6 : ∀ w : World, (Op.stringOp .add c5 ⟨#[10]⟩).run Tryz.prog w = .ok (.string c6) w := fun w => by rw [← hc6]; exact run_string_add_sum w _ _ (by omega)
  have hc6s : c6.size ≤ 1000000 := by omega
  have hc6l : c6.data.toList = hdrA K W H := by rw [← hc6, ← hc5, ← hc4, ← hc3, ← hc2, ← hc1]; exact hdr_text (by omega)
  have HC6 := Lib.hid hc6l
  generalize dec K = dK at A1 s1 HIT1
  generalize dec W = dW at A3 s3 HIT2
  generalize dec H = dH at A5 s5 HIT3
  have hc6l := HC6.out
  clear hr hl hnc hb hT hc1 hc2 hc3 hc4 hc5 hc6 s1 s2 s3 s4 s5 s6 z1 z2 z3 z4 z5 z6 hc6l hK
  go_enter Tryz.func7, Tryz.ntmps7
  have HI0 := Lib.hid W1
  obtain ⟨i0, i1, i2, z0, z1, z2, il⟩ := IB.all W1.I
  go_upto_region 5 with (first | (go_at_call 23; refine (HTX.out _).mono ?_; rintro e w'' ⟨rfl, rfl⟩) | (go_at_call 24; refine (HRT.out _).mono ?_; rintro e w1 ⟨rfl, b1⟩; have W2 := HI0.out.below b1; clear i0 i1 i2 z0 z1 z2 il; obtain ⟨i0, i1, i2, z0, z1, z2, il⟩ := IB.all W2.I))
  clear HI0 W1 b1 i2 z0 z1 z2 il
  have HI1 := Lib.hid W2
  clear W2
  refine wp_region_held_drew (S := fun wx => wx.cell? ⟨w.heap.size, 0, none⟩ = some (.int .i64 (W : Int)) ∧ wx.cell? ⟨w.heap.size, 1, none⟩ = some (.int .i64 (H : Int))) (by kernel_rfl) ⟨i0, i1⟩ (fun hHeld => ?_)
  refine wpAnyH_take (i := 0) (v := ?_) rfl (by kernel_rfl) (by kernel_rfl) (by kernel_rfl) (fun _ _ _ h => h) (Or.inl ⟨by kernel_rfl, ?_⟩) (by assumption) ?_
  rotate_left
  · intro w hSw; obtain ⟨s0, s1⟩ := hSw; go_simp; (try with_reducible rfl)
  (try simp only [Act.put, List.getElem_toArray, List.getElem_cons_succ, List.getElem_cons_zero, List.setIfInBounds_toArray, List.set_cons_zero, List.set_cons_succ])
  refine wpAnyH_take (i := 4) (v := ?_) rfl (by kernel_rfl) (by kernel_rfl) (by kernel_rfl) (fun _ _ _ h => h) (Or.inl ⟨by kernel_rfl, ?_⟩) (by assumption) ?_
  rotate_left
  · intro w hSw; obtain ⟨s0, s1⟩ := hSw; go_simp; (try with_reducible rfl)
  (try simp only [Act.put, List.getElem_toArray, List.getElem_cons_succ, List.getElem_cons_zero, List.setIfInBounds_toArray, List.set_cons_zero, List.set_cons_succ])
  refine wpAnyH_take (i := 5) (v := ?_) rfl (by kernel_rfl) (by kernel_rfl) (by kernel_rfl) (fun _ _ _ h => h) (Or.inl ⟨by kernel_rfl, ?_⟩) (by assumption) ?_
  rotate_left
  · intro w hSw; obtain ⟨s0, s1⟩ := hSw; go_simp; (try with_reducible rfl)
  (try simp only [Act.put, List.getElem_toArray, List.getElem_cons_succ, List.getElem_cons_zero, List.setIfInBounds_toArray, List.set_cons_zero, List.set_cons_succ])
  refine wpAnyH_take (i := 9) (v := ?_) rfl (by kernel_rfl) (by kernel_rfl) (by kernel_rfl) (fun _ _ _ h => h) (Or.inl ⟨by kernel_rfl, ?_⟩) (by assumption) ?_
  rotate_left
  · intro w hSw; obtain ⟨s0, s1⟩ := hSw; go_simp; (try with_reducible rfl)
  (try simp only [Act.put, List.getElem_toArray, List.getElem_cons_succ, List.getElem_cons_zero, List.setIfInBounds_toArray, List.set_cons_zero, List.set_cons_succ])
  refine wpAnyH_take (i := 10) (v := ?_) rfl (by kernel_rfl) (by kernel_rfl) (by kernel_rfl) (fun _ _ _ h => h) (Or.inl ⟨by kernel_rfl, ?_⟩) (by assumption) ?_
  rotate_left
  · intro w hSw; obtain ⟨s0, s1⟩ := hSw; go_simp; (try with_reducible rfl)
  (try simp only [Act.put, List.getElem_toArray, List.getElem_cons_succ, List.getElem_cons_zero, List.setIfInBounds_toArray, List.set_cons_zero, List.set_cons_succ])
  refine wpAnyH_ready (rs := [1]) (by kernel_rfl) (by simp) ?_
  refine AllReadyH.cons rfl (fun K hK => ?_) AllReadyH.nil
  go_simp
  refine (HIT1.out _ (HI1.out.drew).B).mono ?_
  rintro e w'0 ⟨rfl, b0⟩
  have J0 := (HI1.out.drew).below b0
  refine hK.out _ _ (⟨Blk.cell J0.I 0, Blk.cell J0.I 1⟩) (fun hHeld' => ?_)
  clear hK K hHeld
  have hHeld := hHeld'
  clear hHeld'
  (try simp only [Act.put, List.getElem_toArray, List.getElem_cons_succ, List.getElem_cons_zero, List.setIfInBounds_toArray, List.set_cons_zero, List.set_cons_succ])
  refine wpAnyH_take (i := 2) (v := ?_) rfl (by kernel_rfl) (by kernel_rfl) (by kernel_rfl) (fun _ _ _ h => h) (Or.inl ⟨by kernel_rfl, ?_⟩) (by assumption) ?_
  rotate_left
  · intro w hSw; obtain ⟨s0, s1⟩ := hSw; go_simp; (try with_reducible rfl)
  (try simp only [Act.put, List.getElem_toArray, List.getElem_cons_succ, List.getElem_cons_zero, List.setIfInBounds_toArray, List.set_cons_zero, List.set_cons_succ])
  refine wpAnyH_take (i := 3) (v := ?_) rfl (by kernel_rfl) (by kernel_rfl) (by kernel_rfl) (fun _ _ _ h => h) (Or.inl ⟨by kernel_rfl, ?_⟩) (by assumption) ?_
  rotate_left
  · intro w hSw; obtain ⟨s0, s1⟩ := hSw; go_simp; (try with_reducible rfl)
  (try simp only [Act.put, List.getElem_toArray, List.getElem_cons_succ, List.getElem_cons_zero, List.setIfInBounds_toArray, List.set_cons_zero, List.set_cons_succ])
  refine wpAnyH_ready (rs := [6]) (by kernel_rfl) (by simp) ?_
  refine AllReadyH.cons rfl (fun K hK => ?_) AllReadyH.nil
  go_simp
  refine (HIT2.out _ (J0).B).mono ?_
  rintro e w'1 ⟨rfl, b1⟩
  have J1 := (J0).below b1
  refine hK.out _ _ (⟨Blk.cell J1.I 0, Blk.cell J1.I 1⟩) (fun hHeld' => ?_)
  clear hK K hHeld
  have hHeld := hHeld'
  clear hHeld'
  (try simp only [Act.put, List.getElem_toArray, List.getElem_cons_succ, List.getElem_cons_zero, List.setIfInBounds_toArray, List.set_cons_zero, List.set_cons_succ])
  refine wpAnyH_take (i := 7) (v := ?_) rfl (by kernel_rfl) (by kernel_rfl) (by kernel_rfl) (fun _ _ _ h => h) (Or.inl ⟨by kernel_rfl, ?_⟩) (by assumption) ?_
  rotate_left
  · intro w hSw; obtain ⟨s0, s1⟩ := hSw; go_simp; (try with_reducible rfl)
  (try simp only [Act.put, List.getElem_toArray, List.getElem_cons_succ, List.getElem_cons_zero, List.setIfInBounds_toArray, List.set_cons_zero, List.set_cons_succ])
  refine wpAnyH_take (i := 8) (v := ?_) rfl (by kernel_rfl) (by kernel_rfl) (by kernel_rfl) (fun _ _ _ h => h) (Or.inl ⟨by kernel_rfl, ?_⟩) (by assumption) ?_
  rotate_left
  · intro w hSw; obtain ⟨s0, s1⟩ := hSw; go_simp; (try with_reducible rfl)
  (try simp only [Act.put, List.getElem_toArray, List.getElem_cons_succ, List.getElem_cons_zero, List.setIfInBounds_toArray, List.set_cons_zero, List.set_cons_succ])
  refine wpAnyH_ready (rs := [11]) (by kernel_rfl) (by simp) ?_
  refine AllReadyH.cons rfl (fun K hK => ?_) AllReadyH.nil
  go_simp
  refine (HIT3.out _ (J1).B).mono ?_
  rintro e w'2 ⟨rfl, b2⟩
  have J2 := (J1).below b2
  refine hK.out _ _ (⟨Blk.cell J2.I 0, Blk.cell J2.I 1⟩) (fun hHeld' => ?_)
  clear hK K hHeld
  have hHeld := hHeld'
  clear hHeld'
  (try simp only [Act.put, List.getElem_toArray, List.getElem_cons_succ, List.getElem_cons_zero, List.setIfInBounds_toArray, List.set_cons_zero, List.set_cons_succ])
  refine wpAnyH_take (i := 12) (v := ?_) rfl (by kernel_rfl) (by kernel_rfl) (by kernel_rfl) (fun _ _ _ h => h) (Or.inl ⟨by kernel_rfl, ?_⟩) (by assumption) ?_
  rotate_left
  · intro w hSw; obtain ⟨s0, s1⟩ := hSw; go_simp; (try with_reducible rfl)
  (try simp only [Act.put, List.getElem_toArray, List.getElem_cons_succ, List.getElem_cons_zero, List.setIfInBounds_toArray, List.set_cons_zero, List.set_cons_succ])
  refine wpAnyH_take (i := 13) (v := ?_) rfl (by kernel_rfl) (by kernel_rfl) (by kernel_rfl) (fun _ _ _ h => h) (Or.inl ⟨by kernel_rfl, ?_⟩) (by assumption) ?_
  rotate_left
  · intro w hSw; obtain ⟨s0, s1⟩ := hSw; go_simp; (try with_reducible rfl)
  (try simp only [Act.put, List.getElem_toArray, List.getElem_cons_succ, List.getElem_cons_zero, List.setIfInBounds_toArray, List.set_cons_zero, List.set_cons_succ])
  refine wpAnyH_ready (rs := [14]) (by kernel_rfl) (by simp) ?_
  refine AllReadyH.cons rfl (fun K hK => ?_) AllReadyH.nil
  refine step_bytes rfl _ rfl c6 rfl hc6s ?_
  intro v5 w5 o5 b5
  have J5 := J2.below b5
  refine hK.out _ _ (⟨Blk.cell J5.I 0, Blk.cell J5.I 1⟩) (fun hHeld' => ?_)
  clear hK K hHeld
  have hHeld := hHeld'
  clear hHeld'
  (try simp only [Act.put, List.getElem_toArray, List.getElem_cons_succ, List.getElem_cons_zero, List.setIfInBounds_toArray, List.set_cons_zero, List.set_cons_succ])
  refine wpAnyH_take (i := 15) (v := ?_) rfl (by kernel_rfl) (by kernel_rfl) (by kernel_rfl) (fun _ _ _ h => h) (Or.inl ⟨by kernel_rfl, ?_⟩) (by assumption) ?_
  rotate_left
  · intro w hSw; obtain ⟨s0, s1⟩ := hSw; go_simp; (try with_reducible rfl)
  (try simp only [Act.put, List.getElem_toArray, List.getElem_cons_succ, List.getElem_cons_zero, List.setIfInBounds_toArray, List.set_cons_zero, List.set_cons_succ])
  refine wpAnyH_done (by kernel_rfl) ?_ _
  (try simp only [List.getElem_toArray, List.getElem_cons_succ, List.getElem_cons_zero, List.set_cons_zero, List.set_cons_succ])
  clear hHeld
  obtain ⟨B0, hB0⟩ : ∃ B0, w'2.heap.size = B0 := ⟨_, rfl⟩
  rw [hB0] at o5
  clear i0 i1
  have i0 : w5.cell? ⟨w.heap.size, 0, none⟩ = some (.int .i64 (W : Int)) := Blk.cell J5.I 0
  have i1 : w5.cell? ⟨w.heap.size, 1, none⟩ = some (.int .i64 (H : Int)) := Blk.cell J5.I 1
  have hl5 : (c6.data.toList).length + 4 < 1099511627776 := by
    have : c6.data.toList.length = c6.size := by rw [Array.length_toList]; rfl
    omega
  have hbs5 : B0 ≤ w5.heap.size := by rw [← hB0]; exact b5.size
  go_upto_region 8 with (at_builtin; refine wpList_append_strM rfl (.tmp 39) (.const (.string ⟨#[50, 53, 53, 10]⟩)) rfl B0 _ _ rfl o5 ⟨#[50, 53, 53, 10]⟩ rfl hl5 hbs5 ?_; intro v6 w6 o6 b6)
  have hown : OwnsM w6 B0 v6 (hdrL K W H) := by rw [← hdrA_more W H (by have := HK14.out; omega), ← HC6.out]; exact o6
  have hB0w : w.heap.size < B0 := by rw [← hB0]; exact Blk.lt J2.I
  have HR0 : Hid (RwI w w6 W H n c a B0 v6 (hdrL K W H ++ encRows K ((rowsOf l W H).take 0))) := Lib.hid ⟨by rw [List.take_zero]; simpa [encRows] using hown, Blk.below J5.I b6 hB0w, J5.B.trans (b6.mono (Nat.le_of_lt hB0w))⟩
  have HBW := Lib.hid hB0w
  clear o5 b5 J5 hown J0 J1 J2 b0 b1 b2 HI1 HIT1 HIT2 HIT3 hB0 A1 A2 A3 A4 A5 A6 hc6s hc6l HC6 o6 b6 hl5 hbs5 i0 i1 hB0w
  obtain ⟨i0, i1, i2, z0, z1, z2, il⟩ := IB.all HR0.out.I
  go_upto_region 9 with fail
  (try clear i0 i1 i2 z0 z1 z2 il)
  go_loopg [6, 7, 8, 9, 10, 11, 13, 43] H (fun gh v6 v7 v8 v9 v10 v11 v13 v43 wr => ∃ y : Nat, y + gh = H ∧ v43 = .int .i64 (y : Int) ∧ Hid (∀ i, i < y * W → mayB K (pcAt l i) = true) ∧ Hid (RwI w wr W H n c a B0 v6 (hdrL K W H ++ encRows K ((rowsOf l W H).take y))))
  case atStart => exact ⟨0, by omega, rfl, Lib.hid (fun i hi => by omega), HR0⟩
  case round =>
    clear HR0
    obtain ⟨y, hy, rfl, HA, HR⟩ := hrel
    obtain ⟨i0, i1, i2, z0, z1, z2, il⟩ := IB.all HR.out.I
    by_cases hyH : y < H
    · have hyI : (y : Int) < (H : Int) := by omega
      obtain ⟨m, rfl⟩ : ∃ m, gk = m + 1 := ⟨gk - 1, by omega⟩
      obtain ⟨yW, hyW⟩ : ∃ yW, y * W = yW := ⟨_, rfl⟩
      have HYW := Lib.hid hyW
      rw [hyW] at HA
      have HYB : Hid (yW + W ≤ W * H) := Lib.hid (by
        rw [← hyW, show y * W + W = (y + 1) * W by rw [Nat.add_mul, Nat.one_mul], Nat.mul_comm W H]
        exact Nat.mul_le_mul (by omega) (Nat.le_refl _))
      clear hyW
      go_upto_region 13 with fail
      clear i0 i1 i2 z0 z1 z2 il
      have HR1 : Hid (RwI w wr W H n c a B0 u6 (hdrL K W H ++ encRows K ((rowsOf l W H).take y) ++ rowT K ((rowOf l W y).take 0))) := Lib.hid (by rw [List.take_zero, show rowT K [] = [] from rfl, List.append_nil]; exact HR.out)
      obtain ⟨wo, hwo⟩ : ∃ wo, wo = wr := ⟨_, rfl⟩
      subst hwo
      go_loopg [6, 8, 9, 10, 11, 13, 48] W (fun gx v6 v8 v9 v10 v11 v13 v48 wx => ∃ x : Nat, x + gx = W ∧ v48 = .int .i64 (x : Int) ∧ v8 = .string (gpS x) ∧ Hid (∀ i, i < yW + x → mayB K (pcAt l i) = true) ∧ Hid (RwI w wx W H n c a B0 v6 (hdrL K W H ++ encRows K ((rowsOf l W H).take y) ++ rowT K ((rowOf l W y).take x))))
      case atStart => exact ⟨0, by omega, rfl, rfl, Lib.hid (fun i hi => HA.out i (by omega)), HR1⟩
      case round =>
        clear HR1 HR HA
        obtain ⟨x, hx, rfl, rfl, HA, HR2⟩ := hrel
        obtain ⟨i0, i1, i2, z0, z1, z2, il⟩ := IB.all HR2.out.I
        by_cases hxW : x < W
        · have hxI : (x : Int) < (W : Int) := by omega
          obtain ⟨g', rfl⟩ : ∃ g', gk = g' + 1 := ⟨gk - 1, by omega⟩
          have HPX := Lib.hid (HP.out x y hxW hyH _ (HBY.out.below HR2.out.B))
          rw [HYW.out] at HPX
          obtain ⟨q, hq⟩ : ∃ q, pcAt l (yW + x) = q := ⟨_, rfl⟩
          have hrow := row_at (l := l) (W := W) (y := y) hxW
          rw [HYW.out, hq] at hrow
          rw [hq] at HPX
          unfold Qc.v at HPX
          have HQ := Lib.hid hq
          have HRO := Lib.hid hrow
          clear hq hrow
          go_upto_region 16 with (go_at_call 26; refine HPX.out.mono ?_; rintro e w7 ⟨rfl, b7⟩; have HR7 := Lib.hid ((HR2.out.below b7).alloc (.cells #[.int .u8 (q.r.toNat : Int), .int .u8 (q.g.toNat : Int), .int .u8 (q.b.toNat : Int), .int .u8 (q.a.toNat : Int)] 48)); have C7 : CB (w7.alloc (.cells #[.int .u8 (q.r.toNat : Int), .int .u8 (q.g.toNat : Int), .int .u8 (q.b.toNat : Int), .int .u8 (q.a.toNat : Int)] 48)) w7.heap.size (q.r.toNat : Int) (q.g.toNat : Int) (q.b.toNat : Int) (q.a.toNat : Int) := Blk.new _ _ _; clear i0 i1 i2 z0 z1 z2 il)
          clear HR2 HPX b7
          generalize w7.alloc (.cells #[.int .u8 (q.r.toNat : Int), .int .u8 (q.g.toNat : Int), .int .u8 (q.b.toNat : Int), .int .u8 (q.a.toNat : Int)] 48) = w8 at HR7 C7 ⊢
          generalize w7.heap.size = qc at C7 ⊢
          have c0 := C7.c0
          have c1 := C7.c1
          have c2 := C7.c2
          have c3 := C7.c3
          have HC7 := Lib.hid C7
          clear C7
          have HMY0 := textMayC HK3.out q
          unfold Qc.v at HMY0
          obtain ⟨mb, hmb⟩ : ∃ mb, mayB K q = mb := ⟨_, rfl⟩
          rw [hmb] at HMY0
          have HMY := Lib.hid HMY0
          have HMB := Lib.hid hmb
          clear HMY0 hmb
          cases mb with
          | false =>
            go_wp2_with (go_at_call 27; refine (HMY.out _).mono ?_; rintro e w9 ⟨rfl, b9⟩)
            go_ret2
            exact ⟨below_next HR7.out.B b9, by rw [rawV_no (mayAll_no (i := yW + x) (by have := HYB.out; omega) (by rw [HQ.out]; exact HMB.out))]; rfl⟩
          | true =>
            have HSM0 := samplesC HK3.out q
            unfold Qc.v at HSM0
            have HSM := Lib.hid HSM0
            clear HSM0
            go_upto_region 19 with (first | (go_at_call 27; refine (HMY.out _).mono ?_; rintro e w9 ⟨rfl, b9⟩; have HR9 := Lib.hid (HR7.out.below b9); have C9 : CB w9 qc (q.r.toNat : Int) (q.g.toNat : Int) (q.b.toNat : Int) (q.a.toNat : Int) := Blk.below HC7.out b9 (Blk.lt HC7.out); clear c0 c1 c2 c3; have c0 := C9.c0; have c1 := C9.c1; have c2 := C9.c2; have c3 := C9.c3) | (go_at_call 28; refine (HSM.out _).mono ?_; rintro e w10 ⟨g, rfl, hS, b10⟩))
            have HR10 : Hid (RwI w w10 W H n c a B0 u6 (hdrL K W H ++ encRows K ((rowsOf l W H).take y) ++ rowT K ((rowOf l W y).take x) ++ smpT x (smp K q) 0)) := Lib.hid (by rw [smpT_zero, List.append_nil]; exact HR9.out.below b10)
            have HS10 := Lib.hid hS
            have HA2 : Hid (∀ i, i < yW + (x + 1) → mayB K (pcAt l i) = true) := Lib.hid (fun i hi => by
              by_cases h : i = yW + x
              · subst h
                rw [HQ.out]
                exact HMB.out
              · exact HA.out i (by omega))
            clear HR7 HC7 HMY HSM hS b10 HR9 C9 c0 c1 c2 c3 b9 HA
            have hm13 := smp_pos K q
            obtain ⟨sl, hsl⟩ : ∃ sl, (smp K q).length = sl := ⟨_, rfl⟩
            rw [hsl] at hm13 ⊢
            have HSL := Lib.hid hsl
            clear hsl
            obtain ⟨wp, hwp⟩ : ∃ wp, wp = wr := ⟨_, rfl⟩
            subst hwp
            go_loopg [6, 8, 13, 66] sl (fun gi v6 v8 v13 v66 wz => ∃ i : Nat, i + gi = sl ∧ v66 = .int .i64 (i : Int) ∧ v8 = .string (gpS (x + i)) ∧ Hid (Blk wz g 3 ((smp K q).map fun (t : Nat) => Value.int .i64 (t : Int)).toArray) ∧ Hid (RwI w wz W H n c a B0 v6 (hdrL K W H ++ encRows K ((rowsOf l W H).take y) ++ rowT K ((rowOf l W y).take x) ++ smpT x (smp K q) i)))
            case atStart => exact ⟨0, by omega, rfl, rfl, HS10, HR10⟩
            case round =>
              clear HS10 HR10
              obtain ⟨i, hi, rfl, rfl, HS, HR3⟩ := hrel
              by_cases hil : i < sl
              · have hiI : (i : Int) < (sl : Int) := by omega
                obtain ⟨g3, rfl⟩ : ∃ g3, gk = g3 + 1 := ⟨gk - 1, by omega⟩
                obtain ⟨t, ht, htc⟩ := smp_at (K := K) (q := q) (i := i) (by rw [HSL.out]; exact hil)
                have hcell := (Blk.cell HS.out i).trans htc
                have ht255 := smp_le ht
                have HTT := Lib.hid ht
                have hbs := HR3.out.hs
                have hgl := Blk.lt HS.out
                have hl0 : (hdrL K W H ++ encRows K ((rowsOf l W H).take y) ++ rowT K ((rowOf l W y).take x) ++ smpT x (smp K q) i).length < 200000000000 := by
                  have h1 := text_part (y := y) (l := l) HK3.out hWb hHb (Nat.le_of_lt hxW)
                  have h2 := smpT_len (x := x) (K := K) (q := q) i
                  rw [List.length_append]
                  omega
                have hl1 : (hdrL K W H ++ encRows K ((rowsOf l W H).take y) ++ rowT K ((rowOf l W y).take x) ++ smpT x (smp K q) i).length + (gpS (x + i)).size < 1099511627776 := by
                  have := gpS_size (x + i)
                  omega
                have HL2 : Hid ((hdrL K W H ++ encRows K ((rowsOf l W H).take y) ++ rowT K ((rowOf l W y).take x) ++ smpT x (smp K q) i ++ (gpS (x + i)).data.toList).length + 20 < 1099511627776) := Lib.hid (by
                  rw [List.length_append, gpS_list]
                  have : (gp (x + i)).length ≤ 1 := by unfold gp; split <;> decide
                  omega)
                have hwt : IntKind.i64.wrap (t : Int) = (t : Int) := IntWalk.i64_in _ (by omega)
                clear ht htc hl0
                go_upto_region 23 with (first | (at_builtin; refine wpList_append_strK rfl (.tmp 70) (.tmp 71) rfl B0 _ _ rfl HR3.out.O (gpS (x + i)) rfl hl1 hbs ?_; intro v9 w9 o9 b9 k9; have HI := Lib.hid (appInt (u := t) (by omega) (HT.out.below (HR3.out.B.trans (b9.mono (Nat.le_of_lt HBW.out)))) o9 HL2.out)) | (go_at_call 29; refine HI.out.mono ?_; rintro e w11 ⟨v11, rfl, o11, b11, k11⟩))
                have HR4 : Hid (RwI w w11 W H n c a B0 v11 (hdrL K W H ++ encRows K ((rowsOf l W H).take y) ++ rowT K ((rowOf l W y).take x) ++ smpT x (smp K q) (i + 1))) := Lib.hid (by
                  have h := (HR3.out.next HBW.out o9 b9).next HBW.out o11 b11
                  rw [gpS_list] at h
                  rw [smpT_more HTT.out]
                  simpa only [List.append_assoc] using h)
                have HS4 : Hid (Blk w11 g 3 ((smp K q).map fun (t : Nat) => Value.int .i64 (t : Int)).toArray) := Lib.hid (k11 _ _ (k9 _ _ HS.out))
                clear o9 b9 k9 o11 b11 k11 HI HR3 HS hcell hl1 HL2 hgl hbs
                go_wp2_with fail
                go_roundg g3
                case measure => omega
                case rel => exact ⟨i + 1, by omega, by go_num, by rw [gpS_pos (by omega)], HS4, HR4⟩
              · obtain rfl : i = sl := by omega
                obtain rfl : gk = 0 := by omega
                have hiI : ¬ (i : Int) < (i : Int) := by omega
                have HR5 : Hid (RwI w wr W H n c a B0 u6 (hdrL K W H ++ encRows K ((rowsOf l W H).take y) ++ rowT K ((rowOf l W y).take (x + 1)))) := Lib.hid (by
                  have h := HR3.out
                  rw [← HSL.out, List.append_assoc, rowT_more HK3.out HRO.out] at h
                  exact h)
                clear HR3 HS
                go_wp2_with fail
                go_roundg g'
                case measure => omega
                case rel => exact ⟨x + 1, by omega, by go_num, by rw [gpS_pos (by omega), gpS_pos (by omega)], HA2, HR5⟩
        · obtain rfl : x = W := by omega
          obtain rfl : gk = 0 := by omega
          have hxI : ¬ (x : Int) < (x : Int) := by omega
          have HA2 : Hid (∀ i, i < (y + 1) * x → mayB K (pcAt l i) = true) := Lib.hid (fun i hi => HA.out i (by have := HYW.out; rw [Nat.add_mul, Nat.one_mul] at hi; omega))
          have hO := HR2.out
          rw [List.take_of_length_le (show (rowOf l x y).length ≤ x by rw [rowOf_len]; exact Nat.le_refl _)] at hO
          have HR3 := Lib.hid hO
          have hbs2 : B0 ≤ (wr.alloc (.cells #[.int .u8 10] 5)).heap.size := (HR3.out.alloc _).hs
          have hlen : (hdrL K x H ++ encRows K ((rowsOf l x H).take y) ++ rowT K (rowOf l x y)).length + 1 < 1099511627776 := by
            have h1 := text_part (y := y) (l := l) (x := x) HK3.out hWb hHb (Nat.le_refl _)
            rw [List.take_of_length_le (show (rowOf l x y).length ≤ x by rw [rowOf_len]; exact Nat.le_refl _)] at h1
            omega
          clear hO HR2 HA
          go_upto_region 27 with (at_builtin; refine wpList_append_sliceM rfl (.tmp 78) (.tmp 79) rfl B0 _ _ rfl (HR3.out.alloc _).O _ 1 1 [10] rfl rfl (cellsW_new rfl) hlen hbs2 ?_; intro v9 w9 o9 b9)
          have HR9 : Hid (RwI w w9 x H n c a B0 v9 (hdrL K x H ++ encRows K ((rowsOf l x H).take (y + 1)))) := Lib.hid (by
            rw [rows_next hyH, ← rowT_end HK3.out, ← List.append_assoc, ← List.append_assoc]
            exact (HR3.out.alloc _).next HBW.out o9 b9)
          clear o9 b9 HR3 hbs2 hlen
          go_wp2_with fail
          go_roundg m
          case measure => omega
          case rel => exact ⟨y + 1, by omega, by go_num, HA2, HR9⟩
    · obtain rfl : y = H := by omega
      obtain rfl : gk = 0 := by omega
      have hyI : ¬ (y : Int) < (y : Int) := by omega
      have hO := HR.out.O
      rw [List.take_of_length_le (show (rowsOf l W y).length ≤ y by unfold rowsOf; simp)] at hO
      have HO := Lib.hid hO
      clear hO
      go_wp2_with (refine wpList_convert_M rfl (.tmp 82) 9 Tryz.underlying9 rfl _ _ _ rfl HO.out ?_)
      go_ret2
      exact ⟨HR.out.B, by rw [rawV_yes (mayAll_yes (fun i hi => HA.out i (by rw [Nat.mul_comm]; exact hi)))]; rfl⟩
theorem textWriteC {K : Nat} (hK : K = 1 ∨ K = 2 ∨ K = 3) {W H n c : Nat} {a : Option Addr} {l : List UInt8} {w : World} (hT : TabW w) (hr : RightP (W : Int) (H : Int) n) (hl : n = l.length) (hnc : n ≤ c) (hb : BytesAt w a n l) (hWb : W ≤ 4000) (hHb : H ≤ 4000) : Calls Tryz.prog 7 #[.agg #[.int .i64 (W : Int), .int .i64 (H : Int), .slice a n c], .int .i64 (K : Int)] w fun e w' => Below w.heap.size w w' ∧ e = .returned (rawV K W H l) := by
  by_cases h : K = 1
  · exact textWrite_one h hT hr hl hnc hb hWb hHb
  · exact textWrite_more (by omega) hT hr hl hnc hb hWb hHb
end Go.Proofs.YthljhebbblhakaaGreatDoor
