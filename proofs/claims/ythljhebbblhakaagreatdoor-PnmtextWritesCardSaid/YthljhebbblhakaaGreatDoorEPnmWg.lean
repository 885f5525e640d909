/- Writing PNM: pnmraw.Write. -/
import Derived.Test.YthljhebbblhakaaGreatDoorEPnmWc
import Derived.Test.YthljhebbblhakaaGreatDoorEPnmDocs
namespace Go.Proofs.YthljhebbblhakaaGreatDoor
open Go.RowKit
set_option linter.unusedVariables false
set_option linter.unusedSimpArgs false

/-- []byte(text): as a step of a region that draws -/
theorem step_bytes {ops : Array Oper} {o : Oper} {a : Act} {w : World} {K : Act → World → Prop} {Q : Exit → Act → World → Prop} {E : Prop}
    (hgd : o.guard = none) (x : Operand) (ho : o.op = .convert 9 22 x) (s : ByteArray) (hx : a.eval x = .string s) (hs : s.size ≤ 1000000)
    (h : ∀ v' w', OwnsM w' w.heap.size v' s.data.toList → Below w.heap.size w w' → K (a.put o.dst v') w') :
    if Region.wanted o (yielded ops a.tmps) = true then Oper.wp Tryz.prog o a w K Q else E := by
  have hw : Region.wanted o (yielded ops a.tmps) = true := by simp [Region.wanted, hgd]
  rw [if_pos hw]
  have hrun := Lib.run_convert_string_bytes (P := Tryz.prog) w 9 22 5 s Tryz.underlying9 Tryz.underlying22 Tryz.underlying5
  unfold Oper.wp
  simp [execOp, ho, hx, hrun, Result.andThen]
  exact h _ _ (OwnsM.ofBytes w s hs) ⟨rfl, rfl, rfl, by rw [Lib.bytesWorld_size]; omega, fun j hj => Lib.bytesWorld_at_old w _ s j hj⟩
theorem rawRowC {K : Nat} {L : List Qc} {g0 n c : Nat} {w : World} (hK : K = 4 ∨ K = 5 ∨ K = 6) (hn : L.length = n) (hb : n ≤ 20000) (hq : QAt w g0 0 L) (hg : g0 < w.heap.size) : Calls Tryz.prog 39 #[.slice (some ⟨g0, 0, none⟩) n c, .int .i64 (K : Int)] w fun e w' => ∃ v, e = .returned v ∧ Owns8 w' w.heap.size v (encRow K L) ∧ Below w.heap.size w w' := by
  rcases hK with rfl | rfl | rfl
  · exact rawRow_4 hn hb hq hg
  · exact rawRow_5 hn hb hq hg
  · exact rawRow_6 hn hb hq hg
theorem encRow_pos {K : Nat} {L : List Qc} (hK : K = 4 ∨ K = 5 ∨ K = 6) (hL : 0 < L.length) : 0 < (encRow K L).length := by
  rcases hK with rfl | rfl | rfl
  · unfold encRow row4B
    rw [if_neg (by decide), if_pos rfl]
    simp
    omega
  · unfold encRow
    rw [if_neg (by decide), if_neg (by decide)]
    cases L with
    | nil => simp at hL
    | cons q L => simp [pxB]
  · unfold encRow
    rw [if_neg (by decide), if_neg (by decide)]
    cases L with
    | nil => simp at hL
    | cons q L => simp [pxB]
/-- a colour is put into a row of colours -/
def stq (w : World) (g x : Nat) (q : Qc) : World := (((w.setCell ⟨g, x * 4, none⟩ (.int .u8 (q.r.toNat : Int))).setCell ⟨g, x * 4 + 1, none⟩ (.int .u8 (q.g.toNat : Int))).setCell ⟨g, x * 4 + 2, none⟩ (.int .u8 (q.b.toNat : Int))).setCell ⟨g, x * 4 + 3, none⟩ (.int .u8 (q.a.toNat : Int))
theorem stq_put {w : World} {g x : Nat} {q : Qc} {L : List Qc} {cs : Array Value} (hB : Blk w g 48 cs) (hs : x * 4 + 4 ≤ cs.size) (h : QAt w g 0 L) (hL : L.length = x) : ∃ cs', Blk (stq w g x q) g 48 cs' ∧ cs'.size = cs.size ∧ QAt (stq w g x q) g 0 (L ++ [q]) := by
  have hB' : Blk (stq w g x q) g 48 ((((cs.setIfInBounds (x * 4) (.int .u8 (q.r.toNat : Int))).setIfInBounds (x * 4 + 1) (.int .u8 (q.g.toNat : Int))).setIfInBounds (x * 4 + 2) (.int .u8 (q.b.toNat : Int))).setIfInBounds (x * 4 + 3) (.int .u8 (q.a.toNat : Int))) := (((hB.set_ _ _).set_ _ _).set_ _ _).set_ _ _
  refine ⟨_, hB', by simp, ?_⟩
  intro i p hp
  rw [Nat.zero_add]
  by_cases hi : i < x
  · rw [List.getElem?_append_left (by omega)] at hp
    obtain ⟨h0, h1, h2, h3⟩ := h i p hp
    rw [Nat.zero_add, Blk.cell hB] at h0 h1 h2 h3
    rw [Blk.cell hB', Blk.cell hB', Blk.cell hB', Blk.cell hB']
    simp only [Array.getElem?_setIfInBounds]
    rw [if_neg (by omega), if_neg (by omega), if_neg (by omega), if_neg (by omega), if_neg (by omega), if_neg (by omega), if_neg (by omega), if_neg (by omega), if_neg (by omega), if_neg (by omega), if_neg (by omega), if_neg (by omega), if_neg (by omega), if_neg (by omega), if_neg (by omega), if_neg (by omega)]
    exact ⟨h0, h1, h2, h3⟩
  · have hix : i = x := by
      have := (List.getElem?_eq_some_iff.1 hp).1
      simp at this
      omega
    subst hix
    rw [List.getElem?_append_right (by omega), hL, Nat.sub_self] at hp
    have hpq : q = p := by simpa using hp
    subst hpq
    rw [Blk.cell hB', Blk.cell hB', Blk.cell hB', Blk.cell hB']
    simp only [Array.getElem?_setIfInBounds, Array.size_setIfInBounds]
    refine ⟨?_, ?_, ?_, ?_⟩
    · rw [if_neg (by omega), if_neg (by omega), if_neg (by omega), if_pos trivial, if_pos (by omega)]
    · rw [if_neg (by omega), if_neg (by omega), if_pos trivial, if_pos (by omega)]
    · rw [if_neg (by omega), if_pos trivial, if_pos (by omega)]
    · rw [if_pos trivial, if_pos (by omega)]
theorem stq_below {w w0 : World} {B g x : Nat} {q : Qc} (h : Below B w0 w) (hg : B ≤ g) : Below B w0 (stq w g x q) := below_set (below_set (below_set (below_set h hg) hg) hg) hg
/-- what holds at each row -/
structure RwI (w0 w : World) (W H n c : Nat) (a : Option Addr) (B0 : Nat) (v : Value) (bs : List UInt8) : Prop where
  O : OwnsM w B0 v bs
  I : IB w w0.heap.size (W : Int) (H : Int) a n c
  B : Below w0.heap.size w0 w
theorem RwI.below {w0 w w' : World} {W H n c B0 : Nat} {a : Option Addr} {v : Value} {bs : List UInt8} (h : RwI w0 w W H n c a B0 v bs) (b : Below w.heap.size w w') : RwI w0 w' W H n c a B0 v bs := ⟨h.O.below_ b, Blk.below h.I b (Blk.lt h.I), below_next h.B b⟩
theorem OwnsM.size {w : World} {base : Nat} {v : Value} {l : List UInt8} (h : OwnsM w base v l) : base ≤ w.heap.size := by
  obtain ⟨g, cap, cur, fz, rfl, hb, hg, _⟩ := h
  have := (Array.getElem?_eq_some_iff.1 hg).1
  omega
def hdrA (K W H : Nat) : List UInt8 := [80, UInt8.ofNat (48 + K), 10] ++ dg W ++ [32] ++ dg H ++ [10]
theorem hdrA_four (W H : Nat) : hdrA 4 W H = hdrL 4 W H := by unfold hdrA hdrL; simp
theorem hdrA_more {K : Nat} (W H : Nat) (hK : ¬ (K = 1 ∨ K = 4)) : hdrA K W H ++ [50, 53, 53, 10] = hdrL K W H := by unfold hdrA hdrL; rw [if_neg hK]
theorem hdr_text {K W H : Nat} (hK : K < 10) : ((⟨#[80]⟩ : ByteArray) ++ dec K ++ ⟨#[10]⟩ ++ dec W ++ ⟨#[32]⟩ ++ dec H ++ ⟨#[10]⟩).data.toList = hdrA K W H := by
  unfold hdrA dec dg
  rw [Lib.decDigits_one hK]
  simp
theorem rows_next {K W H y : Nat} {l : List UInt8} (hy : y < H) : encRows K ((rowsOf l W H).take (y + 1)) = encRows K ((rowsOf l W H).take y) ++ encRow K (rowOf l W y) := by
  have hg : (rowsOf l W H)[y]? = some (rowOf l W y) := by unfold rowsOf; simp [hy]
  rw [List.take_add_one, hg]
  unfold encRows
  simp
theorem row_more {l : List UInt8} {W y x : Nat} (hx : x < W) : (rowOf l W y).take (x + 1) = (rowOf l W y).take x ++ [pcAt l (y * W + x)] := by
  have hg : (rowOf l W y)[x]? = some (pcAt l (y * W + x)) := by unfold rowOf; simp [hx]
  rw [List.take_add_one, hg]
  rfl
theorem encRow_len {K : Nat} {L : List Qc} (hK : K = 4 ∨ K = 5 ∨ K = 6) : (encRow K L).length ≤ 3 * L.length + 1 := by
  have h : ∀ (k : Nat) (M : List Qc), ((M.map (pxB k)).flatten).length ≤ 3 * M.length := by
    intro k M
    induction M with
    | nil => simp
    | cons x M ih =>
      rw [List.map_cons, List.flatten_cons, List.length_append, List.length_cons]
      have : (pxB k x).length ≤ 3 := by unfold pxB; split <;> simp
      omega
  unfold encRow
  rcases hK with rfl | rfl | rfl
  · rw [if_neg (by decide), if_pos rfl]
    unfold row4B
    simp
    omega
  · rw [if_neg (by decide), if_neg (by decide)]
    have := h 5 L
    omega
  · rw [if_neg (by decide), if_neg (by decide)]
    have := h 6 L
    omega
theorem encRows_len {K W : Nat} (hK : K = 4 ∨ K = 5 ∨ K = 6) : ∀ rows : List (List Qc), (∀ r ∈ rows, r.length = W) → (encRows K rows).length ≤ rows.length * (3 * W + 1)
  | [], _ => by simp [encRows]
  | r :: rows, h => by
    have h1 := encRow_len (L := r) hK
    have h2 := encRows_len hK rows (fun x hx => h x (List.mem_cons_of_mem _ hx))
    rw [h r List.mem_cons_self] at h1
    unfold encRows at h2 ⊢
    rw [List.map_cons, List.flatten_cons, List.length_append, List.length_cons, Nat.add_mul, Nat.one_mul]
    omega
theorem enc_small {K W H y : Nat} {l : List UInt8} (hK : K = 4 ∨ K = 5 ∨ K = 6) (hW : W ≤ 4000) (hH : H ≤ 4000) : (hdrL K W H ++ encRows K ((rowsOf l W H).take y)).length + (encRow K (rowOf l W y)).length < 1099511627776 := by
  have h1 := encRow_len (L := rowOf l W y) hK
  rw [rowOf_len] at h1
  have h2 := encRows_len (W := W) hK ((rowsOf l W H).take y) (fun r hr => by
    obtain ⟨z, _, rfl⟩ := List.mem_map.1 (List.mem_of_mem_take hr)
    exact rowOf_len l W z)
  have h3 : ((rowsOf l W H).take y).length ≤ 4000 := by
    rw [List.length_take]
    unfold rowsOf
    simp
    omega
  have h4 : ((rowsOf l W H).take y).length * (3 * W + 1) ≤ 4000 * 12001 := Nat.mul_le_mul h3 (by omega)
  have h5 := hdr_len K W H
  have h6 := dec_size' W
  have h7 := dec_size' H
  have h8 : (dN W).length ≤ W + 1 := by rw [dg_len]; exact h6
  have h9 : (dN H).length ≤ H + 1 := by rw [dg_len]; exact h7
  rw [List.length_append, h5]
  split <;> omega
/-- what pnmraw.Write answers -/
def rawV (K W H : Nat) (l : List UInt8) : Value := if mayAll K l (W * H) = true then .tuple #[.string (strOf (encL K W H l)), .int .i64 0] else .tuple #[.string ⟨#[]⟩, .int .i64 6]
theorem rawV_yes {K W H : Nat} {l : List UInt8} (h : mayAll K l (W * H) = true) : rawV K W H l = .tuple #[.string (strOf (encL K W H l)), .int .i64 0] := by unfold rawV; rw [if_pos h]
theorem rawV_no {K W H : Nat} {l : List UInt8} (h : mayAll K l (W * H) = false) : rawV K W H l = .tuple #[.string ⟨#[]⟩, .int .i64 6] := by unfold rawV; rw [h]; rfl
set_option maxRecDepth 100000 in
set_option maxHeartbeats 8000000 in
theorem rawWrite_four {K : Nat} (hK : K = 4) {W H n c : Nat} {a : Option Addr} {l : List UInt8} {w : World} (hT : TabW w) (hr : RightP (W : Int) (H : Int) n) (hl : n = l.length) (hnc : n ≤ c) (hb : BytesAt w a n l) (hWb : W ≤ 4000) (hHb : H ≤ 4000) : Calls Tryz.prog 14 #[.agg #[.int .i64 (W : Int), .int .i64 (H : Int), .slice a n c], .int .i64 (K : Int)] w fun e w' => Below w.heap.size w w' ∧ e = .returned (rawV K W H l) := by
  have hW := hr.1
  have hH := hr.2.1
  have hK4 : ¬ (K : Int) < 4 := by omega
  have hK6 : ¬ (6 : Int) < (K : Int) := by omega
  have hK4b : ¬ (4 : Int) < (K : Int) := by omega
  have hKt : K ≤ 6 := by omega
  have HK3 : Hid (K = 4 ∨ K = 5 ∨ K = 6) := Lib.hid (by omega)
  have HK14 : Hid (K = 4) := Lib.hid hK
  have HP := Lib.hid (fun (X Y : Nat) (hX : X < W) (hY : Y < H) => (px_both (a := a) hr hl hnc hX hY).1)
  have HRT := Lib.hid (fun w => right_true (a := a) (c := c) hr w)
  have HBY := Lib.hid hb
  have HIT1 := Lib.hid (fun (w' : World) (b : Below w.heap.size w w') => itoaC (hT.below b) (n := K) (by omega))
  have HIT2 := Lib.hid (fun (w' : World) (b : Below w.heap.size w w') => itoaC (hT.below b) (n := W) (by omega))
  have HIT3 := Lib.hid (fun (w' : World) (b : Below w.heap.size w w') => itoaC (hT.below b) (n := H) (by omega))
  have W1 : WiI w (w.alloc (.cells #[.int .i64 (W : Int), .int .i64 (H : Int), .slice a n c] 24)) W H n c a l := WiI.new hb
  obtain ⟨q0, hi, hz0, hz1, hz2⟩ := info_parts infoQ
  have hmk : ∀ w : World, (Instr.makeSlice 70 (.int .i64 (W : Int)) (.int .i64 (W : Int))).run Tryz.prog w = .ok (.slice (some ⟨w.heap.size, 0, none⟩) W W) (w.alloc (.cells (madeCells #[.int .u8 0, .int .u8 0, .int .u8 0, .int .u8 0] (W * 4)) 48)) := fun w => by
    have := run_make w 70 48 q0 _ Tryz.underlying70 hi hz0 .i64 .i64 (W : Int) (W : Int) (by omega) (Int.le_refl _) (by rw [hz2]; omega) (by omega)
    rw [hz1, show (Value.agg #[.int .u8 0, .int .u8 0, .int .u8 0, .int .u8 0]).cells = #[.int .u8 0, .int .u8 0, .int .u8 0, .int .u8 0] from rfl] at this
    simpa using this
  have HMK := Lib.hid hmk
  have z1 := dec_size K
  have z2 := dec_size W
  have z3 := dec_size H
  have z4 : (⟨#[80]⟩ : ByteArray).size = 1 := rfl
  have z5 : (⟨#[10]⟩ : ByteArray).size = 1 := rfl
  have z6 : (⟨#[32]⟩ : ByteArray).size = 1 := rfl
  obtain ⟨c1, hc1⟩ : ∃ c1, (⟨#[80]⟩ : ByteArray) ++ dec K = c1 := ⟨_, rfl⟩
  have s1 : c1.size = 1 + (dec K).size := by rw [← hc1, ByteArray.size_append, z4]
  have A1 : ∀ w : World, (Op.stringOp .add ⟨#[80]⟩ (dec K)).run Tryz.prog w = .ok (.string c1) w := fun w => by rw [← hc1]; exact run_string_add_sum w _ _ (by omega)
  obtain ⟨c2, hc2⟩ : ∃ c2, c1 ++ ⟨#[10]⟩ = c2 := ⟨_, rfl⟩
  have s2 : c2.size = c1.size + 1 := by rw [← hc2, ByteArray.size_append, z5]
  have A2 : ∀ w : World, (Op.stringOp .add c1 ⟨#[10]⟩).run Tryz.prog w = .ok (.string c2) w := fun w => by rw [← hc2]; exact run_string_add_sum w _ _ (by omega)
  obtain ⟨c3, hc3⟩ : ∃ c3, c2 ++ dec W = c3 := ⟨_, rfl⟩
  have s3 : c3.size = c2.size + (dec W).size := by rw [← hc3, ByteArray.size_append]
  have A3 : ∀ w : World, (Op.stringOp .add c2 (dec W)).run Tryz.prog w = .ok (.string c3) w := fun w => by rw [← hc3]; exact run_string_add_sum w _ _ (by omega)
  obtain ⟨c4, hc4⟩ : ∃ c4, c3 ++ ⟨#[32]⟩ = c4 := ⟨_, rfl⟩
  have s4 : c4.size = c3.size + 1 := by rw [← hc4, ByteArray.size_append, z6]
  have A4 : ∀ w : World, (Op.stringOp .add c3 ⟨#[32]⟩).run Tryz.prog w = .ok (.string c4) w := fun w => by rw [← hc4]; exact run_string_add_sum w _ _ (by omega)
  obtain ⟨c5, hc5⟩ : ∃ c5, c4 ++ dec H = c5 := ⟨_, rfl⟩
  have s5 : c5.size = c4.size + (dec H).size := by rw [← hc5, ByteArray.size_append]
  have A5 : ∀ w : World, (Op.stringOp .add c4 (dec H)).run Tryz.prog w = .ok (.string c5) w := fun w => by rw [← hc5]; exact run_string_add_sum w _ _ (by omega)
  obtain ⟨c6, hc6⟩ : ∃ c6, c5 ++ ⟨#[10]⟩ = c6 := ⟨_, rfl⟩
  have s6 : c6.size = c5.size + 1 := by rw [← hc6, ByteArray.size_append, z5]
  have A6 : ∀ w : World, (Op.stringOp .add c5 ⟨#[10]⟩).run Tryz.prog w = .ok (.string c6) w := fun w => by rw [← hc6]; exact run_string_add_sum w _ _ (by omega)
  have hc6s : c6.size ≤ 1000000 := by omega
  have hc6l : c6.data.toList = hdrA K W H := by rw [← hc6, ← hc5, ← hc4, ← hc3, ← hc2, ← hc1]; exact hdr_text (by omega)
  have HC6 := Lib.hid hc6l
  generalize dec K = dK at A1 s1 HIT1
  generalize dec W = dW at A3 s3 HIT2
  generalize dec H = dH at A5 s5 HIT3
  have hc6l := HC6.out
  clear hr hl hnc hb hT hi hz0 hz1 hz2 hmk hc1 hc2 hc3 hc4 hc5 hc6 s1 s2 s3 s4 s5 s6 z1 z2 z3 z4 z5 z6 hc6l hK
  go_enter Tryz.func14, Tryz.ntmps14
  have HI0 := Lib.hid W1
  obtain ⟨i0, i1, i2, z0, z1, z2, il⟩ := IB.all W1.I
  go_upto_region 5 with (go_at_call 24; refine (HRT.out _).mono ?_; rintro e w1 ⟨rfl, b1⟩; have W2 := HI0.out.below b1; clear i0 i1 i2 z0 z1 z2 il; obtain ⟨i0, i1, i2, z0, z1, z2, il⟩ := IB.all W2.I)
  clear HI0 W1 b1 i2 z0 z1 z2 il
  have HI1 := Lib.hid W2
  clear W2
  refine wp_region_held_drew (S := fun wx => wx.cell? ⟨w.heap.size, 0, none⟩ = some (.int .i64 (W : Int)) ∧ wx.cell? ⟨w.heap.size, 1, none⟩ = some (.int .i64 (H : Int))) (by kernel_rfl) ⟨i0, i1⟩ (fun hHeld => ?_)
  refine wpAnyH_take (i := 0) (v := ?_) rfl (by kernel_rfl) (by kernel_rfl) (by kernel_rfl) (fun _ _ _ h => h) (Or.inl ⟨by kernel_rfl, ?_⟩) (by assumption) ?_
  rotate_left
  · intro w hSw; obtain ⟨s0, s1⟩ := hSw; go_simp; (try with_reducible rfl)
  (try simp only [Act.put, List.getElem_toArray, List.getElem_cons_succ, List.getElem_cons_zero, List.setIfInBounds_toArray, List.set_cons_zero, List.set_cons_succ])
  refine wpAnyH_take (i := 4) (v := ?_) rfl (by kernel_rfl) (by kernel_rfl) (by kernel_rfl) (fun _ _ _ h => h) (Or.inl ⟨by kernel_rfl, ?_⟩) (by assumption) ?_
  rotate_left
  · intro w hSw; obtain ⟨s0, s1⟩ := hSw; go_simp; (try with_reducible rfl)
  (try simp only [Act.put, List.getElem_toArray, List.getElem_cons_succ, List.getElem_cons_zero, List.setIfInBounds_toArray, List.set_cons_zero, List.set_cons_succ])
  refine wpAnyH_take (i := 5) (v := ?_) rfl (by kernel_rfl) (by kernel_rfl) (by kernel_rfl) (fun _ _ _ h => h) (Or.inl ⟨by kernel_rfl, ?_⟩) (by assumption) ?_
  rotate_left
  · intro w hSw; obtain ⟨s0, s1⟩ := hSw; go_simp; (try with_reducible rfl)
  (try simp only [Act.put, List.getElem_toArray, List.getElem_cons_succ, List.getElem_cons_zero, List.setIfInBounds_toArray, List.set_cons_zero, List.set_cons_succ])
  refine wpAnyH_take (i := 9) (v := ?_) rfl (by kernel_rfl) (by kernel_rfl) (by kernel_rfl) (fun _ _ _ h => h) (Or.inl ⟨by kernel_rfl, ?_⟩) (by assumption) ?_
  rotate_left
  · intro w hSw; obtain ⟨s0, s1⟩ := hSw; go_simp; (try with_reducible rfl)
  (try simp only [Act.put, List.getElem_toArray, List.getElem_cons_succ, List.getElem_cons_zero, List.setIfInBounds_toArray, List.set_cons_zero, List.set_cons_succ])
  refine wpAnyH_take (i := 10) (v := ?_) rfl (by kernel_rfl) (by kernel_rfl) (by kernel_rfl) (fun _ _ _ h => h) (Or.inl ⟨by kernel_rfl, ?_⟩) (by assumption) ?_
  rotate_left
  · intro w hSw; obtain ⟨s0, s1⟩ := hSw; go_simp; (try with_reducible rfl)
  (try simp only [Act.put, List.getElem_toArray, List.getElem_cons_succ, List.getElem_cons_zero, List.setIfInBounds_toArray, List.set_cons_zero, List.set_cons_succ])
  refine wpAnyH_ready (rs := [1]) (by kernel_rfl) (by simp) ?_
  refine AllReadyH.cons rfl (fun K hK => ?_) AllReadyH.nil
  go_simp
  refine (HIT1.out _ (HI1.out.drew).B).mono ?_
  rintro e w'0 ⟨rfl, b0⟩
  have J0 := (HI1.out.drew).below b0
  refine hK.out _ _ (⟨Blk.cell J0.I 0, Blk.cell J0.I 1⟩) (fun hHeld' => ?_)
  clear hK K hHeld
  have hHeld := hHeld'
  clear hHeld'
  (try simp only [Act.put, List.getElem_toArray, List.getElem_cons_succ, List.getElem_cons_zero, List.setIfInBounds_toArray, List.set_cons_zero, List.set_cons_succ])
  refine wpAnyH_take (i := 2) (v := ?_) rfl (by kernel_rfl) (by kernel_rfl) (by kernel_rfl) (fun _ _ _ h => h) (Or.inl ⟨by kernel_rfl, ?_⟩) (by assumption) ?_
  rotate_left
  · intro w hSw; obtain ⟨s0, s1⟩ := hSw; go_simp; (try with_reducible rfl)
  (try simp only [Act.put, List.getElem_toArray, List.getElem_cons_succ, List.getElem_cons_zero, List.setIfInBounds_toArray, List.set_cons_zero, List.set_cons_succ])
  refine wpAnyH_take (i := 3) (v := ?_) rfl (by kernel_rfl) (by kernel_rfl) (by kernel_rfl) (fun _ _ _ h => h) (Or.inl ⟨by kernel_rfl, ?_⟩) (by assumption) ?_
  rotate_left
  · intro w hSw; obtain ⟨s0, s1⟩ := hSw; go_simp; (try with_reducible rfl)
  (try simp only [Act.put, List.getElem_toArray, List.getElem_cons_succ, List.getElem_cons_zero, List.setIfInBounds_toArray, List.set_cons_zero, List.set_cons_succ])
  refine wpAnyH_ready (rs := [6]) (by kernel_rfl) (by simp) ?_
  refine AllReadyH.cons rfl (fun K hK => ?_) AllReadyH.nil
  go_simp
  refine (HIT2.out _ (J0).B).mono ?_
  rintro e w'1 ⟨rfl, b1⟩
  have J1 := (J0).below b1
  refine hK.out _ _ (⟨Blk.cell J1.I 0, Blk.cell J1.I 1⟩) (fun hHeld' => ?_)
  clear hK K hHeld
  have hHeld := hHeld'
  clear hHeld'
  (try simp only [Act.put, List.getElem_toArray, List.getElem_cons_succ, List.getElem_cons_zero, List.setIfInBounds_toArray, List.set_cons_zero, List.set_cons_succ])
  refine wpAnyH_take (i := 7) (v := ?_) rfl (by kernel_rfl) (by kernel_rfl) (by kernel_rfl) (fun _ _ _ h => h) (Or.inl ⟨by kernel_rfl, ?_⟩) (by assumption) ?_
  rotate_left
  · intro w hSw; obtain ⟨s0, s1⟩ := hSw; go_simp; (try with_reducible rfl)
  (try simp only [Act.put, List.getElem_toArray, List.getElem_cons_succ, List.getElem_cons_zero, List.setIfInBounds_toArray, List.set_cons_zero, List.set_cons_succ])
  refine wpAnyH_take (i := 8) (v := ?_) rfl (by kernel_rfl) (by kernel_rfl) (by kernel_rfl) (fun _ _ _ h => h) (Or.inl ⟨by kernel_rfl, ?_⟩) (by assumption) ?_
  rotate_left
  · intro w hSw; obtain ⟨s0, s1⟩ := hSw; go_simp; (try with_reducible rfl)
  (try simp only [Act.put, List.getElem_toArray, List.getElem_cons_succ, List.getElem_cons_zero, List.setIfInBounds_toArray, List.set_cons_zero, List.set_cons_succ])
  refine wpAnyH_ready (rs := [11]) (by kernel_rfl) (by simp) ?_
  refine AllReadyH.cons rfl (fun K hK => ?_) AllReadyH.nil
  go_simp
  refine (HIT3.out _ (J1).B).mono ?_
  rintro e w'2 ⟨rfl, b2⟩
  have J2 := (J1).below b2
  refine hK.out _ _ (⟨Blk.cell J2.I 0, Blk.cell J2.I 1⟩) (fun hHeld' => ?_)
  clear hK K hHeld
  have hHeld := hHeld'
  clear hHeld'
  (try simp only [Act.put, List.getElem_toArray, List.getElem_cons_succ, List.getElem_cons_zero, List.setIfInBounds_toArray, List.set_cons_zero, List.set_cons_succ])
  refine wpAnyH_take (i := 12) (v := ?_) rfl (by kernel_rfl) (by kernel_rfl) (by kernel_rfl) (fun _ _ _ h => h) (Or.inl ⟨by kernel_rfl, ?_⟩) (by assumption) ?_
  rotate_left
  · intro w hSw; obtain ⟨s0, s1⟩ := hSw; go_simp; (try with_reducible rfl)
  (try simp only [Act.put, List.getElem_toArray, List.getElem_cons_succ, List.getElem_cons_zero, List.setIfInBounds_toArray, List.set_cons_zero, List.set_cons_succ])
  refine wpAnyH_take (i := 13) (v := ?_) rfl (by kernel_rfl) (by kernel_rfl) (by kernel_rfl) (fun _ _ _ h => h) (Or.inl ⟨by kernel_rfl, ?_⟩) (by assumption) ?_
  rotate_left
  · intro w hSw; obtain ⟨s0, s1⟩ := hSw; go_simp; (try with_reducible rfl)
  (try simp only [Act.put, List.getElem_toArray, List.getElem_cons_succ, List.getElem_cons_zero, List.setIfInBounds_toArray, List.set_cons_zero, List.set_cons_succ])
  refine wpAnyH_ready (rs := [14]) (by kernel_rfl) (by simp) ?_
  refine AllReadyH.cons rfl (fun K hK => ?_) AllReadyH.nil
  refine step_bytes rfl _ rfl c6 rfl hc6s ?_
  intro v5 w5 o5 b5
  have J5 := J2.below b5
  refine hK.out _ _ (⟨Blk.cell J5.I 0, Blk.cell J5.I 1⟩) (fun hHeld' => ?_)
  clear hK K hHeld
  have hHeld := hHeld'
  clear hHeld'
  (try simp only [Act.put, List.getElem_toArray, List.getElem_cons_succ, List.getElem_cons_zero, List.setIfInBounds_toArray, List.set_cons_zero, List.set_cons_succ])
  refine wpAnyH_take (i := 15) (v := ?_) rfl (by kernel_rfl) (by kernel_rfl) (by kernel_rfl) (fun _ _ _ h => h) (Or.inl ⟨by kernel_rfl, ?_⟩) (by assumption) ?_
  rotate_left
  · intro w hSw; obtain ⟨s0, s1⟩ := hSw; go_simp; (try with_reducible rfl)
  (try simp only [Act.put, List.getElem_toArray, List.getElem_cons_succ, List.getElem_cons_zero, List.setIfInBounds_toArray, List.set_cons_zero, List.set_cons_succ])
  refine wpAnyH_done (by kernel_rfl) ?_ _
  (try simp only [List.getElem_toArray, List.getElem_cons_succ, List.getElem_cons_zero, List.set_cons_zero, List.set_cons_succ])
  clear hHeld
  obtain ⟨B0, hB0⟩ : ∃ B0, w'2.heap.size = B0 := ⟨_, rfl⟩
  rw [hB0] at o5
  clear i0 i1
  have i0 : w5.cell? ⟨w.heap.size, 0, none⟩ = some (.int .i64 (W : Int)) := Blk.cell J5.I 0
  have i1 : w5.cell? ⟨w.heap.size, 1, none⟩ = some (.int .i64 (H : Int)) := Blk.cell J5.I 1
  have hown : OwnsM w5 B0 v5 (hdrL K W H) := by rw [show hdrL K W H = hdrA K W H by rw [HK14.out, hdrA_four], ← HC6.out]; exact o5
  have HR0 : Hid (RwI w w5 W H n c a B0 v5 (hdrL K W H ++ encRows K ((rowsOf l W H).take 0))) := Lib.hid ⟨by rw [List.take_zero]; simpa [encRows] using hown, J5.I, J5.B⟩
  have hB0w : w.heap.size < B0 := by rw [← hB0]; exact Blk.lt J2.I
  have hB0s : B0 ≤ w5.heap.size := by rw [← hB0]; exact b5.size
  clear o5 b5 J5 hown J0 J1 J2 b0 b1 b2 HI1 HIT1 HIT2 HIT3 hB0 A1 A2 A3 A4 A5 A6 hc6s hc6l HC6
  go_upto_region 8 with fail
  go_upto_region 9 with fail
  (try clear i0 i1 i2 z0 z1 z2 il)
  go_loopg [6, 7, 8, 9, 42] H (fun gh v6 v7 v8 v9 v42 wr => ∃ y : Nat, y + gh = H ∧ v42 = .int .i64 (y : Int) ∧ Hid (∀ i, i < y * W → mayB K (pcAt l i) = true) ∧ Hid (RwI w wr W H n c a B0 v6 (hdrL K W H ++ encRows K ((rowsOf l W H).take y))))
  case atStart => exact ⟨0, by omega, rfl, Lib.hid (fun i hi => by omega), HR0⟩
  case round =>
    clear HR0
    obtain ⟨y, hy, rfl, HA, HR⟩ := hrel
    obtain ⟨i0, i1, i2, z0, z1, z2, il⟩ := IB.all HR.out.I
    by_cases hyH : y < H
    · have hyI : (y : Int) < (H : Int) := by omega
      obtain ⟨m, rfl⟩ : ∃ m, gk = m + 1 := ⟨gk - 1, by omega⟩
      obtain ⟨yW, hyW⟩ : ∃ yW, y * W = yW := ⟨_, rfl⟩
      have HYW := Lib.hid hyW
      rw [hyW] at HA
      have HYB : Hid (yW + W ≤ W * H) := Lib.hid (by
        rw [← hyW, show y * W + W = (y + 1) * W by rw [Nat.add_mul, Nat.one_mul], Nat.mul_comm W H]
        exact Nat.mul_le_mul (by omega) (Nat.le_refl _))
      clear hyW
      have hmk := HMK.out
      go_upto_region 13 with fail
      have B2 : Below wr.heap.size wr (wr.alloc (.cells (madeCells #[.int .u8 0, .int .u8 0, .int .u8 0, .int .u8 0] (W * 4)) 48)) := (Below.refl _ _).alloc (Nat.le_refl _) _
      have hG : Blk (wr.alloc (.cells (madeCells #[.int .u8 0, .int .u8 0, .int .u8 0, .int .u8 0] (W * 4)) 48)) wr.heap.size 48 (madeCells #[.int .u8 0, .int .u8 0, .int .u8 0, .int .u8 0] (W * 4)) := Blk.new _ _ _
      have hgs : (madeCells #[.int .u8 0, .int .u8 0, .int .u8 0, .int .u8 0] (W * 4)).size = W * 4 := by simp [madeCells]
      obtain ⟨g, hgw⟩ : ∃ g, wr.heap.size = g := ⟨_, rfl⟩
      have HL0 : Hid (∃ cs, Blk (wr.alloc (.cells (madeCells #[.int .u8 0, .int .u8 0, .int .u8 0, .int .u8 0] (W * 4)) 48)) g 48 cs ∧ cs.size = W * 4 ∧ QAt (wr.alloc (.cells (madeCells #[.int .u8 0, .int .u8 0, .int .u8 0, .int .u8 0] (W * 4)) 48)) g 0 ((rowOf l W y).take 0) ∧ Below g wr (wr.alloc (.cells (madeCells #[.int .u8 0, .int .u8 0, .int .u8 0, .int .u8 0] (W * 4)) 48))) := Lib.hid ⟨_, by rw [← hgw]; exact hG, hgs, fun i q h => by simp at h, by rw [← hgw]; exact B2⟩
      rw [hgw]
      clear B2 hG hgs hmk i0 i1 i2 z0 z1 z2 il
      generalize wr.alloc (.cells (madeCells #[.int .u8 0, .int .u8 0, .int .u8 0, .int .u8 0] (W * 4)) 48) = w2 at HL0 ⊢
      have HGW := Lib.hid hgw
      obtain ⟨wo, hwo⟩ : ∃ wo, wo = wr := ⟨_, rfl⟩
      have HGI : Hid (w.heap.size < g) := Lib.hid (by rw [← hgw]; exact Blk.lt HR.out.I)
      clear hgw
      subst hwo
      go_loopg [9, 50] W (fun gx v9 v50 wx => ∃ x : Nat, x + gx = W ∧ v50 = .int .i64 (x : Int) ∧ Hid (∀ i, i < yW + x → mayB K (pcAt l i) = true) ∧ Hid (∃ cs, Blk wx g 48 cs ∧ cs.size = W * 4 ∧ QAt wx g 0 ((rowOf l W y).take x) ∧ Below g wo wx))
      case atStart => exact ⟨0, by omega, rfl, Lib.hid (fun i hi => HA.out i (by omega)), HL0⟩
      case round =>
        clear HL0 HA
        obtain ⟨x, hx, rfl, HA, HL⟩ := hrel
        obtain ⟨cs, hcB, hcs, hcq, hcw⟩ := HL.out
        have hIx : IB _ w.heap.size (W : Int) (H : Int) a n c := Blk.below HR.out.I hcw HGI.out
        obtain ⟨i0, i1, i2, z0, z1, z2, il⟩ := IB.all hIx
        have hBx := HR.out.B.trans (hcw.mono (Nat.le_of_lt HGI.out))
        by_cases hxW : x < W
        · have hxI : (x : Int) < (W : Int) := by omega
          obtain ⟨g', rfl⟩ : ∃ g', gk = g' + 1 := ⟨gk - 1, by omega⟩
          have HPX := Lib.hid (HP.out x y hxW hyH _ (HBY.out.below hBx))
          rw [HYW.out] at HPX
          obtain ⟨q, hq⟩ : ∃ q, pcAt l (yW + x) = q := ⟨_, rfl⟩
          rw [hq] at HPX
          unfold Qc.v at HPX
          have HQ := Lib.hid hq
          have HC := Lib.hid (And.intro hcB (And.intro hcs (And.intro hcq hcw)))
          clear hq hcB hcs hcq hcw hIx hBx HL
          go_upto_region 15 with fail
          obtain ⟨u0, hu0⟩ : ∃ u0, cs[x * 4]? = some u0 := ⟨_, Array.getElem?_eq_getElem (by have := HC.out.2.1; omega)⟩
          obtain ⟨u1, hu1⟩ : ∃ u1, cs[x * 4 + 1]? = some u1 := ⟨_, Array.getElem?_eq_getElem (by have := HC.out.2.1; omega)⟩
          obtain ⟨u2, hu2⟩ : ∃ u2, cs[x * 4 + 2]? = some u2 := ⟨_, Array.getElem?_eq_getElem (by have := HC.out.2.1; omega)⟩
          obtain ⟨u3, hu3⟩ : ∃ u3, cs[x * 4 + 3]? = some u3 := ⟨_, Array.getElem?_eq_getElem (by have := HC.out.2.1; omega)⟩
          have HU := Lib.hid (And.intro hu0 (And.intro hu1 (And.intro hu2 hu3)))
          clear hu0 hu1 hu2 hu3
          go_upto_region 16 with (go_at_call 26; refine HPX.out.mono ?_; rintro e w7 ⟨rfl, b7⟩; have C7 := Blk.below HC.out.1 b7 (Blk.lt HC.out.1); have d0 : w7.cell? ⟨g, x * 4, none⟩ = some u0 := (Blk.cell C7 _).trans HU.out.1; have d1 : w7.cell? ⟨g, x * 4 + 1, none⟩ = some u1 := (Blk.cell C7 _).trans HU.out.2.1; have d2 : w7.cell? ⟨g, x * 4 + 2, none⟩ = some u2 := (Blk.cell C7 _).trans HU.out.2.2.1; have d3 : w7.cell? ⟨g, x * 4 + 3, none⟩ = some u3 := (Blk.cell C7 _).trans HU.out.2.2.2; have f0 := Blk.frozen C7 (x * 4); have f1 := Blk.frozen C7 (x * 4 + 1); have f2 := Blk.frozen C7 (x * 4 + 2); have f3 := Blk.frozen C7 (x * 4 + 3); have gl := Blk.lt C7; clear i0 i1 i2 z0 z1 z2 il)
          have hlt : ((rowOf l W y).take x).length = x := by rw [List.length_take, rowOf_len]; omega
          obtain ⟨cs', hB', hs', hQ'⟩ := stq_put (q := q) C7 (by have := HC.out.2.1; omega) (HC.out.2.2.1.below b7) hlt
          have hBe : Below g wo (stq w7 g x q) := stq_below (HC.out.2.2.2.trans (b7.mono (Nat.le_of_lt (Blk.lt HC.out.1)))) (Nat.le_refl _)
          have hrow : (rowOf l W y).take x ++ [q] = (rowOf l W y).take (x + 1) := by rw [row_more hxW, HYW.out, HQ.out]
          obtain ⟨e0, e1, e2, e3⟩ := hQ' x q (by rw [List.getElem?_append_right (by omega), hlt, Nat.sub_self]; rfl)
          rw [Nat.zero_add] at e0 e1 e2 e3
          rw [hrow] at hQ'
          have HL2 : Hid (∃ cs, Blk (stq w7 g x q) g 48 cs ∧ cs.size = W * 4 ∧ QAt (stq w7 g x q) g 0 ((rowOf l W y).take (x + 1)) ∧ Below g wo (stq w7 g x q)) := Lib.hid ⟨cs', hB', by rw [hs']; exact HC.out.2.1, hQ', hBe⟩
          clear hB' hs' hQ' hBe hrow hlt d0 d1 d2 d3 f0 f1 f2 f3 gl C7 b7 HC HU HPX
          change Code.wp _ _ _ _ (stq w7 g x q)
          generalize stq w7 g x q = w8 at HL2 e0 e1 e2 e3 ⊢
          have HMY0 := rawMayC HK3.out q
          unfold Qc.v at HMY0
          obtain ⟨mb, hmb⟩ : ∃ mb, mayB K q = mb := ⟨_, rfl⟩
          rw [hmb] at HMY0
          have HMY := Lib.hid HMY0
          have HMB := Lib.hid hmb
          clear HMY0 hmb
          cases mb with
          | false =>
            go_wp2_with (go_at_call 38; refine (HMY.out _).mono ?_; rintro e w9 ⟨rfl, b9⟩)
            go_ret2
            obtain ⟨cs2, _, _, _, hbe2⟩ := HL2.out
            exact ⟨below_next (HR.out.B.trans (hbe2.mono (Nat.le_of_lt HGI.out))) b9, by rw [rawV_no (mayAll_no (i := yW + x) (by have := HYB.out; omega) (by rw [HQ.out]; exact HMB.out))]; rfl⟩
          | true =>
            go_wp2_with (go_at_call 38; refine (HMY.out _).mono ?_; rintro e w9 ⟨rfl, b9⟩)
            have HL3 : Hid (∃ cs, Blk w9 g 48 cs ∧ cs.size = W * 4 ∧ QAt w9 g 0 ((rowOf l W y).take (x + 1)) ∧ Below g wo w9) := Lib.hid (by
              obtain ⟨cs2, h1, h2, h3, h4⟩ := HL2.out
              exact ⟨cs2, Blk.below h1 b9 (Blk.lt h1), h2, h3.below b9, h4.trans (b9.mono (Nat.le_of_lt (Blk.lt h1)))⟩)
            go_roundg g'
            case measure => omega
            case rel => exact ⟨x + 1, by omega, by go_num, Lib.hid (fun i hi => by
              by_cases h : i = yW + x
              · subst h
                rw [HQ.out]
                exact HMB.out
              · exact HA.out i (by omega)), HL3⟩
        · obtain rfl : x = W := by omega
          obtain rfl : gk = 0 := by omega
          have hxI : ¬ (x : Int) < (x : Int) := by omega
          rw [List.take_of_length_le (show (rowOf l x y).length ≤ x by rw [rowOf_len]; exact Nat.le_refl _)] at hcq
          have HRW := Lib.hid (rawRowC (c := x) HK3.out (rowOf_len l x y) (by omega) hcq (Blk.lt hcB))
          have HA2 : Hid (∀ i, i < (y + 1) * x → mayB K (pcAt l i) = true) := Lib.hid (fun i hi => HA.out i (by have := HYW.out; rw [Nat.add_mul, Nat.one_mul] at hi; omega))
          have HX := Lib.hid (And.intro hIx (And.intro hBx hcw))
          have HGL := Lib.hid (Blk.lt hcB)
          have hpos : 0 < (encRow K (rowOf l x y)).length := encRow_pos HK3.out (by rw [rowOf_len]; omega)
          have HLN : Hid ((hdrL K x H ++ encRows K ((rowsOf l x H).take y)).length + (encRow K (rowOf l x y)).length < 1099511627776) := Lib.hid (enc_small HK3.out hWb hHb)
          clear hcB hcs hcq hcw hIx hBx HL i0 i1 i2 z0 z1 z2 il HA
          go_upto_region 20 with (first | (go_at_call 39; refine HRW.out.mono ?_; rintro e w8 ⟨rv, rfl, o8, b8⟩; obtain ⟨g8, cap8, cur8, rfl, hg8, hB8, hl8, hs8, hc8⟩ := Owns8.open4 o8 hpos; have hM8 := (HR.out.O.below_ (HX.out.2.2.mono (by rw [HGW.out]; exact Nat.le_refl _))).below_ b8; have hbs8 : B0 ≤ w8.heap.size := hM8.size) | (at_builtin; refine wpList_append_sliceM rfl (.tmp 71) (.tmp 74) rfl B0 _ _ rfl hM8 g8 _ cap8 _ rfl rfl hc8 HLN.out hbs8 ?_; intro v9 w9 o9 b9))
          have HR9 : Hid (RwI w w9 x H n c a B0 v9 (hdrL K x H ++ encRows K ((rowsOf l x H).take (y + 1)))) := Lib.hid ⟨by rw [rows_next hyH, ← List.append_assoc]; exact o9, Blk.below (Blk.below HX.out.1 b8 (Blk.lt HX.out.1)) b9 hB0w, (HX.out.2.1.trans (b8.mono HX.out.2.1.size)).trans (b9.mono (Nat.le_of_lt hB0w))⟩
          clear o9 b9 hM8 hbs8 hB8 hl8 hs8 hc8 hg8 o8 b8
          go_wp2_with fail
          go_roundg m
          case measure => omega
          case rel => exact ⟨y + 1, by omega, by go_num, HA2, HR9⟩
    · obtain rfl : y = H := by omega
      obtain rfl : gk = 0 := by omega
      have hyI : ¬ (y : Int) < (y : Int) := by omega
      have hO := HR.out.O
      rw [List.take_of_length_le (show (rowsOf l W y).length ≤ y by unfold rowsOf; simp)] at hO
      have HO := Lib.hid hO
      clear hO
      go_wp2_with (refine wpList_convert_M rfl (.tmp 77) 9 Tryz.underlying9 rfl _ _ _ rfl HO.out ?_)
      go_ret2
      exact ⟨HR.out.B, by rw [rawV_yes (mayAll_yes (fun i hi => HA.out i (by rw [Nat.mul_comm]; exact hi)))]; rfl⟩
set_option maxRecDepth 100000 in
set_option maxHeartbeats 8000000 in
theorem rawWrite_more {K : Nat} (hK : K = 5 ∨ K = 6) {W H n c : Nat} {a : Option Addr} {l : List UInt8} {w : World} (hT : TabW w) (hr : RightP (W : Int) (H : Int) n) (hl : n = l.length) (hnc : n ≤ c) (hb : BytesAt w a n l) (hWb : W ≤ 4000) (hHb : H ≤ 4000) : Calls Tryz.prog 14 #[.agg #[.int .i64 (W : Int), .int .i64 (H : Int), .slice a n c], .int .i64 (K : Int)] w fun e w' => Below w.heap.size w w' ∧ e = .returned (rawV K W H l) := by
  have hW := hr.1
  have hH := hr.2.1
  have hK4 : ¬ (K : Int) < 4 := by omega
  have hK6 : ¬ (6 : Int) < (K : Int) := by omega
  have hK4b : (4 : Int) < (K : Int) := by omega
  have hKt : K ≤ 6 := by omega
  have HK3 : Hid (K = 4 ∨ K = 5 ∨ K = 6) := Lib.hid (by omega)
  have HK14 : Hid (K = 5 ∨ K = 6) := Lib.hid hK
  have HP := Lib.hid (fun (X Y : Nat) (hX : X < W) (hY : Y < H) => (px_both (a := a) hr hl hnc hX hY).1)
  have HRT := Lib.hid (fun w => right_true (a := a) (c := c) hr w)
  have HBY := Lib.hid hb
  have HIT1 := Lib.hid (fun (w' : World) (b : Below w.heap.size w w') => itoaC (hT.below b) (n := K) (by omega))
  have HIT2 := Lib.hid (fun (w' : World) (b : Below w.heap.size w w') => itoaC (hT.below b) (n := W) (by omega))
  have HIT3 := Lib.hid (fun (w' : World) (b : Below w.heap.size w w') => itoaC (hT.below b) (n := H) (by omega))
  have W1 : WiI w (w.alloc (.cells #[.int .i64 (W : Int), .int .i64 (H : Int), .slice a n c] 24)) W H n c a l := WiI.new hb
  obtain ⟨q0, hi, hz0, hz1, hz2⟩ := info_parts infoQ
  have hmk : ∀ w : World, (Instr.makeSlice 70 (.int .i64 (W : Int)) (.int .i64 (W : Int))).run Tryz.prog w = .ok (.slice (some ⟨w.heap.size, 0, none⟩) W W) (w.alloc (.cells (madeCells #[.int .u8 0, .int .u8 0, .int .u8 0, .int .u8 0] (W * 4)) 48)) := fun w => by
    have := run_make w 70 48 q0 _ Tryz.underlying70 hi hz0 .i64 .i64 (W : Int) (W : Int) (by omega) (Int.le_refl _) (by rw [hz2]; omega) (by omega)
    rw [hz1, show (Value.agg #[.int .u8 0, .int .u8 0, .int .u8 0, .int .u8 0]).cells = #[.int .u8 0, .int .u8 0, .int .u8 0, .int .u8 0] from rfl] at this
    simpa using this
  have HMK := Lib.hid hmk
  have z1 := dec_size K
  have z2 := dec_size W
  have z3 := dec_size H
  have z4 : (⟨#[80]⟩ : ByteArray).size = 1 := rfl
  have z5 : (⟨#[10]⟩ : ByteArray).size = 1 := rfl
  have z6 : (⟨#[32]⟩ : ByteArray).size = 1 := rfl
  obtain ⟨c1, hc1⟩ : ∃ c1, (⟨#[80]⟩ : ByteArray) ++ dec K = c1 := ⟨_, rfl⟩
  have s1 : c1.size = 1 + (dec K).size := by rw [← hc1, ByteArray.size_append, z4]
  have A1 : ∀ w : World, (Op.stringOp .add ⟨#[80]⟩ (dec K)).run Tryz.prog w = .ok (.string c1) w := fun w => by rw [← hc1]; exact run_string_add_sum w _ _ (by omega)
  obtain ⟨c2, hc2⟩ : ∃ c2, c1 ++ ⟨#[10]⟩ = c2 := ⟨_, rfl⟩
  have s2 : c2.size = c1.size + 1 := by rw [← hc2, ByteArray.size_append, z5]
  have A2 : ∀ w : World, (Op.stringOp .add c1 ⟨#[10]⟩).run Tryz.prog w = .ok (.string c2) w := fun w => by rw [← hc2]; exact run_string_add_sum w _ _ (by omega)
  obtain ⟨c3, hc3⟩ : ∃ c3, c2 ++ dec W = c3 := ⟨_, rfl⟩
  have s3 : c3.size = c2.size + (dec W).size := by rw [← hc3, ByteArray.size_append]
  have A3 : ∀ w : World, (Op.stringOp .add c2 (dec W)).run Tryz.prog w = .ok (.string c3) w := fun w => by rw [← hc3]; exact run_string_add_sum w _ _ (by omega)
  obtain ⟨c4, hc4⟩ : ∃ c4, c3 ++ ⟨#[32]⟩ = c4 := ⟨_, rfl⟩
  have s4 : c4.size = c3.size + 1 := by rw [← hc4, ByteArray.size_append, z6]
  have A4 : ∀ w : World, (Op.stringOp .add c3 ⟨#[32]⟩).run Tryz.prog w = .ok (.string c4) w := fun w => by rw [← hc4]; exact run_string_add_sum w _ _ (by omega)
  obtain ⟨c5, hc5⟩ : ∃ c5, c4 ++ dec H = c5 := ⟨_, rfl⟩
  have s5 : c5.size = c4.size + (dec H).size := by rw [← hc5, ByteArray.size_append]
  have A5 : ∀ w : World, (Op.stringOp .add c4 (dec H)).run Tryz.prog w = .ok (.string c5) w := fun w => by rw [← hc5]; exact run_string_add_sum w _ _ (by omega)
  obtain ⟨c6, hc6⟩ : ∃ c6, c5 ++ ⟨#[10]⟩ = c6 := ⟨_, rfl⟩
  have s6 : c6.size = c5.size + 1 := by rw [← hc6, ByteArray.size_append, z5]
  have A6 : ∀ w : World, (Op.stringOp .add c5 ⟨#[10]⟩).run Tryz.prog w = .ok (.string c6) w := fun w => by rw [← hc6]; exact run_string_add_sum w _ _ (by omega)
  have hc6s : c6.size ≤ 1000000 := by omega
  have hc6l : c6.data.toList = hdrA K W H := by rw [← hc6, ← hc5, ← hc4, ← hc3, ← hc2, ← hc1]; exact hdr_text (by omega)
  have HC6 := Lib.hid hc6l
  generalize dec K = dK at A1 s1 HIT1
  generalize dec W = dW at A3 s3 HIT2
  generalize dec H = dH at A5 s5 HIT3
  have hc6l := HC6.out
  clear hr hl hnc hb hT hi hz0 hz1 hz2 hmk hc1 hc2 hc3 hc4 hc5 hc6 s1 s2 s3 s4 s5 s6 z1 z2 z3 z4 z5 z6 hc6l hK
  go_enter Tryz.func14, Tryz.ntmps14
  have HI0 := Lib.hid W1
  obtain ⟨i0, i1, i2, z0, z1, z2, il⟩ := IB.all W1.I
  go_upto_region 5 with (go_at_call 24; refine (HRT.out _).mono ?_; rintro e w1 ⟨rfl, b1⟩; have W2 := HI0.out.below b1; clear i0 i1 i2 z0 z1 z2 il; obtain ⟨i0, i1, i2, z0, z1, z2, il⟩ := IB.all W2.I)
  clear HI0 W1 b1 i2 z0 z1 z2 il
  have HI1 := Lib.hid W2
  clear W2
  refine wp_region_held_drew (S := fun wx => wx.cell? ⟨w.heap.size, 0, none⟩ = some (.int .i64 (W : Int)) ∧ wx.cell? ⟨w.heap.size, 1, none⟩ = some (.int .i64 (H : Int))) (by kernel_rfl) ⟨i0, i1⟩ (fun hHeld => ?_)
  refine wpAnyH_take (i := 0) (v := ?_) rfl (by kernel_rfl) (by kernel_rfl) (by kernel_rfl) (fun _ _ _ h => h) (Or.inl ⟨by kernel_rfl, ?_⟩) (by assumption) ?_
  rotate_left
  · intro w hSw; obtain ⟨s0, s1⟩ := hSw; go_simp; (try with_reducible rfl)
  (try simp only [Act.put, List.getElem_toArray, List.getElem_cons_succ, List.getElem_cons_zero, List.setIfInBounds_toArray, List.set_cons_zero, List.set_cons_succ])
  refine wpAnyH_take (i := 4) (v := ?_) rfl (by kernel_rfl) (by kernel_rfl) (by kernel_rfl) (fun _ _ _ h => h) (Or.inl ⟨by kernel_rfl, ?_⟩) (by assumption) ?_
  rotate_left
  · intro w hSw; obtain ⟨s0, s1⟩ := hSw; go_simp; (try with_reducible rfl)
  (try simp only [Act.put, List.getElem_toArray, List.getElem_cons_succ, List.getElem_cons_zero, List.setIfInBounds_toArray, List.set_cons_zero, List.set_cons_succ])
  refine wpAnyH_take (i := 5) (v := ?_) rfl (by kernel_rfl) (by kernel_rfl) (by kernel_rfl) (fun _ _ _ h => h) (Or.inl ⟨by kernel_rfl, ?_⟩) (by assumption) ?_
  rotate_left
  · intro w hSw; obtain ⟨s0, s1⟩ := hSw; go_simp; (try with_reducible rfl)
  (try simp only [Act.put, List.getElem_toArray, List.getElem_cons_succ, List.getElem_cons_zero, List.setIfInBounds_toArray, List.set_cons_zero, List.set_cons_succ])
  refine wpAnyH_take (i := 9) (v := ?_) rfl (by kernel_rfl) (by kernel_rfl) (by kernel_rfl) (fun _ _ _ h => h) (Or.inl ⟨by kernel_rfl, ?_⟩) (by assumption) ?_
  rotate_left
  · intro w hSw; obtain ⟨s0, s1⟩ := hSw; go_simp; (try with_reducible rfl)
  (try simp only [Act.put, List.getElem_toArray, List.getElem_cons_succ, List.getElem_cons_zero, List.setIfInBounds_toArray, List.set_cons_zero, List.set_cons_succ])
  refine wpAnyH_take (i := 10) (v := ?_) rfl (by kernel_rfl) (by kernel_rfl) (by kernel_rfl) (fun _ _ _ h => h) (Or.inl ⟨by kernel_rfl, ?_⟩) (by assumption) ?_
  rotate_left
  · intro w hSw; obtain ⟨s0, s1⟩ := hSw; go_simp; (try with_reducible rfl)
  (try simp only [Act.put, List.getElem_toArray, List.getElem_cons_succ, List.getElem_cons_zero, List.setIfInBounds_toArray, List.set_cons_zero, List.set_cons_succ])
  refine wpAnyH_ready (rs := [1]) (by kernel_rfl) (by simp) ?_
  refine AllReadyH.cons rfl (fun K hK => ?_) AllReadyH.nil
  go_simp
  refine (HIT1.out _ (HI1.out.drew).B).mono ?_
  rintro e w'0 ⟨rfl, b0⟩
  have J0 := (HI1.out.drew).below b0
  refine hK.out _ _ (⟨Blk.cell J0.I 0, Blk.cell J0.I 1⟩) (fun hHeld' => ?_)
  clear hK K hHeld
  have hHeld := hHeld'
  clear hHeld'
  (try simp only [Act.put, List.getElem_toArray, List.getElem_cons_succ, List.getElem_cons_zero, List.setIfInBounds_toArray, List.set_cons_zero, List.set_cons_succ])
  refine wpAnyH_take (i := 2) (v := ?_) rfl (by kernel_rfl) (by kernel_rfl) (by kernel_rfl) (fun _ _ _ h => h) (Or.inl ⟨by kernel_rfl, ?_⟩) (by assumption) ?_
  rotate_left
  · intro w hSw; obtain ⟨s0, s1⟩ := hSw; go_simp; (try with_reducible rfl)
  (try simp only [Act.put, List.getElem_toArray, List.getElem_cons_succ, List.getElem_cons_zero, List.setIfInBounds_toArray, List.set_cons_zero, List.set_cons_succ])
  refine wpAnyH_take (i := 3) (v := ?_) rfl (by kernel_rfl) (by kernel_rfl) (by kernel_rfl) (fun _ _ _ h => h) (Or.inl ⟨by kernel_rfl, ?_⟩) (by assumption) ?_
  rotate_left
  · intro w hSw; obtain ⟨s0, s1⟩ := hSw; go_simp; (try with_reducible rfl)
  (try simp only [Act.put, List.getElem_toArray, List.getElem_cons_succ, List.getElem_cons_zero, List.setIfInBounds_toArray, List.set_cons_zero, List.set_cons_succ])
  refine wpAnyH_ready (rs := [6]) (by kernel_rfl) (by simp) ?_
  refine AllReadyH.cons rfl (fun K hK => ?_) AllReadyH.nil
  go_simp
  refine (HIT2.out _ (J0).B).mono ?_
  rintro e w'1 ⟨rfl, b1⟩
  have J1 := (J0).below b1
  refine hK.out _ _ (⟨Blk.cell J1.I 0, Blk.cell J1.I 1⟩) (fun hHeld' => ?_)
  clear hK K hHeld
  have hHeld := hHeld'
  clear hHeld'
  (try simp only [Act.put, List.getElem_toArray, List.getElem_cons_succ, List.getElem_cons_zero, List.setIfInBounds_toArray, List.set_cons_zero, List.set_cons_succ])
  refine wpAnyH_take (i := 7) (v := ?_) rfl (by kernel_rfl) (by kernel_rfl) (by kernel_rfl) (fun _ _ _ h => h) (Or.inl ⟨by kernel_rfl, ?_⟩) (by assumption) ?_
  rotate_left
  · intro w hSw; obtain ⟨s0, s1⟩ := hSw; go_simp; (try with_reducible rfl)
  (try simp only [Act.put, List.getElem_toArray, List.getElem_cons_succ, List.getElem_cons_zero, List.setIfInBounds_toArray, List.set_cons_zero, List.set_cons_succ])
  refine wpAnyH_take (i := 8) (v := ?_) rfl (by kernel_rfl) (by kernel_rfl) (by kernel_rfl) (fun _ _ _ h => h) (Or.inl ⟨by kernel_rfl, ?_⟩) (by assumption) ?_
  rotate_left
  · intro w hSw; obtain ⟨s0, s1⟩ := hSw; go_simp; (try with_reducible rfl)
  (try simp only [Act.put, List.getElem_toArray, List.getElem_cons_succ, List.getElem_cons_zero, List.setIfInBounds_toArray, List.set_cons_zero, List.set_cons_succ])
  refine wpAnyH_ready (rs := [11]) (by kernel_rfl) (by simp) ?_
  refine AllReadyH.cons rfl (fun K hK => ?_) AllReadyH.nil
  go_simp
  refine (HIT3.out _ (J1).B).mono ?_
  rintro e w'2 ⟨rfl, b2⟩
  have J2 := (J1).below b2
  refine hK.out _ _ (⟨Blk.cell J2.I 0, Blk.cell J2.I 1⟩) (fun hHeld' => ?_)
  clear hK K hHeld
  have hHeld := hHeld'
  clear hHeld'
  (try simp only [Act.put, List.getElem_toArray, List.getElem_cons_succ, List.getElem_cons_zero, List.setIfInBounds_toArray, List.set_cons_zero, List.set_cons_succ])
  refine wpAnyH_take (i := 12) (v := ?_) rfl (by kernel_rfl) (by kernel_rfl) (by kernel_rfl) (fun _ _ _ h => h) (Or.inl ⟨by kernel_rfl, ?_⟩) (by assumption) ?_
  rotate_left
  · intro w hSw; obtain ⟨s0, s1⟩ := hSw; go_simp; (try with_reducible rfl)
  (try simp only [Act.put, List.getElem_toArray, List.getElem_cons_succ, List.getElem_cons_zero, List.setIfInBounds_toArray, List.set_cons_zero, List.set_cons_succ])
  refine wpAnyH_take (i := 13) (v := ?_) rfl (by kernel_rfl) (by kernel_rfl) (by kernel_rfl) (fun _ _ _ h => h) (Or.inl ⟨by kernel_rfl, ?_⟩) (by assumption) ?_
  rotate_left
  · intro w hSw; obtain ⟨s0, s1⟩ := hSw; go_simp; (try with_reducible rfl)
  (try simp only [Act.put, List.getElem_toArray, List.getElem_cons_succ, List.getElem_cons_zero, List.setIfInBounds_toArray, List.set_cons_zero, List.set_cons_succ])
  refine wpAnyH_ready (rs := [14]) (by kernel_rfl) (by simp) ?_
  refine AllReadyH.cons rfl (fun K hK => ?_) AllReadyH.nil
  refine step_bytes rfl _ rfl c6 rfl hc6s ?_
  intro v5 w5 o5 b5
  have J5 := J2.below b5
  refine hK.out _ _ (⟨Blk.cell J5.I 0, Blk.cell J5.I 1⟩) (fun hHeld' => ?_)
  clear hK K hHeld
  have hHeld := hHeld'
  clear hHeld'
  (try simp only [Act.put, List.getElem_toArray, List.getElem_cons_succ, List.getElem_cons_zero, List.setIfInBounds_toArray, List.set_cons_zero, List.set_cons_succ])
  refine wpAnyH_take (i := 15) (v := ?_) rfl (by kernel_rfl) (by kernel_rfl) (by kernel_rfl) (fun _ _ _ h => h) (Or.inl ⟨by kernel_rfl, ?_⟩) (by assumption) ?_
  rotate_left
  · intro w hSw; obtain ⟨s0, s1⟩ := hSw; go_simp; (try with_reducible rfl)
  (try simp only [Act.put, List.getElem_toArray, List.getElem_cons_succ, List.getElem_cons_zero, List.setIfInBounds_toArray, List.set_cons_zero, List.set_cons_succ])
  refine wpAnyH_done (by kernel_rfl) ?_ _
  (try simp only [List.getElem_toArray, List.getElem_cons_succ, List.getElem_cons_zero, List.set_cons_zero, List.set_cons_succ])
  clear hHeld
  obtain ⟨B0, hB0⟩ : ∃ B0, w'2.heap.size = B0 := ⟨_, rfl⟩
  rw [hB0] at o5
  clear i0 i1
  have i0 : w5.cell? ⟨w.heap.size, 0, none⟩ = some (.int .i64 (W : Int)) := Blk.cell J5.I 0
  have i1 : w5.cell? ⟨w.heap.size, 1, none⟩ = some (.int .i64 (H : Int)) := Blk.cell J5.I 1
  have hl5 : (c6.data.toList).length + 4 < 1099511627776 := by
    have : c6.data.toList.length = c6.size := by rw [Array.length_toList]; rfl
    omega
  have hbs5 : B0 ≤ w5.heap.size := by rw [← hB0]; exact b5.size
  go_upto_region 8 with (at_builtin; refine wpList_append_strM rfl (.tmp 38) (.const (.string ⟨#[50, 53, 53, 10]⟩)) rfl B0 _ _ rfl o5 ⟨#[50, 53, 53, 10]⟩ rfl hl5 hbs5 ?_; intro v6 w6 o6 b6)
  have hown : OwnsM w6 B0 v6 (hdrL K W H) := by rw [← hdrA_more W H (by have := HK14.out; omega), ← HC6.out]; exact o6
  have hB0w : w.heap.size < B0 := by rw [← hB0]; exact Blk.lt J2.I
  have hB0s : B0 ≤ w5.heap.size := by rw [← hB0]; exact b5.size
  have HR0 : Hid (RwI w w6 W H n c a B0 v6 (hdrL K W H ++ encRows K ((rowsOf l W H).take 0))) := Lib.hid ⟨by rw [List.take_zero]; simpa [encRows] using hown, Blk.below J5.I b6 hB0w, J5.B.trans (b6.mono (Nat.le_of_lt hB0w))⟩
  clear o5 b5 J5 hown J0 J1 J2 b0 b1 b2 HI1 HIT1 HIT2 HIT3 hB0 A1 A2 A3 A4 A5 A6 hc6s hc6l HC6 o6 b6 hl5 hbs5 i0 i1
  obtain ⟨i0, i1, i2, z0, z1, z2, il⟩ := IB.all HR0.out.I
  go_upto_region 9 with fail
  (try clear i0 i1 i2 z0 z1 z2 il)
  go_loopg [6, 7, 8, 9, 42] H (fun gh v6 v7 v8 v9 v42 wr => ∃ y : Nat, y + gh = H ∧ v42 = .int .i64 (y : Int) ∧ Hid (∀ i, i < y * W → mayB K (pcAt l i) = true) ∧ Hid (RwI w wr W H n c a B0 v6 (hdrL K W H ++ encRows K ((rowsOf l W H).take y))))
  case atStart => exact ⟨0, by omega, rfl, Lib.hid (fun i hi => by omega), HR0⟩
  case round =>
    clear HR0
    obtain ⟨y, hy, rfl, HA, HR⟩ := hrel
    obtain ⟨i0, i1, i2, z0, z1, z2, il⟩ := IB.all HR.out.I
    by_cases hyH : y < H
    · have hyI : (y : Int) < (H : Int) := by omega
      obtain ⟨m, rfl⟩ : ∃ m, gk = m + 1 := ⟨gk - 1, by omega⟩
      obtain ⟨yW, hyW⟩ : ∃ yW, y * W = yW := ⟨_, rfl⟩
      have HYW := Lib.hid hyW
      rw [hyW] at HA
      have HYB : Hid (yW + W ≤ W * H) := Lib.hid (by
        rw [← hyW, show y * W + W = (y + 1) * W by rw [Nat.add_mul, Nat.one_mul], Nat.mul_comm W H]
        exact Nat.mul_le_mul (by omega) (Nat.le_refl _))
      clear hyW
      have hmk := HMK.out
      go_upto_region 13 with fail
      have B2 : Below wr.heap.size wr (wr.alloc (.cells (madeCells #[.int .u8 0, .int .u8 0, .int .u8 0, .int .u8 0] (W * 4)) 48)) := (Below.refl _ _).alloc (Nat.le_refl _) _
      have hG : Blk (wr.alloc (.cells (madeCells #[.int .u8 0, .int .u8 0, .int .u8 0, .int .u8 0] (W * 4)) 48)) wr.heap.size 48 (madeCells #[.int .u8 0, .int .u8 0, .int .u8 0, .int .u8 0] (W * 4)) := Blk.new _ _ _
      have hgs : (madeCells #[.int .u8 0, .int .u8 0, .int .u8 0, .int .u8 0] (W * 4)).size = W * 4 := by simp [madeCells]
      obtain ⟨g, hgw⟩ : ∃ g, wr.heap.size = g := ⟨_, rfl⟩
      have HL0 : Hid (∃ cs, Blk (wr.alloc (.cells (madeCells #[.int .u8 0, .int .u8 0, .int .u8 0, .int .u8 0] (W * 4)) 48)) g 48 cs ∧ cs.size = W * 4 ∧ QAt (wr.alloc (.cells (madeCells #[.int .u8 0, .int .u8 0, .int .u8 0, .int .u8 0] (W * 4)) 48)) g 0 ((rowOf l W y).take 0) ∧ Below g wr (wr.alloc (.cells (madeCells #[.int .u8 0, .int .u8 0, .int .u8 0, .int .u8 0] (W * 4)) 48))) := Lib.hid ⟨_, by rw [← hgw]; exact hG, hgs, fun i q h => by simp at h, by rw [← hgw]; exact B2⟩
      rw [hgw]
      clear B2 hG hgs hmk i0 i1 i2 z0 z1 z2 il
      generalize wr.alloc (.cells (madeCells #[.int .u8 0, .int .u8 0, .int .u8 0, .int .u8 0] (W * 4)) 48) = w2 at HL0 ⊢
      have HGW := Lib.hid hgw
      obtain ⟨wo, hwo⟩ : ∃ wo, wo = wr := ⟨_, rfl⟩
      have HGI : Hid (w.heap.size < g) := Lib.hid (by rw [← hgw]; exact Blk.lt HR.out.I)
      clear hgw
      subst hwo
      go_loopg [9, 50] W (fun gx v9 v50 wx => ∃ x : Nat, x + gx = W ∧ v50 = .int .i64 (x : Int) ∧ Hid (∀ i, i < yW + x → mayB K (pcAt l i) = true) ∧ Hid (∃ cs, Blk wx g 48 cs ∧ cs.size = W * 4 ∧ QAt wx g 0 ((rowOf l W y).take x) ∧ Below g wo wx))
      case atStart => exact ⟨0, by omega, rfl, Lib.hid (fun i hi => HA.out i (by omega)), HL0⟩
      case round =>
        clear HL0 HA
        obtain ⟨x, hx, rfl, HA, HL⟩ := hrel
        obtain ⟨cs, hcB, hcs, hcq, hcw⟩ := HL.out
        have hIx : IB _ w.heap.size (W : Int) (H : Int) a n c := Blk.below HR.out.I hcw HGI.out
        obtain ⟨i0, i1, i2, z0, z1, z2, il⟩ := IB.all hIx
        have hBx := HR.out.B.trans (hcw.mono (Nat.le_of_lt HGI.out))
        by_cases hxW : x < W
        · have hxI : (x : Int) < (W : Int) := by omega
          obtain ⟨g', rfl⟩ : ∃ g', gk = g' + 1 := ⟨gk - 1, by omega⟩
          have HPX := Lib.hid (HP.out x y hxW hyH _ (HBY.out.below hBx))
          rw [HYW.out] at HPX
          obtain ⟨q, hq⟩ : ∃ q, pcAt l (yW + x) = q := ⟨_, rfl⟩
          rw [hq] at HPX
          unfold Qc.v at HPX
          have HQ := Lib.hid hq
          have HC := Lib.hid (And.intro hcB (And.intro hcs (And.intro hcq hcw)))
          clear hq hcB hcs hcq hcw hIx hBx HL
          go_upto_region 15 with fail
          obtain ⟨u0, hu0⟩ : ∃ u0, cs[x * 4]? = some u0 := ⟨_, Array.getElem?_eq_getElem (by have := HC.out.2.1; omega)⟩
          obtain ⟨u1, hu1⟩ : ∃ u1, cs[x * 4 + 1]? = some u1 := ⟨_, Array.getElem?_eq_getElem (by have := HC.out.2.1; omega)⟩
          obtain ⟨u2, hu2⟩ : ∃ u2, cs[x * 4 + 2]? = some u2 := ⟨_, Array.getElem?_eq_getElem (by have := HC.out.2.1; omega)⟩
          obtain ⟨u3, hu3⟩ : ∃ u3, cs[x * 4 + 3]? = some u3 := ⟨_, Array.getElem?_eq_getElem (by have := HC.out.2.1; omega)⟩
          have HU := Lib.hid (And.intro hu0 (And.intro hu1 (And.intro hu2 hu3)))
          clear hu0 hu1 hu2 hu3
          go_upto_region 16 with (go_at_call 26; refine HPX.out.mono ?_; rintro e w7 ⟨rfl, b7⟩; have C7 := Blk.below HC.out.1 b7 (Blk.lt HC.out.1); have d0 : w7.cell? ⟨g, x * 4, none⟩ = some u0 := (Blk.cell C7 _).trans HU.out.1; have d1 : w7.cell? ⟨g, x * 4 + 1, none⟩ = some u1 := (Blk.cell C7 _).trans HU.out.2.1; have d2 : w7.cell? ⟨g, x * 4 + 2, none⟩ = some u2 := (Blk.cell C7 _).trans HU.out.2.2.1; have d3 : w7.cell? ⟨g, x * 4 + 3, none⟩ = some u3 := (Blk.cell C7 _).trans HU.out.2.2.2; have f0 := Blk.frozen C7 (x * 4); have f1 := Blk.frozen C7 (x * 4 + 1); have f2 := Blk.frozen C7 (x * 4 + 2); have f3 := Blk.frozen C7 (x * 4 + 3); have gl := Blk.lt C7; clear i0 i1 i2 z0 z1 z2 il)
          have hlt : ((rowOf l W y).take x).length = x := by rw [List.length_take, rowOf_len]; omega
          obtain ⟨cs', hB', hs', hQ'⟩ := stq_put (q := q) C7 (by have := HC.out.2.1; omega) (HC.out.2.2.1.below b7) hlt
          have hBe : Below g wo (stq w7 g x q) := stq_below (HC.out.2.2.2.trans (b7.mono (Nat.le_of_lt (Blk.lt HC.out.1)))) (Nat.le_refl _)
          have hrow : (rowOf l W y).take x ++ [q] = (rowOf l W y).take (x + 1) := by rw [row_more hxW, HYW.out, HQ.out]
          obtain ⟨e0, e1, e2, e3⟩ := hQ' x q (by rw [List.getElem?_append_right (by omega), hlt, Nat.sub_self]; rfl)
          rw [Nat.zero_add] at e0 e1 e2 e3
          rw [hrow] at hQ'
          have HL2 : Hid (∃ cs, Blk (stq w7 g x q) g 48 cs ∧ cs.size = W * 4 ∧ QAt (stq w7 g x q) g 0 ((rowOf l W y).take (x + 1)) ∧ Below g wo (stq w7 g x q)) := Lib.hid ⟨cs', hB', by rw [hs']; exact HC.out.2.1, hQ', hBe⟩
          clear hB' hs' hQ' hBe hrow hlt d0 d1 d2 d3 f0 f1 f2 f3 gl C7 b7 HC HU HPX
          change Code.wp _ _ _ _ (stq w7 g x q)
          generalize stq w7 g x q = w8 at HL2 e0 e1 e2 e3 ⊢
          have HMY0 := rawMayC HK3.out q
          unfold Qc.v at HMY0
          obtain ⟨mb, hmb⟩ : ∃ mb, mayB K q = mb := ⟨_, rfl⟩
          rw [hmb] at HMY0
          have HMY := Lib.hid HMY0
          have HMB := Lib.hid hmb
          clear HMY0 hmb
          cases mb with
          | false =>
            go_wp2_with (go_at_call 38; refine (HMY.out _).mono ?_; rintro e w9 ⟨rfl, b9⟩)
            go_ret2
            obtain ⟨cs2, _, _, _, hbe2⟩ := HL2.out
            exact ⟨below_next (HR.out.B.trans (hbe2.mono (Nat.le_of_lt HGI.out))) b9, by rw [rawV_no (mayAll_no (i := yW + x) (by have := HYB.out; omega) (by rw [HQ.out]; exact HMB.out))]; rfl⟩
          | true =>
            go_wp2_with (go_at_call 38; refine (HMY.out _).mono ?_; rintro e w9 ⟨rfl, b9⟩)
            have HL3 : Hid (∃ cs, Blk w9 g 48 cs ∧ cs.size = W * 4 ∧ QAt w9 g 0 ((rowOf l W y).take (x + 1)) ∧ Below g wo w9) := Lib.hid (by
              obtain ⟨cs2, h1, h2, h3, h4⟩ := HL2.out
              exact ⟨cs2, Blk.below h1 b9 (Blk.lt h1), h2, h3.below b9, h4.trans (b9.mono (Nat.le_of_lt (Blk.lt h1)))⟩)
            go_roundg g'
            case measure => omega
            case rel => exact ⟨x + 1, by omega, by go_num, Lib.hid (fun i hi => by
              by_cases h : i = yW + x
              · subst h
                rw [HQ.out]
                exact HMB.out
              · exact HA.out i (by omega)), HL3⟩
        · obtain rfl : x = W := by omega
          obtain rfl : gk = 0 := by omega
          have hxI : ¬ (x : Int) < (x : Int) := by omega
          rw [List.take_of_length_le (show (rowOf l x y).length ≤ x by rw [rowOf_len]; exact Nat.le_refl _)] at hcq
          have HRW := Lib.hid (rawRowC (c := x) HK3.out (rowOf_len l x y) (by omega) hcq (Blk.lt hcB))
          have HA2 : Hid (∀ i, i < (y + 1) * x → mayB K (pcAt l i) = true) := Lib.hid (fun i hi => HA.out i (by have := HYW.out; rw [Nat.add_mul, Nat.one_mul] at hi; omega))
          have HX := Lib.hid (And.intro hIx (And.intro hBx hcw))
          have HGL := Lib.hid (Blk.lt hcB)
          have hpos : 0 < (encRow K (rowOf l x y)).length := encRow_pos HK3.out (by rw [rowOf_len]; omega)
          have HLN : Hid ((hdrL K x H ++ encRows K ((rowsOf l x H).take y)).length + (encRow K (rowOf l x y)).length < 1099511627776) := Lib.hid (enc_small HK3.out hWb hHb)
          clear hcB hcs hcq hcw hIx hBx HL i0 i1 i2 z0 z1 z2 il HA
          go_upto_region 20 with (first | (go_at_call 39; refine HRW.out.mono ?_; rintro e w8 ⟨rv, rfl, o8, b8⟩; obtain ⟨g8, cap8, cur8, rfl, hg8, hB8, hl8, hs8, hc8⟩ := Owns8.open4 o8 hpos; have hM8 := (HR.out.O.below_ (HX.out.2.2.mono (by rw [HGW.out]; exact Nat.le_refl _))).below_ b8; have hbs8 : B0 ≤ w8.heap.size := hM8.size) | (at_builtin; refine wpList_append_sliceM rfl (.tmp 71) (.tmp 74) rfl B0 _ _ rfl hM8 g8 _ cap8 _ rfl rfl hc8 HLN.out hbs8 ?_; intro v9 w9 o9 b9))
          have HR9 : Hid (RwI w w9 x H n c a B0 v9 (hdrL K x H ++ encRows K ((rowsOf l x H).take (y + 1)))) := Lib.hid ⟨by rw [rows_next hyH, ← List.append_assoc]; exact o9, Blk.below (Blk.below HX.out.1 b8 (Blk.lt HX.out.1)) b9 hB0w, (HX.out.2.1.trans (b8.mono HX.out.2.1.size)).trans (b9.mono (Nat.le_of_lt hB0w))⟩
          clear o9 b9 hM8 hbs8 hB8 hl8 hs8 hc8 hg8 o8 b8
          go_wp2_with fail
          go_roundg m
          case measure => omega
          case rel => exact ⟨y + 1, by omega, by go_num, HA2, HR9⟩
    · obtain rfl : y = H := by omega
      obtain rfl : gk = 0 := by omega
      have hyI : ¬ (y : Int) < (y : Int) := by omega
      have hO := HR.out.O
      rw [List.take_of_length_le (show (rowsOf l W y).length ≤ y by unfold rowsOf; simp)] at hO
      have HO := Lib.hid hO
      clear hO
      go_wp2_with (refine wpList_convert_M rfl (.tmp 77) 9 Tryz.underlying9 rfl _ _ _ rfl HO.out ?_)
      go_ret2
      exact ⟨HR.out.B, by rw [rawV_yes (mayAll_yes (fun i hi => HA.out i (by rw [Nat.mul_comm]; exact hi)))]; rfl⟩
/-- pnmraw.Write -/
theorem rawWriteC {K : Nat} (hK : K = 4 ∨ K = 5 ∨ K = 6) {W H n c : Nat} {a : Option Addr} {l : List UInt8} {w : World} (hT : TabW w) (hr : RightP (W : Int) (H : Int) n) (hl : n = l.length) (hnc : n ≤ c) (hb : BytesAt w a n l) (hWb : W ≤ 4000) (hHb : H ≤ 4000) : Calls Tryz.prog 14 #[.agg #[.int .i64 (W : Int), .int .i64 (H : Int), .slice a n c], .int .i64 (K : Int)] w fun e w' => Below w.heap.size w w' ∧ e = .returned (rawV K W H l) := by
  by_cases h : K = 4
  · exact rawWrite_four h hT hr hl hnc hb hWb hHb
  · exact rawWrite_more (by omega) hT hr hl hnc hb hWb hHb
end Go.Proofs.YthljhebbblhakaaGreatDoor
