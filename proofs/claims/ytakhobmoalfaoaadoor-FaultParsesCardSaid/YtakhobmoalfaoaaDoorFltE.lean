/- fault: the program's Parse. -/
import Derived.Test.YtakhobmoalfaoaaDoorFltD
import Derived.Lib.IndexMore
import Derived.Lib.IndexBytes
namespace Go.Proofs.YtakhobmoalfaoaaDoor
open Go.RowKit
set_option linter.unusedVariables false
set_option linter.unusedSimpArgs false

def cutB (s : ByteArray) : ByteArray × ByteArray := (⟨(Lib.cut s.data.toList [32]).1.toArray⟩, ⟨(Lib.cut s.data.toList [32]).2.1.toArray⟩)
theorem bytes_ext {a b : ByteArray} (h : a.data.toList = b.data.toList) : a = b := by
  apply ByteArray.ext
  exact Array.toList_inj.1 h
theorem cut_left (s : ByteArray) (i : Nat) : (⟨(s.data.toList.take i).toArray⟩ : ByteArray) = s.extract 0 i := by
  apply bytes_ext
  rw [ByteArray.data_extract, Array.toList_extract, List.extract_eq_take_drop]
  simp
theorem cut_right (s : ByteArray) (i : Nat) : (⟨(s.data.toList.drop i).toArray⟩ : ByteArray) = s.extract i s.size := by
  apply bytes_ext
  rw [ByteArray.data_extract, Array.toList_extract, List.extract_eq_take_drop, show s.size = s.data.toList.length by rw [Array.length_toList]; rfl]
  show s.data.toList.drop i = _
  rw [List.take_of_length_le (by rw [List.length_drop]; exact Nat.le_refl _)]
theorem cutSl {s : ByteArray} {w : World} (hs : s.size ≤ 1000) : Calls Tryd.prog 23 #[.string s, .string ⟨#[32]⟩] w fun e w' => (∃ b, e = .returned (.tuple #[.string (cutB s).1, .string (cutB s).2, .bool b])) ∧ Below w.heap.size w w' := by
  have HX0 := Tryd.stringslite_Index_one s 32
  rw [← Lib.index_one] at HX0
  rcases Lib.index_spec s.data.toList [32] with ⟨hi, _⟩ | ⟨i, hi, hl, ho, _⟩
  · have hc : cutB s = (s, ⟨#[]⟩) := by
      unfold cutB Lib.cut
      rw [hi, if_neg (by omega)]
    rw [hi] at HX0
    have HX := Lib.hid HX0
    rw [hc]
    clear HX0 hi hc
    go_enter Tryd.func23, Tryd.ntmps23
    go_wp2_with (go_at_call 27; refine (HX.out _).mono ?_; rintro e w' ⟨rfl, rfl⟩)
    go_ret3
    exact ⟨⟨_, rfl⟩, Below.refl _ _⟩
  · have hroom := Lib.index_room s.data.toList [32] (by rw [hi]; omega)
    have hsz : s.data.toList.length = s.size := by rw [Array.length_toList]; rfl
    rw [hi, hsz] at hroom
    simp only [List.length_cons, List.length_nil] at hroom
    obtain ⟨i2, hi2⟩ : ∃ q, i + 1 = q := ⟨_, rfl⟩
    have hc : cutB s = (s.extract 0 i, s.extract i2 s.size) := by
      unfold cutB Lib.cut
      rw [hi, if_pos (by omega)]
      simp only [Int.toNat_natCast, List.length_cons, List.length_nil, Nat.zero_add]
      rw [cut_left, hi2, cut_right]
    rw [hi] at HX0
    have HX := Lib.hid HX0
    rw [hc]
    have h1 : (i : Int) ≤ (s.size : Int) := by omega
    have h2 : (i2 : Int) ≤ (s.size : Int) := by omega
    have h3 : (i : Int) + 1 = (i2 : Int) := by omega
    have h4 : (0 : Int) ≤ (i : Int) := by omega
    have h5 : i ≤ s.size := by omega
    have h6 : i2 ≤ s.size := by omega
    have h7 : IntKind.i64.wrap (i2 : Int) = (i2 : Int) := IntWalk.i64_in _ (by omega)
    clear HX0 hi hc hroom ho hl hsz hi2
    go_enter Tryd.func23, Tryd.ntmps23
    go_wp2_with (go_at_call 27; refine (HX.out _).mono ?_; rintro e w' ⟨rfl, rfl⟩)
    go_region
    go_wp2_with fail
    go_ret3
    exact ⟨⟨_, rfl⟩, (Below.refl _ _).drew⟩
theorem cutC {s : ByteArray} {w : World} (h : LibW w) (hs : s.size ≤ 1000) : Calls Tryd.prog 18 #[.string s, .string ⟨#[32]⟩] w fun e w' => (∃ b, e = .returned (.tuple #[.string (cutB s).1, .string (cutB s).2, .bool b])) ∧ Below w.heap.size w w' := by
  have H := Lib.hid (cutSl (w := w) hs)
  generalize cutB s = c at H ⊢
  clear h hs
  go_enter Tryd.func18, Tryd.ntmps18
  go_wp2_with (go_at_call 23; refine H.out.mono ?_; rintro e w1 ⟨⟨b, rfl⟩, b1⟩)
  go_ret3
  exact ⟨⟨_, rfl⟩, b1⟩
theorem atoiC_ok {s : ByteArray} {v : Int} {w : World} (h : LibW w) (hs : s.size ≤ 1000) (e : Lib.atoiAll s.data.toList = .ok v) : Calls Tryd.prog 20 #[.string s] w fun e w' => e = .returned (.tuple #[.int .i64 v, .nilIface]) ∧ Below w.heap.size w w' := by
  refine (Tryd.strconv_Atoi_ok s (by omega) v e w).mono ?_
  rintro e w' ⟨rfl, hw⟩
  refine ⟨rfl, ?_⟩
  rcases hw with rfl | ⟨t, rfl⟩
  · exact Below.refl _ _
  · exact Lib.bytesWorld_below _ _ _
theorem atoiC_no {s : ByteArray} {w : World} (h : LibW w) (hs : s.size ≤ 1000) (e : ∀ v, Lib.atoiAll s.data.toList ≠ .ok v) : Calls Tryd.prog 20 #[.string s] w fun e w' => (∃ (v : Int) (N : Nat), e = .returned (.tuple #[.int .i64 v, .iface 54 (.pointer (some ⟨N, 0, none⟩))])) ∧ Below w.heap.size w w' := by
  cases hc : Lib.atoiAll s.data.toList with
  | ok v => exact absurd hc (e v)
  | «syntax» =>
    obtain ⟨tp, p, hv⟩ := h.syn
    refine (Tryd.strconv_Atoi_syntax_var s (by omega) hc tp p w hv).mono ?_
    rintro e w' ⟨N, rfl, _, _, b⟩
    exact ⟨⟨_, N, rfl⟩, b⟩
  | range =>
    obtain ⟨tp, p, hv⟩ := h.rng
    refine (Tryd.strconv_Atoi_range_var s (by omega) hc tp p w hv).mono ?_
    rintro e w' ⟨N, rfl, _, _, b⟩
    exact ⟨⟨_, N, rfl⟩, b⟩
theorem atoiC_any {s : ByteArray} {w : World} (h : LibW w) (hs : s.size ≤ 1000) : Calls Tryd.prog 20 #[.string s] w fun e w' => (∃ (v : Int) (ev : Value), e = .returned (.tuple #[.int .i64 v, ev])) ∧ Below w.heap.size w w' := by
  by_cases hc : ∃ v, Lib.atoiAll s.data.toList = .ok v
  · obtain ⟨v, hv⟩ := hc
    exact (atoiC_ok h hs hv).mono fun e w' ⟨a, b⟩ => ⟨⟨_, _, a⟩, b⟩
  · exact (atoiC_no h hs (fun v hv => hc ⟨v, hv⟩)).mono fun e w' ⟨⟨v, N, a⟩, b⟩ => ⟨⟨_, _, a⟩, b⟩
set_option maxHeartbeats 2000000 in
theorem parse_noK {s k1 r1 k2 r2 : ByteArray} {vF : Int} {bF : Bool} {w : World} (hL : LibW w)
    (h1 : ∀ w, LibW w → Calls Tryd.prog 18 #[.string s, .string ⟨#[32]⟩] w fun e w' => (∃ b, e = .returned (.tuple #[.string k1, .string r1, .bool b])) ∧ Below w.heap.size w w')
    (h2 : ∀ w, LibW w → Calls Tryd.prog 18 #[.string r1, .string ⟨#[32]⟩] w fun e w' => (∃ b, e = .returned (.tuple #[.string k2, .string r2, .bool b])) ∧ Below w.heap.size w w')
    (hK : ∀ w, Calls Tryd.prog 19 #[.string k1, .func (.func 8) #[] #[]] w fun e w' => e = .returned (.tuple #[.int .i64 0, .bool false]) ∧ w = w')
    (hF : ∀ w, Calls Tryd.prog 19 #[.string k2, .func (.func 10) #[] #[]] w fun e w' => e = .returned (.tuple #[.int .i64 vF, .bool bF]) ∧ w = w')
    (hA : ∀ w, LibW w → Calls Tryd.prog 20 #[.string r2] w fun e w' => (∃ (v : Int) (ev : Value), e = .returned (.tuple #[.int .i64 v, ev])) ∧ Below w.heap.size w w') :
    Calls Tryd.prog 13 #[.string s] w fun e w' => e = .returned (.tuple #[.agg #[.int .i64 0, .int .i64 0, .int .i64 0], .int .i64 6]) ∧ Below w.heap.size w w' := by
  have B0 : Below w.heap.size w (w.alloc (.cells #[.int .i64 0, .int .i64 0, .int .i64 0] 23)) := (Below.refl _ _).alloc (Nat.le_refl _) _
  have X0 : Blk (w.alloc (.cells #[.int .i64 0, .int .i64 0, .int .i64 0] 23)) w.heap.size 23 #[.int .i64 0, .int .i64 0, .int .i64 0] := Blk.new _ _ _
  have HW := Lib.hid (And.intro (hL.below B0) (And.intro X0 B0))
  have H1 := Lib.hid h1
  have H2 := Lib.hid h2
  have HK := Lib.hid hK
  have HF := Lib.hid hF
  have HA := Lib.hid hA
  clear h1 h2 hK hF hA hL X0 B0
  go_enter Tryd.func13, Tryd.ntmps13
  go_wp2_with (first
    | (go_at_call 20; refine (HA.out _ L2).mono ?_; rintro e w3 ⟨⟨v, ev, rfl⟩, b3⟩; have X3 := Blk.below X2 b3 (Blk.lt X2); have B3 := below_next B2 b3; have L3 := L2.below b3; have c0 : w3.cell? ⟨w.heap.size, 0, none⟩ = some (.int .i64 0) := Blk.cell X3 0; have c1 : w3.cell? ⟨w.heap.size, 1, none⟩ = some (.int .i64 0) := Blk.cell X3 1; have c2 : w3.cell? ⟨w.heap.size, 2, none⟩ = some (.int .i64 0) := Blk.cell X3 2; have f0 := Blk.frozen X3 0; have f1 := Blk.frozen X3 1; have f2 := Blk.frozen X3 2; have xl := Blk.lt X3)
    | (go_at_call_of 19 (Value.string k2); refine (HF.out _).mono ?_; rintro e w' ⟨rfl, rfl⟩)
    | (go_at_call_of 19 (Value.string k1); refine (HK.out _).mono ?_; rintro e w' ⟨rfl, rfl⟩)
    | (go_at_call_of 18 (Value.string r1); refine (H2.out _ L1).mono ?_; rintro e w2 ⟨⟨bb, rfl⟩, b2⟩; have L2 := L1.below b2; have X2 := Blk.below X1 b2 (Blk.lt X1); have B2 := below_next B1 b2)
    | (go_at_call_of 18 (Value.string s); refine (H1.out _ HW.out.1).mono ?_; rintro e w1 ⟨⟨ba, rfl⟩, b1⟩; have L1 := HW.out.1.below b1; have X1 := Blk.below HW.out.2.1 b1 (Blk.lt HW.out.2.1); have B1 := below_next HW.out.2.2 b1))
  exact bodyPost_ret (v := .tuple #[.agg #[.int .i64 0, .int .i64 0, .int .i64 0], .int .i64 6]) (by simp [results, Tryd.results13, go_sem, c0, c1, c2, xl]) rfl ⟨rfl, (below_set (below_set (below_set B3 (Nat.le_refl _)) (Nat.le_refl _)) (Nat.le_refl _)).alloc (by have := B3.size; simpa using this) _⟩
set_option maxHeartbeats 2000000 in
theorem parse_noF {s k1 r1 k2 r2 : ByteArray} {vK : Int} {w : World} (hL : LibW w)
    (h1 : ∀ w, LibW w → Calls Tryd.prog 18 #[.string s, .string ⟨#[32]⟩] w fun e w' => (∃ b, e = .returned (.tuple #[.string k1, .string r1, .bool b])) ∧ Below w.heap.size w w')
    (h2 : ∀ w, LibW w → Calls Tryd.prog 18 #[.string r1, .string ⟨#[32]⟩] w fun e w' => (∃ b, e = .returned (.tuple #[.string k2, .string r2, .bool b])) ∧ Below w.heap.size w w')
    (hK : ∀ w, Calls Tryd.prog 19 #[.string k1, .func (.func 8) #[] #[]] w fun e w' => e = .returned (.tuple #[.int .i64 vK, .bool true]) ∧ w = w')
    (hF : ∀ w, Calls Tryd.prog 19 #[.string k2, .func (.func 10) #[] #[]] w fun e w' => e = .returned (.tuple #[.int .i64 0, .bool false]) ∧ w = w')
    (hA : ∀ w, LibW w → Calls Tryd.prog 20 #[.string r2] w fun e w' => (∃ (v : Int) (ev : Value), e = .returned (.tuple #[.int .i64 v, ev])) ∧ Below w.heap.size w w') :
    Calls Tryd.prog 13 #[.string s] w fun e w' => e = .returned (.tuple #[.agg #[.int .i64 0, .int .i64 0, .int .i64 0], .int .i64 6]) ∧ Below w.heap.size w w' := by
  have B0 : Below w.heap.size w (w.alloc (.cells #[.int .i64 0, .int .i64 0, .int .i64 0] 23)) := (Below.refl _ _).alloc (Nat.le_refl _) _
  have X0 : Blk (w.alloc (.cells #[.int .i64 0, .int .i64 0, .int .i64 0] 23)) w.heap.size 23 #[.int .i64 0, .int .i64 0, .int .i64 0] := Blk.new _ _ _
  have HW := Lib.hid (And.intro (hL.below B0) (And.intro X0 B0))
  have H1 := Lib.hid h1
  have H2 := Lib.hid h2
  have HK := Lib.hid hK
  have HF := Lib.hid hF
  have HA := Lib.hid hA
  clear h1 h2 hK hF hA hL X0 B0
  go_enter Tryd.func13, Tryd.ntmps13
  go_wp2_with (first
    | (go_at_call 20; refine (HA.out _ L2).mono ?_; rintro e w3 ⟨⟨v, ev, rfl⟩, b3⟩; have X3 := Blk.below X2 b3 (Blk.lt X2); have B3 := below_next B2 b3; have L3 := L2.below b3; have c0 : w3.cell? ⟨w.heap.size, 0, none⟩ = some (.int .i64 0) := Blk.cell X3 0; have c1 : w3.cell? ⟨w.heap.size, 1, none⟩ = some (.int .i64 0) := Blk.cell X3 1; have c2 : w3.cell? ⟨w.heap.size, 2, none⟩ = some (.int .i64 0) := Blk.cell X3 2; have f0 := Blk.frozen X3 0; have f1 := Blk.frozen X3 1; have f2 := Blk.frozen X3 2; have xl := Blk.lt X3)
    | (go_at_call_of 19 (Value.string k2); refine (HF.out _).mono ?_; rintro e w' ⟨rfl, rfl⟩)
    | (go_at_call_of 19 (Value.string k1); refine (HK.out _).mono ?_; rintro e w' ⟨rfl, rfl⟩)
    | (go_at_call_of 18 (Value.string r1); refine (H2.out _ L1).mono ?_; rintro e w2 ⟨⟨bb, rfl⟩, b2⟩; have L2 := L1.below b2; have X2 := Blk.below X1 b2 (Blk.lt X1); have B2 := below_next B1 b2)
    | (go_at_call_of 18 (Value.string s); refine (H1.out _ HW.out.1).mono ?_; rintro e w1 ⟨⟨ba, rfl⟩, b1⟩; have L1 := HW.out.1.below b1; have X1 := Blk.below HW.out.2.1 b1 (Blk.lt HW.out.2.1); have B1 := below_next HW.out.2.2 b1))
  exact bodyPost_ret (v := .tuple #[.agg #[.int .i64 0, .int .i64 0, .int .i64 0], .int .i64 6]) (by simp [results, Tryd.results13, go_sem, c0, c1, c2, xl]) rfl ⟨rfl, (below_set (below_set (below_set B3 (Nat.le_refl _)) (Nat.le_refl _)) (Nat.le_refl _)).alloc (by have := B3.size; simpa using this) _⟩
set_option maxHeartbeats 2000000 in
theorem parse_noA {s k1 r1 k2 r2 : ByteArray} {vK vF : Int} {w : World} (hL : LibW w)
    (h1 : ∀ w, LibW w → Calls Tryd.prog 18 #[.string s, .string ⟨#[32]⟩] w fun e w' => (∃ b, e = .returned (.tuple #[.string k1, .string r1, .bool b])) ∧ Below w.heap.size w w')
    (h2 : ∀ w, LibW w → Calls Tryd.prog 18 #[.string r1, .string ⟨#[32]⟩] w fun e w' => (∃ b, e = .returned (.tuple #[.string k2, .string r2, .bool b])) ∧ Below w.heap.size w w')
    (hK : ∀ w, Calls Tryd.prog 19 #[.string k1, .func (.func 8) #[] #[]] w fun e w' => e = .returned (.tuple #[.int .i64 vK, .bool true]) ∧ w = w')
    (hF : ∀ w, Calls Tryd.prog 19 #[.string k2, .func (.func 10) #[] #[]] w fun e w' => e = .returned (.tuple #[.int .i64 vF, .bool true]) ∧ w = w')
    (hA : ∀ w, LibW w → Calls Tryd.prog 20 #[.string r2] w fun e w' => (∃ (v : Int) (N : Nat), e = .returned (.tuple #[.int .i64 v, .iface 54 (.pointer (some ⟨N, 0, none⟩))])) ∧ Below w.heap.size w w') :
    Calls Tryd.prog 13 #[.string s] w fun e w' => e = .returned (.tuple #[.agg #[.int .i64 0, .int .i64 0, .int .i64 0], .int .i64 6]) ∧ Below w.heap.size w w' := by
  have B0 : Below w.heap.size w (w.alloc (.cells #[.int .i64 0, .int .i64 0, .int .i64 0] 23)) := (Below.refl _ _).alloc (Nat.le_refl _) _
  have X0 : Blk (w.alloc (.cells #[.int .i64 0, .int .i64 0, .int .i64 0] 23)) w.heap.size 23 #[.int .i64 0, .int .i64 0, .int .i64 0] := Blk.new _ _ _
  have HW := Lib.hid (And.intro (hL.below B0) (And.intro X0 B0))
  have H1 := Lib.hid h1
  have H2 := Lib.hid h2
  have HK := Lib.hid hK
  have HF := Lib.hid hF
  have HA := Lib.hid hA
  clear h1 h2 hK hF hA hL X0 B0
  go_enter Tryd.func13, Tryd.ntmps13
  go_wp2_with (first
    | (go_at_call 20; refine (HA.out _ L2).mono ?_; rintro e w3 ⟨⟨v, N, rfl⟩, b3⟩; have X3 := Blk.below X2 b3 (Blk.lt X2); have B3 := below_next B2 b3; have L3 := L2.below b3; have c0 : w3.cell? ⟨w.heap.size, 0, none⟩ = some (.int .i64 0) := Blk.cell X3 0; have c1 : w3.cell? ⟨w.heap.size, 1, none⟩ = some (.int .i64 0) := Blk.cell X3 1; have c2 : w3.cell? ⟨w.heap.size, 2, none⟩ = some (.int .i64 0) := Blk.cell X3 2; have f0 := Blk.frozen X3 0; have f1 := Blk.frozen X3 1; have f2 := Blk.frozen X3 2; have xl := Blk.lt X3)
    | (go_at_call_of 19 (Value.string k2); refine (HF.out _).mono ?_; rintro e w' ⟨rfl, rfl⟩)
    | (go_at_call_of 19 (Value.string k1); refine (HK.out _).mono ?_; rintro e w' ⟨rfl, rfl⟩)
    | (go_at_call_of 18 (Value.string r1); refine (H2.out _ L1).mono ?_; rintro e w2 ⟨⟨bb, rfl⟩, b2⟩; have L2 := L1.below b2; have X2 := Blk.below X1 b2 (Blk.lt X1); have B2 := below_next B1 b2)
    | (go_at_call_of 18 (Value.string s); refine (H1.out _ HW.out.1).mono ?_; rintro e w1 ⟨⟨ba, rfl⟩, b1⟩; have L1 := HW.out.1.below b1; have X1 := Blk.below HW.out.2.1 b1 (Blk.lt HW.out.2.1); have B1 := below_next HW.out.2.2 b1))
  exact bodyPost_ret (v := .tuple #[.agg #[.int .i64 0, .int .i64 0, .int .i64 0], .int .i64 6]) (by simp [results, Tryd.results13, go_sem, c0, c1, c2, xl]) rfl ⟨rfl, (below_set (below_set (below_set B3 (Nat.le_refl _)) (Nat.le_refl _)) (Nat.le_refl _)).alloc (by have := B3.size; simpa using this) _⟩
set_option maxHeartbeats 2000000 in
theorem parse_noR {s k1 r1 k2 r2 : ByteArray} {vK vF v : Int} {w : World} (hL : LibW w)
    (h1 : ∀ w, LibW w → Calls Tryd.prog 18 #[.string s, .string ⟨#[32]⟩] w fun e w' => (∃ b, e = .returned (.tuple #[.string k1, .string r1, .bool b])) ∧ Below w.heap.size w w')
    (h2 : ∀ w, LibW w → Calls Tryd.prog 18 #[.string r1, .string ⟨#[32]⟩] w fun e w' => (∃ b, e = .returned (.tuple #[.string k2, .string r2, .bool b])) ∧ Below w.heap.size w w')
    (hK : ∀ w, Calls Tryd.prog 19 #[.string k1, .func (.func 8) #[] #[]] w fun e w' => e = .returned (.tuple #[.int .i64 vK, .bool true]) ∧ w = w')
    (hF : ∀ w, Calls Tryd.prog 19 #[.string k2, .func (.func 10) #[] #[]] w fun e w' => e = .returned (.tuple #[.int .i64 vF, .bool true]) ∧ w = w')
    (hA : ∀ w, LibW w → Calls Tryd.prog 20 #[.string r2] w fun e w' => (e = .returned (.tuple #[.int .i64 v, .nilIface])) ∧ Below w.heap.size w w')
    (hR : ¬ FRight vK vF v) :
    Calls Tryd.prog 13 #[.string s] w fun e w' => e = .returned (.tuple #[.agg #[.int .i64 0, .int .i64 0, .int .i64 0], .int .i64 6]) ∧ Below w.heap.size w w' := by
  have B0 : Below w.heap.size w (w.alloc (.cells #[.int .i64 0, .int .i64 0, .int .i64 0] 23)) := (Below.refl _ _).alloc (Nat.le_refl _) _
  have X0 : Blk (w.alloc (.cells #[.int .i64 0, .int .i64 0, .int .i64 0] 23)) w.heap.size 23 #[.int .i64 0, .int .i64 0, .int .i64 0] := Blk.new _ _ _
  have HW := Lib.hid (And.intro (hL.below B0) (And.intro X0 B0))
  have H1 := Lib.hid h1
  have H2 := Lib.hid h2
  have HK := Lib.hid hK
  have HF := Lib.hid hF
  have HA := Lib.hid hA
  have HR0 := rightC vK vF v
  rw [decide_eq_false hR] at HR0
  have HR := Lib.hid HR0
  clear HR0 hR
  clear h1 h2 hK hF hA hL X0 B0
  go_enter Tryd.func13, Tryd.ntmps13
  go_wp2_with (first
    | (go_at_call 6; refine (HR.out _).mono ?_; rintro e w4 ⟨rfl, b4⟩; have X4 : Blk w4 w.heap.size 23 #[.int .i64 0, .int .i64 0, .int .i64 0] := Blk.below (Blk.alloc X3 _) b4 (Blk.lt (Blk.alloc X3 _)); have P4 : Blk w4 w3.heap.size 23 #[.int .i64 vK, .int .i64 vF, .int .i64 v] := Blk.below (Blk.new _ _ _) b4 (by simp); have B4 := below_next (B3.alloc B3.size (.cells #[.int .i64 vK, .int .i64 vF, .int .i64 v] 23)) b4; have L4 : LibW w4 := (L3.below ((Below.refl _ _).alloc (Nat.le_refl _) (.cells #[.int .i64 vK, .int .i64 vF, .int .i64 v] 23))).below b4; clear c0 c1 c2 f0 f1 f2 xl; have c0 : w4.cell? ⟨w.heap.size, 0, none⟩ = some (.int .i64 0) := Blk.cell X4 0; have c1 : w4.cell? ⟨w.heap.size, 1, none⟩ = some (.int .i64 0) := Blk.cell X4 1; have c2 : w4.cell? ⟨w.heap.size, 2, none⟩ = some (.int .i64 0) := Blk.cell X4 2; have f0 := Blk.frozen X4 0; have f1 := Blk.frozen X4 1; have f2 := Blk.frozen X4 2; have xl := Blk.lt X4)
    | (go_at_call 20; refine (HA.out _ L2).mono ?_; rintro e w3 ⟨rfl, b3⟩; have X3 := Blk.below X2 b3 (Blk.lt X2); have B3 := below_next B2 b3; have L3 := L2.below b3; have c0 : w3.cell? ⟨w.heap.size, 0, none⟩ = some (.int .i64 0) := Blk.cell X3 0; have c1 : w3.cell? ⟨w.heap.size, 1, none⟩ = some (.int .i64 0) := Blk.cell X3 1; have c2 : w3.cell? ⟨w.heap.size, 2, none⟩ = some (.int .i64 0) := Blk.cell X3 2; have f0 := Blk.frozen X3 0; have f1 := Blk.frozen X3 1; have f2 := Blk.frozen X3 2; have xl := Blk.lt X3)
    | (go_at_call_of 19 (Value.string k2); refine (HF.out _).mono ?_; rintro e w' ⟨rfl, rfl⟩)
    | (go_at_call_of 19 (Value.string k1); refine (HK.out _).mono ?_; rintro e w' ⟨rfl, rfl⟩)
    | (go_at_call_of 18 (Value.string r1); refine (H2.out _ L1).mono ?_; rintro e w2 ⟨⟨bb, rfl⟩, b2⟩; have L2 := L1.below b2; have X2 := Blk.below X1 b2 (Blk.lt X1); have B2 := below_next B1 b2)
    | (go_at_call_of 18 (Value.string s); refine (H1.out _ HW.out.1).mono ?_; rintro e w1 ⟨⟨ba, rfl⟩, b1⟩; have L1 := HW.out.1.below b1; have X1 := Blk.below HW.out.2.1 b1 (Blk.lt HW.out.2.1); have B1 := below_next HW.out.2.2 b1))
  exact bodyPost_ret (v := .tuple #[.agg #[.int .i64 0, .int .i64 0, .int .i64 0], .int .i64 6]) (by simp [results, Tryd.results13, go_sem, c0, c1, c2, xl]) rfl ⟨rfl, below_set (below_set (below_set B4 (Nat.le_refl _)) (Nat.le_refl _)) (Nat.le_refl _)⟩
set_option maxHeartbeats 2000000 in
theorem parse_noI {s k1 r1 k2 r2 : ByteArray} {vK vF v : Int} {w : World} (hL : LibW w)
    (h1 : ∀ w, LibW w → Calls Tryd.prog 18 #[.string s, .string ⟨#[32]⟩] w fun e w' => (∃ b, e = .returned (.tuple #[.string k1, .string r1, .bool b])) ∧ Below w.heap.size w w')
    (h2 : ∀ w, LibW w → Calls Tryd.prog 18 #[.string r1, .string ⟨#[32]⟩] w fun e w' => (∃ b, e = .returned (.tuple #[.string k2, .string r2, .bool b])) ∧ Below w.heap.size w w')
    (hK : ∀ w, Calls Tryd.prog 19 #[.string k1, .func (.func 8) #[] #[]] w fun e w' => e = .returned (.tuple #[.int .i64 vK, .bool true]) ∧ w = w')
    (hF : ∀ w, Calls Tryd.prog 19 #[.string k2, .func (.func 10) #[] #[]] w fun e w' => e = .returned (.tuple #[.int .i64 vF, .bool true]) ∧ w = w')
    (hA : ∀ w, LibW w → Calls Tryd.prog 20 #[.string r2] w fun e w' => (e = .returned (.tuple #[.int .i64 v, .nilIface])) ∧ Below w.heap.size w w')
    (hR : FRight vK vF v) (hI : dec v.toNat ≠ r2) :
    Calls Tryd.prog 13 #[.string s] w fun e w' => e = .returned (.tuple #[.agg #[.int .i64 0, .int .i64 0, .int .i64 0], .int .i64 6]) ∧ Below w.heap.size w w' := by
  have B0 : Below w.heap.size w (w.alloc (.cells #[.int .i64 0, .int .i64 0, .int .i64 0] 23)) := (Below.refl _ _).alloc (Nat.le_refl _) _
  have X0 : Blk (w.alloc (.cells #[.int .i64 0, .int .i64 0, .int .i64 0] 23)) w.heap.size 23 #[.int .i64 0, .int .i64 0, .int .i64 0] := Blk.new _ _ _
  have HW := Lib.hid (And.intro (hL.below B0) (And.intro X0 B0))
  have H1 := Lib.hid h1
  have H2 := Lib.hid h2
  have HK := Lib.hid hK
  have HF := Lib.hid hF
  have HA := Lib.hid hA
  obtain ⟨m, rfl⟩ : ∃ m : Nat, v = (m : Int) := ⟨v.toNat, by unfold FRight at hR; omega⟩
  have hm : m ≤ 4611686018427387904 := by unfold FRight at hR; omega
  have HR0 := rightC vK vF (m : Int)
  rw [decide_eq_true hR] at HR0
  have HR := Lib.hid HR0
  clear HR0 hR
  have HI := Lib.hid (fun w (h : LibW w) => itoaC h hm)
  have hte := textEq9 (dec m) r2
  rw [decide_eq_false (show ¬ dec m = r2 from hI)] at hte
  clear hI hm
  generalize dec m = dm at HI hte
  clear h1 h2 hK hF hA hL X0 B0
  go_enter Tryd.func13, Tryd.ntmps13
  go_wp2_with (first
    | (go_at_call 16; refine (HI.out _ L4).mono ?_; rintro e w5 ⟨rfl, b5⟩; have X5 := Blk.below X4 b5 (Blk.lt X4); have P5 := Blk.below P4 b5 (Blk.lt P4); have B5 := below_next B4 b5; have p0 : w5.cell? ⟨w3.heap.size, 0, none⟩ = some (.int .i64 vK) := Blk.cell P5 0; have p1 : w5.cell? ⟨w3.heap.size, 1, none⟩ = some (.int .i64 vF) := Blk.cell P5 1; have p2 : w5.cell? ⟨w3.heap.size, 2, none⟩ = some (.int .i64 (m : Int)) := Blk.cell P5 2; clear c0 c1 c2 f0 f1 f2 xl; have c0 : w5.cell? ⟨w.heap.size, 0, none⟩ = some (.int .i64 0) := Blk.cell X5 0; have c1 : w5.cell? ⟨w.heap.size, 1, none⟩ = some (.int .i64 0) := Blk.cell X5 1; have c2 : w5.cell? ⟨w.heap.size, 2, none⟩ = some (.int .i64 0) := Blk.cell X5 2; have f0 := Blk.frozen X5 0; have f1 := Blk.frozen X5 1; have f2 := Blk.frozen X5 2; have xl := Blk.lt X5)
    | (go_at_call 6; refine (HR.out _).mono ?_; rintro e w4 ⟨rfl, b4⟩; have X4 : Blk w4 w.heap.size 23 #[.int .i64 0, .int .i64 0, .int .i64 0] := Blk.below (Blk.alloc X3 _) b4 (Blk.lt (Blk.alloc X3 _)); have P4 : Blk w4 w3.heap.size 23 #[.int .i64 vK, .int .i64 vF, .int .i64 (m : Int)] := Blk.below (Blk.new _ _ _) b4 (by simp); have B4 := below_next (B3.alloc B3.size (.cells #[.int .i64 vK, .int .i64 vF, .int .i64 (m : Int)] 23)) b4; have L4 : LibW w4 := (L3.below ((Below.refl _ _).alloc (Nat.le_refl _) (.cells #[.int .i64 vK, .int .i64 vF, .int .i64 (m : Int)] 23))).below b4; clear c0 c1 c2 f0 f1 f2 xl; have c0 : w4.cell? ⟨w.heap.size, 0, none⟩ = some (.int .i64 0) := Blk.cell X4 0; have c1 : w4.cell? ⟨w.heap.size, 1, none⟩ = some (.int .i64 0) := Blk.cell X4 1; have c2 : w4.cell? ⟨w.heap.size, 2, none⟩ = some (.int .i64 0) := Blk.cell X4 2; have f0 := Blk.frozen X4 0; have f1 := Blk.frozen X4 1; have f2 := Blk.frozen X4 2; have xl := Blk.lt X4)
    | (go_at_call 20; refine (HA.out _ L2).mono ?_; rintro e w3 ⟨rfl, b3⟩; have X3 := Blk.below X2 b3 (Blk.lt X2); have B3 := below_next B2 b3; have L3 := L2.below b3; have c0 : w3.cell? ⟨w.heap.size, 0, none⟩ = some (.int .i64 0) := Blk.cell X3 0; have c1 : w3.cell? ⟨w.heap.size, 1, none⟩ = some (.int .i64 0) := Blk.cell X3 1; have c2 : w3.cell? ⟨w.heap.size, 2, none⟩ = some (.int .i64 0) := Blk.cell X3 2; have f0 := Blk.frozen X3 0; have f1 := Blk.frozen X3 1; have f2 := Blk.frozen X3 2; have xl := Blk.lt X3)
    | (go_at_call_of 19 (Value.string k2); refine (HF.out _).mono ?_; rintro e w' ⟨rfl, rfl⟩)
    | (go_at_call_of 19 (Value.string k1); refine (HK.out _).mono ?_; rintro e w' ⟨rfl, rfl⟩)
    | (go_at_call_of 18 (Value.string r1); refine (H2.out _ L1).mono ?_; rintro e w2 ⟨⟨bb, rfl⟩, b2⟩; have L2 := L1.below b2; have X2 := Blk.below X1 b2 (Blk.lt X1); have B2 := below_next B1 b2)
    | (go_at_call_of 18 (Value.string s); refine (H1.out _ HW.out.1).mono ?_; rintro e w1 ⟨⟨ba, rfl⟩, b1⟩; have L1 := HW.out.1.below b1; have X1 := Blk.below HW.out.2.1 b1 (Blk.lt HW.out.2.1); have B1 := below_next HW.out.2.2 b1))
  exact bodyPost_ret (v := .tuple #[.agg #[.int .i64 0, .int .i64 0, .int .i64 0], .int .i64 6]) (by simp [results, Tryd.results13, go_sem, c0, c1, c2, xl]) rfl ⟨rfl, below_set (below_set (below_set B5 (Nat.le_refl _)) (Nat.le_refl _)) (Nat.le_refl _)⟩
set_option maxHeartbeats 2000000 in
theorem parse_yes {s k1 r1 k2 r2 : ByteArray} {vK vF v : Int} {w : World} (hL : LibW w)
    (h1 : ∀ w, LibW w → Calls Tryd.prog 18 #[.string s, .string ⟨#[32]⟩] w fun e w' => (∃ b, e = .returned (.tuple #[.string k1, .string r1, .bool b])) ∧ Below w.heap.size w w')
    (h2 : ∀ w, LibW w → Calls Tryd.prog 18 #[.string r1, .string ⟨#[32]⟩] w fun e w' => (∃ b, e = .returned (.tuple #[.string k2, .string r2, .bool b])) ∧ Below w.heap.size w w')
    (hK : ∀ w, Calls Tryd.prog 19 #[.string k1, .func (.func 8) #[] #[]] w fun e w' => e = .returned (.tuple #[.int .i64 vK, .bool true]) ∧ w = w')
    (hF : ∀ w, Calls Tryd.prog 19 #[.string k2, .func (.func 10) #[] #[]] w fun e w' => e = .returned (.tuple #[.int .i64 vF, .bool true]) ∧ w = w')
    (hA : ∀ w, LibW w → Calls Tryd.prog 20 #[.string r2] w fun e w' => (e = .returned (.tuple #[.int .i64 v, .nilIface])) ∧ Below w.heap.size w w')
    (hR : FRight vK vF v) (hI : dec v.toNat = r2) :
    Calls Tryd.prog 13 #[.string s] w fun e w' => e = .returned (.tuple #[.agg #[.int .i64 vK, .int .i64 vF, .int .i64 v], .int .i64 0]) ∧ Below w.heap.size w w' := by
  have B0 : Below w.heap.size w (w.alloc (.cells #[.int .i64 0, .int .i64 0, .int .i64 0] 23)) := (Below.refl _ _).alloc (Nat.le_refl _) _
  have X0 : Blk (w.alloc (.cells #[.int .i64 0, .int .i64 0, .int .i64 0] 23)) w.heap.size 23 #[.int .i64 0, .int .i64 0, .int .i64 0] := Blk.new _ _ _
  have HW := Lib.hid (And.intro (hL.below B0) (And.intro X0 B0))
  have H1 := Lib.hid h1
  have H2 := Lib.hid h2
  have HK := Lib.hid hK
  have HF := Lib.hid hF
  have HA := Lib.hid hA
  obtain ⟨m, rfl⟩ : ∃ m : Nat, v = (m : Int) := ⟨v.toNat, by unfold FRight at hR; omega⟩
  have hm : m ≤ 4611686018427387904 := by unfold FRight at hR; omega
  have HR0 := rightC vK vF (m : Int)
  rw [decide_eq_true hR] at HR0
  have HR := Lib.hid HR0
  clear HR0 hR
  have HI := Lib.hid (fun w (h : LibW w) => itoaC h hm)
  have hte := textEq9 (dec m) r2
  rw [decide_eq_true (show dec m = r2 from hI)] at hte
  clear hI hm
  generalize dec m = dm at HI hte
  clear h1 h2 hK hF hA hL X0 B0
  go_enter Tryd.func13, Tryd.ntmps13
  go_wp2_with (first
    | (go_at_call 16; refine (HI.out _ L4).mono ?_; rintro e w5 ⟨rfl, b5⟩; have X5 := Blk.below X4 b5 (Blk.lt X4); have P5 := Blk.below P4 b5 (Blk.lt P4); have B5 := below_next B4 b5; have p0 : w5.cell? ⟨w3.heap.size, 0, none⟩ = some (.int .i64 vK) := Blk.cell P5 0; have p1 : w5.cell? ⟨w3.heap.size, 1, none⟩ = some (.int .i64 vF) := Blk.cell P5 1; have p2 : w5.cell? ⟨w3.heap.size, 2, none⟩ = some (.int .i64 (m : Int)) := Blk.cell P5 2; clear c0 c1 c2 f0 f1 f2 xl; have c0 : w5.cell? ⟨w.heap.size, 0, none⟩ = some (.int .i64 0) := Blk.cell X5 0; have c1 : w5.cell? ⟨w.heap.size, 1, none⟩ = some (.int .i64 0) := Blk.cell X5 1; have c2 : w5.cell? ⟨w.heap.size, 2, none⟩ = some (.int .i64 0) := Blk.cell X5 2; have f0 := Blk.frozen X5 0; have f1 := Blk.frozen X5 1; have f2 := Blk.frozen X5 2; have xl := Blk.lt X5)
    | (go_at_call 6; refine (HR.out _).mono ?_; rintro e w4 ⟨rfl, b4⟩; have X4 : Blk w4 w.heap.size 23 #[.int .i64 0, .int .i64 0, .int .i64 0] := Blk.below (Blk.alloc X3 _) b4 (Blk.lt (Blk.alloc X3 _)); have P4 : Blk w4 w3.heap.size 23 #[.int .i64 vK, .int .i64 vF, .int .i64 (m : Int)] := Blk.below (Blk.new _ _ _) b4 (by simp); have B4 := below_next (B3.alloc B3.size (.cells #[.int .i64 vK, .int .i64 vF, .int .i64 (m : Int)] 23)) b4; have L4 : LibW w4 := (L3.below ((Below.refl _ _).alloc (Nat.le_refl _) (.cells #[.int .i64 vK, .int .i64 vF, .int .i64 (m : Int)] 23))).below b4; clear c0 c1 c2 f0 f1 f2 xl; have c0 : w4.cell? ⟨w.heap.size, 0, none⟩ = some (.int .i64 0) := Blk.cell X4 0; have c1 : w4.cell? ⟨w.heap.size, 1, none⟩ = some (.int .i64 0) := Blk.cell X4 1; have c2 : w4.cell? ⟨w.heap.size, 2, none⟩ = some (.int .i64 0) := Blk.cell X4 2; have f0 := Blk.frozen X4 0; have f1 := Blk.frozen X4 1; have f2 := Blk.frozen X4 2; have xl := Blk.lt X4)
    | (go_at_call 20; refine (HA.out _ L2).mono ?_; rintro e w3 ⟨rfl, b3⟩; have X3 := Blk.below X2 b3 (Blk.lt X2); have B3 := below_next B2 b3; have L3 := L2.below b3; have c0 : w3.cell? ⟨w.heap.size, 0, none⟩ = some (.int .i64 0) := Blk.cell X3 0; have c1 : w3.cell? ⟨w.heap.size, 1, none⟩ = some (.int .i64 0) := Blk.cell X3 1; have c2 : w3.cell? ⟨w.heap.size, 2, none⟩ = some (.int .i64 0) := Blk.cell X3 2; have f0 := Blk.frozen X3 0; have f1 := Blk.frozen X3 1; have f2 := Blk.frozen X3 2; have xl := Blk.lt X3)
    | (go_at_call_of 19 (Value.string k2); refine (HF.out _).mono ?_; rintro e w' ⟨rfl, rfl⟩)
    | (go_at_call_of 19 (Value.string k1); refine (HK.out _).mono ?_; rintro e w' ⟨rfl, rfl⟩)
    | (go_at_call_of 18 (Value.string r1); refine (H2.out _ L1).mono ?_; rintro e w2 ⟨⟨bb, rfl⟩, b2⟩; have L2 := L1.below b2; have X2 := Blk.below X1 b2 (Blk.lt X1); have B2 := below_next B1 b2)
    | (go_at_call_of 18 (Value.string s); refine (H1.out _ HW.out.1).mono ?_; rintro e w1 ⟨⟨ba, rfl⟩, b1⟩; have L1 := HW.out.1.below b1; have X1 := Blk.below HW.out.2.1 b1 (Blk.lt HW.out.2.1); have B1 := below_next HW.out.2.2 b1))
  exact bodyPost_ret (v := .tuple #[.agg #[.int .i64 vK, .int .i64 vF, .int .i64 (m : Int)], .int .i64 0]) (by simp [results, Tryd.results13, go_sem, c0, c1, c2, xl]) rfl ⟨rfl, below_set (below_set (below_set B5 (Nat.le_refl _)) (Nat.le_refl _)) (Nat.le_refl _)⟩
end Go.Proofs.YtakhobmoalfaoaaDoor
