/- The name and the map of TGA's, the document's. -/
import Derived.Test.YtlehkgkomjojmaaGreatSq
import Derived.Test.YtlehkgkomjojmaaGreatGTgaQ
namespace Go.Proofs.YtlehkgkomjojmaaGreat
open Go.RowKit
set_option linter.unusedVariables false
set_option linter.unusedSimpArgs false

def tMapV (a : Int) (v : Value) (k i : Int) : Value := .agg #[.int .i64 a, v, .int .i64 k, .int .i64 i]
def RMapPost (w w' : World) (s : ByteArray) (h : TgaHd) (e : Ending) : Prop :=
 Below w.heap.size w w' ∧ ((∃ k i : Nat, tgaMapR s h = .inl (k, i) ∧ k ≠ 0 ∧ e = .returned (tMapV 0 (.slice none 0 0) (k : Int) (i : Int))) ∨ (∃ (a : Nat) (M : List Qc) (v : Value), tgaMapR s h = .inr (a, M) ∧ a ≤ s.size ∧ M.length ≤ 65535 ∧ e = .returned (tMapV (a : Int) v 0 0) ∧ RowM w' v M))
theorem QAt.farQ {w : World} {g k i : Nat} {u : Value} {L : List Qc} (h : QAt w g 0 L) (hk : g ≠ k) : QAt (w.setCell ⟨k, i, none⟩ u) g 0 L := fun j q hj => by
 obtain ⟨h0, h1, h2, h3⟩ := h j q hj
 have f : ∀ (p : Nat) (x : Value), w.cell? ⟨g, p, none⟩ = some x → (w.setCell ⟨k, i, none⟩ u).cell? ⟨g, p, none⟩ = some x := fun p x e => (World.cell?_setCell_far w ⟨k, i, none⟩ ⟨g, p, none⟩ u (Ne.symm hk)).trans e
 exact ⟨f _ _ h0, f _ _ h1, f _ _ h2, f _ _ h3⟩
theorem RowM.set {w : World} {v u : Value} {M : List Qc} {k i : Nat} (h : RowM w v M) (hk : ∀ g n c, v = .slice (some ⟨g, 0, none⟩) n c → g ≠ k) : RowM (w.setCell ⟨k, i, none⟩ u) v M := by
 rcases h with h | ⟨g, cap, rfl, h2, h3⟩
 ·exact .inl h
 ·exact .inr ⟨g, cap, rfl, by simpa using h2, h3.farQ (hk g _ _ rfl)⟩
def MB0 (w : World) (q : Nat) : Prop := Blk w q 136 #[.int .i64 0, .slice none 0 0, .int .i64 0, .int .i64 0]
theorem MB0.all {w : World} {q : Nat} (h : MB0 w q) : w.cell? ⟨q, 0, none⟩ = some (.int .i64 0) ∧ w.cell? ⟨q, 1, none⟩ = some (.slice none 0 0) ∧ w.cell? ⟨q, 2, none⟩ = some (.int .i64 0) ∧ w.cell? ⟨q, 3, none⟩ = some (.int .i64 0) ∧ w.frozen? ⟨q, 0, none⟩ = false ∧ w.frozen? ⟨q, 1, none⟩ = false ∧ w.frozen? ⟨q, 2, none⟩ = false ∧ w.frozen? ⟨q, 3, none⟩ = false ∧ q < w.heap.size :=
 ⟨Blk.cell h 0, Blk.cell h 1, Blk.cell h 2, Blk.cell h 3, Blk.frozen h 0, Blk.frozen h 1, Blk.frozen h 2, Blk.frozen h 3, Blk.lt h⟩
set_option maxRecDepth 100000 in
set_option maxHeartbeats 4000000 in
theorem refTgaMap_short {w : World} {s : ByteArray} {h : TgaHd} (hsh : s.size < 18 + h.name) (hn1 : h.name ≤ 255) (hs : s.size ≤ 100000) :
  Calls Tryz.prog 73 #[.string s, tRV h] w fun e w' => RMapPost w w' s h e := by
 have hsI : (s.size : Int) ≤ 100000 := by omega
 have hnI : (h.name : Int) ≤ 255 := by omega
 obtain ⟨a, ha⟩ : ∃ a, 18 + h.name = a := ⟨_, rfl⟩
 have haI : 18 + (h.name : Int) = (a : Int) := by omega
 have haB : (a : Int) ≤ 273 := by omega
 have hI : (s.size : Int) < (a : Int) := by omega
 have HSH := Lib.hid hsh
 clear hsh
 have HA := Lib.hid ha
 unfold tRV tRdV
 obtain ⟨mi, hmi⟩ : ∃ mi, (if h.map = true then (1 : Int) else 0) = mi := ⟨_, rfl⟩
 rw [hmi]
 have H1 : Blk ((w.alloc (.cells #[.int .i64 (h.name : Int), .int .i64 mi, .int .i64 (h.typ : Int), .int .i64 (h.first : Int), .int .i64 (h.count : Int), .int .i64 (h.entry : Int), .int .i64 (h.W : Int), .int .i64 (h.H : Int), .int .i64 (h.depth : Int), .int .i64 (h.alpha : Int), .bool h.left, .bool h.top, .int .i64 0, .int .i64 0] 133)).alloc (.cells #[.int .i64 0, .slice none 0 0, .int .i64 0, .int .i64 0] 136)) w.heap.size 133 #[.int .i64 (h.name : Int), .int .i64 mi, .int .i64 (h.typ : Int), .int .i64 (h.first : Int), .int .i64 (h.count : Int), .int .i64 (h.entry : Int), .int .i64 (h.W : Int), .int .i64 (h.H : Int), .int .i64 (h.depth : Int), .int .i64 (h.alpha : Int), .bool h.left, .bool h.top, .int .i64 0, .int .i64 0] := Blk.alloc (Blk.new _ _ _) _
 have C1 : MB0 ((w.alloc (.cells #[.int .i64 (h.name : Int), .int .i64 mi, .int .i64 (h.typ : Int), .int .i64 (h.first : Int), .int .i64 (h.count : Int), .int .i64 (h.entry : Int), .int .i64 (h.W : Int), .int .i64 (h.H : Int), .int .i64 (h.depth : Int), .int .i64 (h.alpha : Int), .bool h.left, .bool h.top, .int .i64 0, .int .i64 0] 133)).alloc (.cells #[.int .i64 0, .slice none 0 0, .int .i64 0, .int .i64 0] 136)) (w.heap.size + 1) := Blk.new_at _ _ _ (by simp)
 have B1 : Below w.heap.size w ((w.alloc (.cells #[.int .i64 (h.name : Int), .int .i64 mi, .int .i64 (h.typ : Int), .int .i64 (h.first : Int), .int .i64 (h.count : Int), .int .i64 (h.entry : Int), .int .i64 (h.W : Int), .int .i64 (h.H : Int), .int .i64 (h.depth : Int), .int .i64 (h.alpha : Int), .bool h.left, .bool h.top, .int .i64 0, .int .i64 0] 133)).alloc (.cells #[.int .i64 0, .slice none 0 0, .int .i64 0, .int .i64 0] 136)) := ((Below.refl _ _).alloc (Nat.le_refl _) _).alloc (by simp) _
 have hcl : w.heap.size ≤ w.heap.size + 1 := by omega
 have hne1 : w.heap.size ≠ w.heap.size + 1 := by omega
 clear ha hmi
 go_enter Tryz.func73, Tryz.ntmps73
 go_upto_region 1 with fail
 generalize ((w.alloc (.cells #[.int .i64 (h.name : Int), .int .i64 mi, .int .i64 (h.typ : Int), .int .i64 (h.first : Int), .int .i64 (h.count : Int), .int .i64 (h.entry : Int), .int .i64 (h.W : Int), .int .i64 (h.H : Int), .int .i64 (h.depth : Int), .int .i64 (h.alpha : Int), .bool h.left, .bool h.top, .int .i64 0, .int .i64 0] 133)).alloc (.cells #[.int .i64 0, .slice none 0 0, .int .i64 0, .int .i64 0] 136)) = w1 at H1 C1 B1 ⊢
 have c0 : w1.cell? ⟨w.heap.size, 0, none⟩ = some (.int .i64 (h.name : Int)) := Blk.cell H1 0
 obtain ⟨q0, q1, q2, q3, x0, x1, x2, x3, ql⟩ := C1.all
 go_wp2_with fail
 exact bodyPost_ret (v := tMapV 0 (.slice none 0 0) 1 (s.size : Int)) (by simp [results, Tryz.results73, go_sem, q0, q1, q2, q3, tMapV]) rfl ⟨below_set (below_set (below_set (below_set B1 hcl) hcl) hcl) hcl, .inl ⟨1, s.size, by unfold tgaMapR; rw [if_neg (by have := HSH.out; omega)], by decide, rfl⟩⟩
set_option maxRecDepth 100000 in
set_option maxHeartbeats 4000000 in
theorem refTgaMap_none {w : World} {s : ByteArray} {h : TgaHd} (hle : 18 + h.name ≤ s.size) (hm : h.map = false) (hn1 : h.name ≤ 255) (hs : s.size ≤ 100000) :
  Calls Tryz.prog 73 #[.string s, tRV h] w fun e w' => RMapPost w w' s h e := by
 have hsI : (s.size : Int) ≤ 100000 := by omega
 have hnI : (h.name : Int) ≤ 255 := by omega
 obtain ⟨a, ha⟩ : ∃ a, 18 + h.name = a := ⟨_, rfl⟩
 have haI : 18 + (h.name : Int) = (a : Int) := by omega
 have haB : (a : Int) ≤ 273 := by omega
 have hI : ¬ (s.size : Int) < (a : Int) := by omega
 have HLE := Lib.hid hle
 have HM := Lib.hid hm
 clear hle hm
 have HA := Lib.hid ha
 unfold tRV tRdV
 obtain ⟨mi, hmi⟩ : ∃ mi, (if h.map = true then (1 : Int) else 0) = mi := ⟨_, rfl⟩
 rw [hmi]
 have hm0 : mi = 0 := by rw [← hmi, HM.out]; rfl
 subst hm0
 have H1 : Blk ((w.alloc (.cells #[.int .i64 (h.name : Int), .int .i64 0, .int .i64 (h.typ : Int), .int .i64 (h.first : Int), .int .i64 (h.count : Int), .int .i64 (h.entry : Int), .int .i64 (h.W : Int), .int .i64 (h.H : Int), .int .i64 (h.depth : Int), .int .i64 (h.alpha : Int), .bool h.left, .bool h.top, .int .i64 0, .int .i64 0] 133)).alloc (.cells #[.int .i64 0, .slice none 0 0, .int .i64 0, .int .i64 0] 136)) w.heap.size 133 #[.int .i64 (h.name : Int), .int .i64 0, .int .i64 (h.typ : Int), .int .i64 (h.first : Int), .int .i64 (h.count : Int), .int .i64 (h.entry : Int), .int .i64 (h.W : Int), .int .i64 (h.H : Int), .int .i64 (h.depth : Int), .int .i64 (h.alpha : Int), .bool h.left, .bool h.top, .int .i64 0, .int .i64 0] := Blk.alloc (Blk.new _ _ _) _
 have C1 : MB0 ((w.alloc (.cells #[.int .i64 (h.name : Int), .int .i64 0, .int .i64 (h.typ : Int), .int .i64 (h.first : Int), .int .i64 (h.count : Int), .int .i64 (h.entry : Int), .int .i64 (h.W : Int), .int .i64 (h.H : Int), .int .i64 (h.depth : Int), .int .i64 (h.alpha : Int), .bool h.left, .bool h.top, .int .i64 0, .int .i64 0] 133)).alloc (.cells #[.int .i64 0, .slice none 0 0, .int .i64 0, .int .i64 0] 136)) (w.heap.size + 1) := Blk.new_at _ _ _ (by simp)
 have B1 : Below w.heap.size w ((w.alloc (.cells #[.int .i64 (h.name : Int), .int .i64 0, .int .i64 (h.typ : Int), .int .i64 (h.first : Int), .int .i64 (h.count : Int), .int .i64 (h.entry : Int), .int .i64 (h.W : Int), .int .i64 (h.H : Int), .int .i64 (h.depth : Int), .int .i64 (h.alpha : Int), .bool h.left, .bool h.top, .int .i64 0, .int .i64 0] 133)).alloc (.cells #[.int .i64 0, .slice none 0 0, .int .i64 0, .int .i64 0] 136)) := ((Below.refl _ _).alloc (Nat.le_refl _) _).alloc (by simp) _
 have hcl : w.heap.size ≤ w.heap.size + 1 := by omega
 have hne1 : w.heap.size ≠ w.heap.size + 1 := by omega
 clear ha hmi
 go_enter Tryz.func73, Tryz.ntmps73
 go_upto_region 1 with fail
 generalize ((w.alloc (.cells #[.int .i64 (h.name : Int), .int .i64 0, .int .i64 (h.typ : Int), .int .i64 (h.first : Int), .int .i64 (h.count : Int), .int .i64 (h.entry : Int), .int .i64 (h.W : Int), .int .i64 (h.H : Int), .int .i64 (h.depth : Int), .int .i64 (h.alpha : Int), .bool h.left, .bool h.top, .int .i64 0, .int .i64 0] 133)).alloc (.cells #[.int .i64 0, .slice none 0 0, .int .i64 0, .int .i64 0] 136)) = w1 at H1 C1 B1 ⊢
 have c0 : w1.cell? ⟨w.heap.size, 0, none⟩ = some (.int .i64 (h.name : Int)) := Blk.cell H1 0
 have c1 : w1.cell? ⟨w.heap.size, 1, none⟩ = some (.int .i64 0) := Blk.cell H1 1
 obtain ⟨q0, q1, q2, q3, x0, x1, x2, x3, ql⟩ := C1.all
 go_wp2_with fail
 exact bodyPost_ret (v := tMapV (a : Int) (.slice none 0 0) 0 0) (by simp [results, Tryz.results73, go_sem, q0, q1, q2, q3, tMapV]) rfl ⟨below_set (below_set (below_set (below_set B1 hcl) hcl) hcl) hcl, .inr ⟨a, [], .slice none 0 0, by unfold tgaMapR; rw [if_pos HLE.out, if_pos HM.out, HA.out], by rw [← HA.out]; exact HLE.out, Nat.zero_le _, rfl, .inl ⟨rfl, rfl⟩⟩⟩
set_option maxRecDepth 100000 in
set_option maxHeartbeats 4000000 in
theorem refTgaMap_less {w : World} {s : ByteArray} {h : TgaHd} (hle : 18 + h.name ≤ s.size) (hm : h.map = true) (hcol : TgaCol h.entry) (hc2 : h.count ≤ 65535) (hfit : ¬ 18 + h.name + tgaEntry h.entry * h.count ≤ s.size) (hn1 : h.name ≤ 255) (hs : s.size ≤ 100000) :
  Calls Tryz.prog 73 #[.string s, tRV h] w fun e w' => RMapPost w w' s h e := by
 have hsI : (s.size : Int) ≤ 100000 := by omega
 have hnI : (h.name : Int) ≤ 255 := by omega
 obtain ⟨a, ha⟩ : ∃ a, 18 + h.name = a := ⟨_, rfl⟩
 have haI : 18 + (h.name : Int) = (a : Int) := by omega
 have haB : (a : Int) ≤ 273 := by omega
 have hI : ¬ (s.size : Int) < (a : Int) := by omega
 have HLE := Lib.hid hle
 have HM := Lib.hid hm
 obtain ⟨hk, hz, hz4⟩ := tgaKind_size hcol
 obtain ⟨z, hzz⟩ : ∃ z, tgaEntry h.entry = z := ⟨_, rfl⟩
 obtain ⟨kd, hkd⟩ : ∃ kd, tgaKind h.entry = kd := ⟨_, rfl⟩
 have HKI := Lib.hid (fun w => refTgaKind hkd w)
 have HSZ := Lib.hid (fun w => refSize_any (tgaKind h.entry : Int) w)
 rw [hk, hzz, hkd] at HSZ
 obtain ⟨n, hn⟩ : ∃ n, z * h.count = n := ⟨_, rfl⟩
 rw [hzz] at hz hz4
 have hnB : n ≤ 4 * 65535 := by rw [← hn]; exact Nat.mul_le_mul hz4 hc2
 have hnI2 : IntKind.i64.wrap ((z : Int) * (h.count : Int)) = (n : Int) := by rw [← Int.natCast_mul, hn]; exact IntWalk.i64_in _ (by omega)
 have hnI3 : (n : Int) ≤ 262140 := by omega
 have HZN := Lib.hid (And.intro hzz (And.intro hkd (And.intro hn (And.intro hk (And.intro hz hc2)))))
 rw [hzz, hn] at hfit
 have HFIT := Lib.hid hfit
 have hJ : (s.size : Int) - (a : Int) < (n : Int) := by omega
 clear hle hm hcol hk hz hz4 hzz hkd hn hnB hc2 hfit
 have HA := Lib.hid ha
 unfold tRV tRdV
 obtain ⟨mi, hmi⟩ : ∃ mi, (if h.map = true then (1 : Int) else 0) = mi := ⟨_, rfl⟩
 rw [hmi]
 have hm0 : mi = 1 := by rw [← hmi, HM.out]; rfl
 subst hm0
 have H1 : Blk ((w.alloc (.cells #[.int .i64 (h.name : Int), .int .i64 1, .int .i64 (h.typ : Int), .int .i64 (h.first : Int), .int .i64 (h.count : Int), .int .i64 (h.entry : Int), .int .i64 (h.W : Int), .int .i64 (h.H : Int), .int .i64 (h.depth : Int), .int .i64 (h.alpha : Int), .bool h.left, .bool h.top, .int .i64 0, .int .i64 0] 133)).alloc (.cells #[.int .i64 0, .slice none 0 0, .int .i64 0, .int .i64 0] 136)) w.heap.size 133 #[.int .i64 (h.name : Int), .int .i64 1, .int .i64 (h.typ : Int), .int .i64 (h.first : Int), .int .i64 (h.count : Int), .int .i64 (h.entry : Int), .int .i64 (h.W : Int), .int .i64 (h.H : Int), .int .i64 (h.depth : Int), .int .i64 (h.alpha : Int), .bool h.left, .bool h.top, .int .i64 0, .int .i64 0] := Blk.alloc (Blk.new _ _ _) _
 have C1 : MB0 ((w.alloc (.cells #[.int .i64 (h.name : Int), .int .i64 1, .int .i64 (h.typ : Int), .int .i64 (h.first : Int), .int .i64 (h.count : Int), .int .i64 (h.entry : Int), .int .i64 (h.W : Int), .int .i64 (h.H : Int), .int .i64 (h.depth : Int), .int .i64 (h.alpha : Int), .bool h.left, .bool h.top, .int .i64 0, .int .i64 0] 133)).alloc (.cells #[.int .i64 0, .slice none 0 0, .int .i64 0, .int .i64 0] 136)) (w.heap.size + 1) := Blk.new_at _ _ _ (by simp)
 have B1 : Below w.heap.size w ((w.alloc (.cells #[.int .i64 (h.name : Int), .int .i64 1, .int .i64 (h.typ : Int), .int .i64 (h.first : Int), .int .i64 (h.count : Int), .int .i64 (h.entry : Int), .int .i64 (h.W : Int), .int .i64 (h.H : Int), .int .i64 (h.depth : Int), .int .i64 (h.alpha : Int), .bool h.left, .bool h.top, .int .i64 0, .int .i64 0] 133)).alloc (.cells #[.int .i64 0, .slice none 0 0, .int .i64 0, .int .i64 0] 136)) := ((Below.refl _ _).alloc (Nat.le_refl _) _).alloc (by simp) _
 have hcl : w.heap.size ≤ w.heap.size + 1 := by omega
 have hne1 : w.heap.size ≠ w.heap.size + 1 := by omega
 clear ha hmi
 go_enter Tryz.func73, Tryz.ntmps73
 go_upto_region 1 with fail
 generalize ((w.alloc (.cells #[.int .i64 (h.name : Int), .int .i64 1, .int .i64 (h.typ : Int), .int .i64 (h.first : Int), .int .i64 (h.count : Int), .int .i64 (h.entry : Int), .int .i64 (h.W : Int), .int .i64 (h.H : Int), .int .i64 (h.depth : Int), .int .i64 (h.alpha : Int), .bool h.left, .bool h.top, .int .i64 0, .int .i64 0] 133)).alloc (.cells #[.int .i64 0, .slice none 0 0, .int .i64 0, .int .i64 0] 136)) = w1 at H1 C1 B1 ⊢
 have c0 : w1.cell? ⟨w.heap.size, 0, none⟩ = some (.int .i64 (h.name : Int)) := Blk.cell H1 0
 have c4 : w1.cell? ⟨w.heap.size, 4, none⟩ = some (.int .i64 (h.count : Int)) := Blk.cell H1 4
 have c5 : w1.cell? ⟨w.heap.size, 5, none⟩ = some (.int .i64 (h.entry : Int)) := Blk.cell H1 5
 have c1 : w1.cell? ⟨w.heap.size, 1, none⟩ = some (.int .i64 1) := Blk.cell H1 1
 go_upto_region 7 with (go_at_call 125; refine (HKI.out _).mono ?_; rintro e w3 ⟨rfl, rfl⟩)
 have H2 := Blk.drew H1
 have C2 : MB0 w1.drew (w.heap.size + 1) := Blk.drew C1
 have B2 := B1.drew
 have d4 : w1.drew.cell? ⟨w.heap.size, 4, none⟩ = some (.int .i64 (h.count : Int)) := Blk.cell H2 4
 refine wp_region_held_drew (S := (fun w9 => w9.cell? ⟨w.heap.size, 4, none⟩ = some (.int .i64 (h.count : Int)))) (by kernel_rfl) d4 (fun hHeld => ?_)
 generalize w1.drew = w2 at H2 C2 B2 d4 hHeld ⊢
 clear c0 c1 c4 c5 H1 C1 B1
 refine tk 0 ?_
 (try simp only [sps])
 refine tk 2 ?_
 (try simp only [sps])
 refine tk 3 ?_
 (try simp only [sps])
 refine rdy 1 (fun K hK => ?_)
 go_simp
 refine (HSZ.out _).mono ?_
 rintro e w3 ⟨rfl, rfl⟩
 refine hK.out _ _ d4 ?_
 clear hK K hHeld
 intro hHeld
 (try simp only [sps])
 refine tk 4 ?_
 (try simp only [sps])
 refine tk 5 ?_
 (try simp only [sps])
 refine wpAnyH_done (by kernel_rfl) ?_ _
 (try simp only [sps])
 clear hHeld d4
 have c2 : w2.cell? ⟨w.heap.size, 2, none⟩ = some (.int .i64 (h.typ : Int)) := Blk.cell H2 2
 have c4 : w2.cell? ⟨w.heap.size, 4, none⟩ = some (.int .i64 (h.count : Int)) := Blk.cell H2 4
 obtain ⟨q0, q1, q2, q3, x0, x1, x2, x3, ql⟩ := C2.all
 go_wp2_with fail
 exact bodyPost_ret (v := tMapV 0 (.slice none 0 0) 1 (s.size : Int)) (by simp [results, Tryz.results73, go_sem, q0, q1, q2, q3, tMapV]) rfl ⟨below_set (below_set (below_set (below_set B2 hcl) hcl) hcl) hcl, .inl ⟨1, s.size, by unfold tgaMapR; rw [if_pos HLE.out, if_neg (by rw [HM.out]; decide), HZN.out.1, HZN.out.2.2.1, if_neg HFIT.out], by decide, rfl⟩⟩
set_option maxRecDepth 100000 in
set_option maxHeartbeats 4000000 in
theorem refTgaMap_un {w : World} {s : ByteArray} {h : TgaHd} (hle : 18 + h.name ≤ s.size) (hm : h.map = true) (hcol : TgaCol h.entry) (hc2 : h.count ≤ 65535) (hfit : 18 + h.name + tgaEntry h.entry * h.count ≤ s.size) (hmm : ¬ h.mapped) (hn1 : h.name ≤ 255) (hs : s.size ≤ 100000) :
  Calls Tryz.prog 73 #[.string s, tRV h] w fun e w' => RMapPost w w' s h e := by
 have hsI : (s.size : Int) ≤ 100000 := by omega
 have hnI : (h.name : Int) ≤ 255 := by omega
 obtain ⟨a, ha⟩ : ∃ a, 18 + h.name = a := ⟨_, rfl⟩
 have haI : 18 + (h.name : Int) = (a : Int) := by omega
 have haB : (a : Int) ≤ 273 := by omega
 have hI : ¬ (s.size : Int) < (a : Int) := by omega
 have HLE := Lib.hid hle
 have HM := Lib.hid hm
 obtain ⟨hk, hz, hz4⟩ := tgaKind_size hcol
 obtain ⟨z, hzz⟩ : ∃ z, tgaEntry h.entry = z := ⟨_, rfl⟩
 obtain ⟨kd, hkd⟩ : ∃ kd, tgaKind h.entry = kd := ⟨_, rfl⟩
 have HKI := Lib.hid (fun w => refTgaKind hkd w)
 have HSZ := Lib.hid (fun w => refSize_any (tgaKind h.entry : Int) w)
 rw [hk, hzz, hkd] at HSZ
 obtain ⟨n, hn⟩ : ∃ n, z * h.count = n := ⟨_, rfl⟩
 rw [hzz] at hz hz4
 have hnB : n ≤ 4 * 65535 := by rw [← hn]; exact Nat.mul_le_mul hz4 hc2
 have hnI2 : IntKind.i64.wrap ((z : Int) * (h.count : Int)) = (n : Int) := by rw [← Int.natCast_mul, hn]; exact IntWalk.i64_in _ (by omega)
 have hnI3 : (n : Int) ≤ 262140 := by omega
 have HZN := Lib.hid (And.intro hzz (And.intro hkd (And.intro hn (And.intro hk (And.intro hz hc2)))))
 rw [hzz, hn] at hfit
 have HFIT := Lib.hid hfit
 have hJ : ¬ (s.size : Int) - (a : Int) < (n : Int) := by omega
 have hty := (tgaMapped_iff h)
 obtain ⟨g1, hg1⟩ : ∃ g1, ((h.typ : Int) == 1) = g1 := ⟨_, rfl⟩
 obtain ⟨g9, hg9⟩ : ∃ g9, ((h.typ : Int) == 9) = g9 := ⟨_, rfl⟩
 have HG : Hid (g1 = false ∧ g9 = false) := Lib.hid (by
  rw [← hg1, ← hg9]
  exact ⟨beq_eq_false_iff_ne.2 (fun e => hmm (hty.1 (by omega))), beq_eq_false_iff_ne.2 (fun e => hmm (hty.1 (by omega)))⟩)
 have HMM := Lib.hid hmm
 clear hty hmm
 clear hle hm hcol hk hz hz4 hzz hkd hn hnB hc2 hfit
 have HA := Lib.hid ha
 unfold tRV tRdV
 obtain ⟨mi, hmi⟩ : ∃ mi, (if h.map = true then (1 : Int) else 0) = mi := ⟨_, rfl⟩
 rw [hmi]
 have hm0 : mi = 1 := by rw [← hmi, HM.out]; rfl
 subst hm0
 have H1 : Blk ((w.alloc (.cells #[.int .i64 (h.name : Int), .int .i64 1, .int .i64 (h.typ : Int), .int .i64 (h.first : Int), .int .i64 (h.count : Int), .int .i64 (h.entry : Int), .int .i64 (h.W : Int), .int .i64 (h.H : Int), .int .i64 (h.depth : Int), .int .i64 (h.alpha : Int), .bool h.left, .bool h.top, .int .i64 0, .int .i64 0] 133)).alloc (.cells #[.int .i64 0, .slice none 0 0, .int .i64 0, .int .i64 0] 136)) w.heap.size 133 #[.int .i64 (h.name : Int), .int .i64 1, .int .i64 (h.typ : Int), .int .i64 (h.first : Int), .int .i64 (h.count : Int), .int .i64 (h.entry : Int), .int .i64 (h.W : Int), .int .i64 (h.H : Int), .int .i64 (h.depth : Int), .int .i64 (h.alpha : Int), .bool h.left, .bool h.top, .int .i64 0, .int .i64 0] := Blk.alloc (Blk.new _ _ _) _
 have C1 : MB0 ((w.alloc (.cells #[.int .i64 (h.name : Int), .int .i64 1, .int .i64 (h.typ : Int), .int .i64 (h.first : Int), .int .i64 (h.count : Int), .int .i64 (h.entry : Int), .int .i64 (h.W : Int), .int .i64 (h.H : Int), .int .i64 (h.depth : Int), .int .i64 (h.alpha : Int), .bool h.left, .bool h.top, .int .i64 0, .int .i64 0] 133)).alloc (.cells #[.int .i64 0, .slice none 0 0, .int .i64 0, .int .i64 0] 136)) (w.heap.size + 1) := Blk.new_at _ _ _ (by simp)
 have B1 : Below w.heap.size w ((w.alloc (.cells #[.int .i64 (h.name : Int), .int .i64 1, .int .i64 (h.typ : Int), .int .i64 (h.first : Int), .int .i64 (h.count : Int), .int .i64 (h.entry : Int), .int .i64 (h.W : Int), .int .i64 (h.H : Int), .int .i64 (h.depth : Int), .int .i64 (h.alpha : Int), .bool h.left, .bool h.top, .int .i64 0, .int .i64 0] 133)).alloc (.cells #[.int .i64 0, .slice none 0 0, .int .i64 0, .int .i64 0] 136)) := ((Below.refl _ _).alloc (Nat.le_refl _) _).alloc (by simp) _
 have hcl : w.heap.size ≤ w.heap.size + 1 := by omega
 have hne1 : w.heap.size ≠ w.heap.size + 1 := by omega
 clear ha hmi
 go_enter Tryz.func73, Tryz.ntmps73
 go_upto_region 1 with fail
 generalize ((w.alloc (.cells #[.int .i64 (h.name : Int), .int .i64 1, .int .i64 (h.typ : Int), .int .i64 (h.first : Int), .int .i64 (h.count : Int), .int .i64 (h.entry : Int), .int .i64 (h.W : Int), .int .i64 (h.H : Int), .int .i64 (h.depth : Int), .int .i64 (h.alpha : Int), .bool h.left, .bool h.top, .int .i64 0, .int .i64 0] 133)).alloc (.cells #[.int .i64 0, .slice none 0 0, .int .i64 0, .int .i64 0] 136)) = w1 at H1 C1 B1 ⊢
 have c0 : w1.cell? ⟨w.heap.size, 0, none⟩ = some (.int .i64 (h.name : Int)) := Blk.cell H1 0
 have c4 : w1.cell? ⟨w.heap.size, 4, none⟩ = some (.int .i64 (h.count : Int)) := Blk.cell H1 4
 have c5 : w1.cell? ⟨w.heap.size, 5, none⟩ = some (.int .i64 (h.entry : Int)) := Blk.cell H1 5
 have c1 : w1.cell? ⟨w.heap.size, 1, none⟩ = some (.int .i64 1) := Blk.cell H1 1
 go_upto_region 7 with (go_at_call 125; refine (HKI.out _).mono ?_; rintro e w3 ⟨rfl, rfl⟩)
 have H2 := Blk.drew H1
 have C2 : MB0 w1.drew (w.heap.size + 1) := Blk.drew C1
 have B2 := B1.drew
 have d4 : w1.drew.cell? ⟨w.heap.size, 4, none⟩ = some (.int .i64 (h.count : Int)) := Blk.cell H2 4
 refine wp_region_held_drew (S := (fun w9 => w9.cell? ⟨w.heap.size, 4, none⟩ = some (.int .i64 (h.count : Int)))) (by kernel_rfl) d4 (fun hHeld => ?_)
 generalize w1.drew = w2 at H2 C2 B2 d4 hHeld ⊢
 clear c0 c1 c4 c5 H1 C1 B1
 refine tk 0 ?_
 (try simp only [sps])
 refine tk 2 ?_
 (try simp only [sps])
 refine tk 3 ?_
 (try simp only [sps])
 refine rdy 1 (fun K hK => ?_)
 go_simp
 refine (HSZ.out _).mono ?_
 rintro e w3 ⟨rfl, rfl⟩
 refine hK.out _ _ d4 ?_
 clear hK K hHeld
 intro hHeld
 (try simp only [sps])
 refine tk 4 ?_
 (try simp only [sps])
 refine tk 5 ?_
 (try simp only [sps])
 refine wpAnyH_done (by kernel_rfl) ?_ _
 (try simp only [sps])
 clear hHeld d4
 have c2 : w2.cell? ⟨w.heap.size, 2, none⟩ = some (.int .i64 (h.typ : Int)) := Blk.cell H2 2
 have c4 : w2.cell? ⟨w.heap.size, 4, none⟩ = some (.int .i64 (h.count : Int)) := Blk.cell H2 4
 obtain ⟨q0, q1, q2, q3, x0, x1, x2, x3, ql⟩ := C2.all
 go_upto_region 11 with fail
 have H3 := Blk.alloc H2 (.cells #[.int .i64 ((a : Int) + (n : Int)), .slice none 0 0, .int .i64 0, .int .i64 0] 136)
 have C3 : MB0 (w2.alloc (.cells #[.int .i64 ((a : Int) + (n : Int)), .slice none 0 0, .int .i64 0, .int .i64 0] 136)) (w.heap.size + 1) := Blk.alloc C2 _
 have B3 := B2.alloc (Nat.le_of_lt (Blk.lt H2)) (.cells #[.int .i64 ((a : Int) + (n : Int)), .slice none 0 0, .int .i64 0, .int .i64 0] 136)
 have N3 : Blk (w2.alloc (.cells #[.int .i64 ((a : Int) + (n : Int)), .slice none 0 0, .int .i64 0, .int .i64 0] 136)) w2.heap.size 136 #[.int .i64 ((a : Int) + (n : Int)), .slice none 0 0, .int .i64 0, .int .i64 0] := Blk.new _ _ _
 have hq8 : w.heap.size + 1 < w2.heap.size := Blk.lt C2
 generalize w2.alloc (.cells #[.int .i64 ((a : Int) + (n : Int)), .slice none 0 0, .int .i64 0, .int .i64 0] 136) = w3 at H3 C3 B3 N3 ⊢
 generalize w2.heap.size = q8 at N3 hq8 ⊢
 clear c2 c4 q0 q1 q2 q3 x0 x1 x2 x3 ql
 have c2 : w3.cell? ⟨w.heap.size, 2, none⟩ = some (.int .i64 (h.typ : Int)) := Blk.cell H3 2
 go_cut [52] from 45 to 52 (fun c52 wx => c52 = .bool false ∧ wx = w3)
 case first =>
  obtain ⟨rfl, rfl⟩ := HG.out
  go_wp2_with fail
  go_meet
  case rel => exact ⟨rfl, rfl⟩
 case rest =>
  obtain ⟨rfl, rfl⟩ := hcut
  clear c2
  have hne8 : w.heap.size + 1 ≠ q8 := by omega
  have hne8' := hne8.symm
  obtain ⟨q0, q1, q2, q3, x0, x1, x2, x3, ql⟩ := C3.all
  have k0 := Blk.cell N3 0
  have k1 := Blk.cell N3 1
  have k2 := Blk.cell N3 2
  have k3 := Blk.cell N3 3
  have kl := Blk.lt N3
  go_wp2_with fail
  exact bodyPost_ret (v := tMapV ((a : Int) + (n : Int)) (.slice none 0 0) 0 0) (by simp [results, Tryz.results73, go_sem, q0, q1, q2, q3, k0, k1, k2, k3, hne8, hne8', tMapV]) rfl ⟨below_set (below_set (below_set (below_set B3 hcl) hcl) hcl) hcl, .inr ⟨a + n, [], .slice none 0 0, by unfold tgaMapR; rw [if_pos HLE.out, if_neg (by rw [HM.out]; decide), HZN.out.1, HZN.out.2.2.1, if_pos HFIT.out, if_neg HMM.out, HA.out], by rw [← HA.out]; exact HFIT.out, Nat.zero_le _, by rw [Int.natCast_add], .inl ⟨rfl, rfl⟩⟩⟩
set_option maxRecDepth 100000 in
set_option maxHeartbeats 4000000 in
theorem refTgaMap_ents {w : World} {s : ByteArray} {h : TgaHd} (hle : 18 + h.name ≤ s.size) (hm : h.map = true) (hcol : TgaCol h.entry) (hc2 : h.count ≤ 65535) (hfit : 18 + h.name + tgaEntry h.entry * h.count ≤ s.size) (hmm : h.mapped) (hn1 : h.name ≤ 255) (hs : s.size ≤ 100000) :
  Calls Tryz.prog 73 #[.string s, tRV h] w fun e w' => RMapPost w w' s h e := by
 have hsI : (s.size : Int) ≤ 100000 := by omega
 have hnI : (h.name : Int) ≤ 255 := by omega
 obtain ⟨a, ha⟩ : ∃ a, 18 + h.name = a := ⟨_, rfl⟩
 have haI : 18 + (h.name : Int) = (a : Int) := by omega
 have haB : (a : Int) ≤ 273 := by omega
 have hI : ¬ (s.size : Int) < (a : Int) := by omega
 have HLE := Lib.hid hle
 have HM := Lib.hid hm
 obtain ⟨hk, hz, hz4⟩ := tgaKind_size hcol
 obtain ⟨z, hzz⟩ : ∃ z, tgaEntry h.entry = z := ⟨_, rfl⟩
 obtain ⟨kd, hkd⟩ : ∃ kd, tgaKind h.entry = kd := ⟨_, rfl⟩
 have HKI := Lib.hid (fun w => refTgaKind hkd w)
 have HSZ := Lib.hid (fun w => refSize_any (tgaKind h.entry : Int) w)
 rw [hk, hzz, hkd] at HSZ
 obtain ⟨n, hn⟩ : ∃ n, z * h.count = n := ⟨_, rfl⟩
 rw [hzz] at hz hz4
 have hnB : n ≤ 4 * 65535 := by rw [← hn]; exact Nat.mul_le_mul hz4 hc2
 have hnI2 : IntKind.i64.wrap ((z : Int) * (h.count : Int)) = (n : Int) := by rw [← Int.natCast_mul, hn]; exact IntWalk.i64_in _ (by omega)
 have hnI3 : (n : Int) ≤ 262140 := by omega
 have HZN := Lib.hid (And.intro hzz (And.intro hkd (And.intro hn (And.intro hk (And.intro hz hc2)))))
 rw [hzz, hn] at hfit
 have HFIT := Lib.hid hfit
 have hJ : ¬ (s.size : Int) - (a : Int) < (n : Int) := by omega
 have hty := (tgaMapped_iff h)
 obtain ⟨g1, hg1⟩ : ∃ g1, ((h.typ : Int) == 1) = g1 := ⟨_, rfl⟩
 obtain ⟨g9, hg9⟩ : ∃ g9, ((h.typ : Int) == 9) = g9 := ⟨_, rfl⟩
 have HG : Hid ((g1 = true) ∨ (g1 = false ∧ g9 = true)) := Lib.hid (by
  rw [← hg1, ← hg9]
  rcases hty.2 hmm with e | e
  ·exact .inl (by rw [e]; rfl)
  ·exact .inr (by rw [e]; exact ⟨rfl, rfl⟩))
 have HMM := Lib.hid hmm
 clear hty hmm
 clear hle hm hcol hk hz hz4 hzz hkd hn hnB hc2 hfit
 have HA := Lib.hid ha
 unfold tRV tRdV
 obtain ⟨mi, hmi⟩ : ∃ mi, (if h.map = true then (1 : Int) else 0) = mi := ⟨_, rfl⟩
 rw [hmi]
 have hm0 : mi = 1 := by rw [← hmi, HM.out]; rfl
 subst hm0
 have H1 : Blk ((w.alloc (.cells #[.int .i64 (h.name : Int), .int .i64 1, .int .i64 (h.typ : Int), .int .i64 (h.first : Int), .int .i64 (h.count : Int), .int .i64 (h.entry : Int), .int .i64 (h.W : Int), .int .i64 (h.H : Int), .int .i64 (h.depth : Int), .int .i64 (h.alpha : Int), .bool h.left, .bool h.top, .int .i64 0, .int .i64 0] 133)).alloc (.cells #[.int .i64 0, .slice none 0 0, .int .i64 0, .int .i64 0] 136)) w.heap.size 133 #[.int .i64 (h.name : Int), .int .i64 1, .int .i64 (h.typ : Int), .int .i64 (h.first : Int), .int .i64 (h.count : Int), .int .i64 (h.entry : Int), .int .i64 (h.W : Int), .int .i64 (h.H : Int), .int .i64 (h.depth : Int), .int .i64 (h.alpha : Int), .bool h.left, .bool h.top, .int .i64 0, .int .i64 0] := Blk.alloc (Blk.new _ _ _) _
 have C1 : MB0 ((w.alloc (.cells #[.int .i64 (h.name : Int), .int .i64 1, .int .i64 (h.typ : Int), .int .i64 (h.first : Int), .int .i64 (h.count : Int), .int .i64 (h.entry : Int), .int .i64 (h.W : Int), .int .i64 (h.H : Int), .int .i64 (h.depth : Int), .int .i64 (h.alpha : Int), .bool h.left, .bool h.top, .int .i64 0, .int .i64 0] 133)).alloc (.cells #[.int .i64 0, .slice none 0 0, .int .i64 0, .int .i64 0] 136)) (w.heap.size + 1) := Blk.new_at _ _ _ (by simp)
 have B1 : Below w.heap.size w ((w.alloc (.cells #[.int .i64 (h.name : Int), .int .i64 1, .int .i64 (h.typ : Int), .int .i64 (h.first : Int), .int .i64 (h.count : Int), .int .i64 (h.entry : Int), .int .i64 (h.W : Int), .int .i64 (h.H : Int), .int .i64 (h.depth : Int), .int .i64 (h.alpha : Int), .bool h.left, .bool h.top, .int .i64 0, .int .i64 0] 133)).alloc (.cells #[.int .i64 0, .slice none 0 0, .int .i64 0, .int .i64 0] 136)) := ((Below.refl _ _).alloc (Nat.le_refl _) _).alloc (by simp) _
 have hcl : w.heap.size ≤ w.heap.size + 1 := by omega
 have hne1 : w.heap.size ≠ w.heap.size + 1 := by omega
 clear ha hmi
 go_enter Tryz.func73, Tryz.ntmps73
 go_upto_region 1 with fail
 generalize ((w.alloc (.cells #[.int .i64 (h.name : Int), .int .i64 1, .int .i64 (h.typ : Int), .int .i64 (h.first : Int), .int .i64 (h.count : Int), .int .i64 (h.entry : Int), .int .i64 (h.W : Int), .int .i64 (h.H : Int), .int .i64 (h.depth : Int), .int .i64 (h.alpha : Int), .bool h.left, .bool h.top, .int .i64 0, .int .i64 0] 133)).alloc (.cells #[.int .i64 0, .slice none 0 0, .int .i64 0, .int .i64 0] 136)) = w1 at H1 C1 B1 ⊢
 have c0 : w1.cell? ⟨w.heap.size, 0, none⟩ = some (.int .i64 (h.name : Int)) := Blk.cell H1 0
 have c4 : w1.cell? ⟨w.heap.size, 4, none⟩ = some (.int .i64 (h.count : Int)) := Blk.cell H1 4
 have c5 : w1.cell? ⟨w.heap.size, 5, none⟩ = some (.int .i64 (h.entry : Int)) := Blk.cell H1 5
 have c1 : w1.cell? ⟨w.heap.size, 1, none⟩ = some (.int .i64 1) := Blk.cell H1 1
 go_upto_region 7 with (go_at_call 125; refine (HKI.out _).mono ?_; rintro e w3 ⟨rfl, rfl⟩)
 have H2 := Blk.drew H1
 have C2 : MB0 w1.drew (w.heap.size + 1) := Blk.drew C1
 have B2 := B1.drew
 have d4 : w1.drew.cell? ⟨w.heap.size, 4, none⟩ = some (.int .i64 (h.count : Int)) := Blk.cell H2 4
 refine wp_region_held_drew (S := (fun w9 => w9.cell? ⟨w.heap.size, 4, none⟩ = some (.int .i64 (h.count : Int)))) (by kernel_rfl) d4 (fun hHeld => ?_)
 generalize w1.drew = w2 at H2 C2 B2 d4 hHeld ⊢
 clear c0 c1 c4 c5 H1 C1 B1
 refine tk 0 ?_
 (try simp only [sps])
 refine tk 2 ?_
 (try simp only [sps])
 refine tk 3 ?_
 (try simp only [sps])
 refine rdy 1 (fun K hK => ?_)
 go_simp
 refine (HSZ.out _).mono ?_
 rintro e w3 ⟨rfl, rfl⟩
 refine hK.out _ _ d4 ?_
 clear hK K hHeld
 intro hHeld
 (try simp only [sps])
 refine tk 4 ?_
 (try simp only [sps])
 refine tk 5 ?_
 (try simp only [sps])
 refine wpAnyH_done (by kernel_rfl) ?_ _
 (try simp only [sps])
 clear hHeld d4
 have c2 : w2.cell? ⟨w.heap.size, 2, none⟩ = some (.int .i64 (h.typ : Int)) := Blk.cell H2 2
 have c4 : w2.cell? ⟨w.heap.size, 4, none⟩ = some (.int .i64 (h.count : Int)) := Blk.cell H2 4
 obtain ⟨q0, q1, q2, q3, x0, x1, x2, x3, ql⟩ := C2.all
 go_upto_region 11 with fail
 have H3 := Blk.alloc H2 (.cells #[.int .i64 ((a : Int) + (n : Int)), .slice none 0 0, .int .i64 0, .int .i64 0] 136)
 have C3 : MB0 (w2.alloc (.cells #[.int .i64 ((a : Int) + (n : Int)), .slice none 0 0, .int .i64 0, .int .i64 0] 136)) (w.heap.size + 1) := Blk.alloc C2 _
 have B3 := B2.alloc (Nat.le_of_lt (Blk.lt H2)) (.cells #[.int .i64 ((a : Int) + (n : Int)), .slice none 0 0, .int .i64 0, .int .i64 0] 136)
 have N3 : Blk (w2.alloc (.cells #[.int .i64 ((a : Int) + (n : Int)), .slice none 0 0, .int .i64 0, .int .i64 0] 136)) w2.heap.size 136 #[.int .i64 ((a : Int) + (n : Int)), .slice none 0 0, .int .i64 0, .int .i64 0] := Blk.new _ _ _
 have hq8 : w.heap.size + 1 < w2.heap.size := Blk.lt C2
 generalize w2.alloc (.cells #[.int .i64 ((a : Int) + (n : Int)), .slice none 0 0, .int .i64 0, .int .i64 0] 136) = w3 at H3 C3 B3 N3 ⊢
 generalize w2.heap.size = q8 at N3 hq8 ⊢
 clear c2 c4 q0 q1 q2 q3 x0 x1 x2 x3 ql
 have c2 : w3.cell? ⟨w.heap.size, 2, none⟩ = some (.int .i64 (h.typ : Int)) := Blk.cell H3 2
 go_cut [52] from 45 to 52 (fun c52 wx => c52 = .bool true ∧ wx = w3)
 case first =>
  rcases HG.out with rfl | ⟨rfl, rfl⟩
  ·go_wp2_with fail
   go_meet
   case rel => exact ⟨rfl, rfl⟩
  ·go_wp2_with fail
   go_meet
   case rel => exact ⟨rfl, rfl⟩
 case rest =>
  obtain ⟨rfl, rfl⟩ := hcut
  clear c2
  have hne8 : w.heap.size + 1 ≠ q8 := by omega
  have hne8' := hne8.symm
  go_upto_region 12 with fail
  have H4 := Blk.drew H3
  have C4 : MB0 wc.drew (w.heap.size + 1) := Blk.drew C3
  have B4 := B3.drew
  have N4 := Blk.drew N3
  have d4 : wc.drew.cell? ⟨w.heap.size, 4, none⟩ = some (.int .i64 (h.count : Int)) := Blk.cell H4 4
  refine wp_region_held_drew (S := (fun w9 => w9.cell? ⟨w.heap.size, 4, none⟩ = some (.int .i64 (h.count : Int)))) (by kernel_rfl) d4 (fun hHeld => ?_)
  generalize wc.drew = w4 at H4 C4 B4 N4 d4 hHeld ⊢
  have hbs : (s.extract a s.size).size = s.size - a := by rw [ByteArray.size_extract]; omega
  refine tk 0 ?_
  (try simp only [sps])
  refine tk 1 ?_
  (try simp only [sps])
  refine tk 2 ?_
  (try simp only [sps])
  refine tk 3 ?_
  (try simp only [sps])
  refine tk 4 ?_
  (try simp only [sps])
  refine tk 5 ?_
  (try simp only [sps])
  refine rdy 6 (fun K hK => ?_)
  go_simp
  refine (refRead10 (s := s.extract a s.size) (n := h.count) (z := z) (k := (kd : Int)) (by rw [← HZN.out.2.1, ← HZN.out.1]; exact HZN.out.2.2.2.1) HZN.out.2.2.2.2.1 (by omega) (by have := HZN.out.2.2.2.2.2; omega)).mono ?_
  rintro e w5 ⟨c, g, cap, rfl, hO, hc1, hcn, hcs, b5⟩
  have hcc : c = h.count := by
   rcases hcs with h1 | h1
   ·exact h1
   ·have h2 := HFIT.out; have h3 := HZN.out.2.2.1; have h4 := HA.out; by_cases h5 : c = h.count
    ·exact h5
    ·have h6 : (c + 1) * z ≤ n := by rw [← h3, Nat.mul_comm]; exact Nat.mul_le_mul_left z (by omega)
     omega
  subst hcc
  have hents : ents (kd : Int) z (s.extract a s.size) h.count = tgaEnts s h h.count a := by rw [← HZN.out.2.1, ← HZN.out.1]; exact ents_of h.count (by omega)
  rw [hents] at hO
  have hgb : w4.heap.size ≤ g := by rcases hO.form with ⟨h1, _⟩ | ⟨g', cap', h1, h2, _⟩; cases h1; injection h1 with h3; injection h3 with h4; injection h4 with h5; omega
  have RM := RowM.of hO
  have H5 := Blk.below H4 b5 (Blk.lt H4)
  have C5 : MB0 w5 (w.heap.size + 1) := Blk.below C4 b5 (Blk.lt C4)
  have B5 := below_next B4 b5
  have N5 := Blk.below N4 b5 (Blk.lt N4)
  have hg8 : g ≠ q8 := by have := Blk.lt N4; omega
  have hg1 : g ≠ w.heap.size + 1 := by have := Blk.lt C4; omega
  refine hK.out _ _ (Blk.cell H5 4) ?_
  clear hK K hHeld
  intro hHeld
  (try simp only [sps])
  refine tk 7 ?_
  (try simp only [sps])
  have k0 := Blk.cell N5 0
  have y0 := Blk.frozen N5 0
  have k1 := Blk.cell N5 1
  have y1 := Blk.frozen N5 1
  have k2 := Blk.cell N5 2
  have y2 := Blk.frozen N5 2
  have k3 := Blk.cell N5 3
  have y3 := Blk.frozen N5 3
  have kl := Blk.lt N5
  refine rdy 8 (fun K hK => ?_)
  go_simp
  have H6 : Blk (w5.setCell ⟨q8, 1, none⟩ (.slice (some ⟨g, 0, none⟩) h.count cap)) w.heap.size 133 #[.int .i64 (h.name : Int), .int .i64 1, .int .i64 (h.typ : Int), .int .i64 (h.first : Int), .int .i64 (h.count : Int), .int .i64 (h.entry : Int), .int .i64 (h.W : Int), .int .i64 (h.H : Int), .int .i64 (h.depth : Int), .int .i64 (h.alpha : Int), .bool h.left, .bool h.top, .int .i64 0, .int .i64 0] := Blk.far H5 (p := ⟨q8, 1, none⟩) (show w.heap.size ≠ q8 by omega) _
  have C6 : MB0 (w5.setCell ⟨q8, 1, none⟩ (.slice (some ⟨g, 0, none⟩) h.count cap)) (w.heap.size + 1) := Blk.far C5 (p := ⟨q8, 1, none⟩) hne8 _
  have B6 : Below w.heap.size w (w5.setCell ⟨q8, 1, none⟩ (.slice (some ⟨g, 0, none⟩) h.count cap)) := below_set B5 (by omega)
  have N6 : Blk (w5.setCell ⟨q8, 1, none⟩ (.slice (some ⟨g, 0, none⟩) h.count cap)) q8 136 #[.int .i64 ((a : Int) + (n : Int)), .slice (some ⟨g, 0, none⟩) h.count cap, .int .i64 0, .int .i64 0] := (Blk.set_ N5 1 _).eq_ (by simp)
  have RM6 : RowM (w5.setCell ⟨q8, 1, none⟩ (.slice (some ⟨g, 0, none⟩) h.count cap)) (.slice (some ⟨g, 0, none⟩) h.count cap) (tgaEnts s h h.count a) := RM.set (fun g' n' c' e => by cases e; exact hg8)
  clear k0 k1 k2 k3 y0 y1 y2 y3 kl RM
  generalize w5.setCell ⟨q8, 1, none⟩ (.slice (some ⟨g, 0, none⟩) h.count cap) = w6 at H6 C6 B6 N6 RM6 ⊢
  refine hK.out _ _ (Blk.cell H6 4) ?_
  clear hK K hHeld
  intro hHeld
  (try simp only [sps])
  refine wpAnyH_done (by kernel_rfl) ?_ _
  (try simp only [sps])
  obtain ⟨q0, q1, q2, q3, x0, x1, x2, x3, ql⟩ := C6.all
  have k0 := Blk.cell N6 0
  have k1 := Blk.cell N6 1
  have k2 := Blk.cell N6 2
  have k3 := Blk.cell N6 3
  have kl := Blk.lt N6
  have hlen : (tgaEnts s h h.count a).length = h.count := by rw [← hents, ents_len]
  go_wp2_with fail
  exact bodyPost_ret (v := tMapV ((a : Int) + (n : Int)) (.slice (some ⟨g, 0, none⟩) h.count cap) 0 0) (by simp [results, Tryz.results73, go_sem, q0, q1, q2, q3, k0, k1, k2, k3, hne8, hne8', tMapV]) rfl ⟨below_set (below_set (below_set (below_set B6 hcl) hcl) hcl) hcl, .inr ⟨a + n, tgaEnts s h h.count a, _, by unfold tgaMapR; rw [if_pos HLE.out, if_neg (by rw [HM.out]; decide), HZN.out.1, HZN.out.2.2.1, if_pos HFIT.out, if_pos HMM.out, HA.out], by rw [← HA.out]; exact HFIT.out, by rw [hlen]; exact HZN.out.2.2.2.2.2, by rw [Int.natCast_add], RowM.set (RowM.set (RowM.set (RowM.set (RM6) (fun g' n' c' e => by cases e; exact hg1)) (fun g' n' c' e => by cases e; exact hg1)) (fun g' n' c' e => by cases e; exact hg1)) (fun g' n' c' e => by cases e; exact hg1)⟩⟩
theorem refTgaMapC {w : World} {s : ByteArray} {h : TgaHd} (hh : h.Ok) (hs : s.size ≤ 100000) :
  Calls Tryz.prog 73 #[.string s, tRV h] w fun e w' => RMapPost w w' s h e := by
 by_cases hle : 18 + h.name ≤ s.size
 ·cases hm : h.map with
  | false => exact refTgaMap_none hle hm hh.n1 hs
  | true =>
   by_cases hf : 18 + h.name + tgaEntry h.entry * h.count ≤ s.size
   ·by_cases hd : h.mapped
    ·exact refTgaMap_ents hle hm (hh.e1 hm) hh.c2 hf hd hh.n1 hs
    ·exact refTgaMap_un hle hm (hh.e1 hm) hh.c2 hf hd hh.n1 hs
   ·exact refTgaMap_less hle hm (hh.e1 hm) hh.c2 hf hh.n1 hs
 ·exact refTgaMap_short (by omega) hh.n1 hs
end Go.Proofs.YtlehkgkomjojmaaGreat
