/- tga.Write: where nothing is written. tga.Write: what stands while pixels are written. -/
import Derived.Test.YtlehkgkomjojmaaGreatGTgaKd
import Derived.Test.YtlehkgkomjojmaaGreatGFfM
import Derived.Test.YtlehkgkomjojmaaGreatGTga2
import Derived.Test.YtlehkgkomjojmaaGreatGTgaB
namespace Go.Proofs.YtlehkgkomjojmaaGreat
open Go.RowKit
set_option linter.unusedVariables false
set_option linter.unusedSimpArgs false

set_option maxRecDepth 100000 in
set_option maxHeartbeats 2000000 in
theorem tgaWrite_arg {b al : Int} {pk l p : Bool} {nm : ByteArray} {W H : Int} {a : Option Addr} {n c : Nat} (hn : nm.size ≤ 300) (hno : ¬ TgaMay b al nm.size) (w : World) :
  Calls Tryz.prog 23 #[.agg #[.int .i64 W, .int .i64 H, .slice a n c], optV pk b al l p nm] w fun e w' => e = .returned (.tuple #[.string ⟨#[]⟩, .int .i64 1]) ∧ Below w.heap.size w w' := by
 have HR0 := fun w => optRightC (pk := pk) (b := b) (al := al) (l := l) (p := p) (nm := nm) hn w
 rw [decide_eq_false hno] at HR0
 unfold optV at HR0 ⊢
 have HR := Lib.hid HR0
 clear HR0 hno
 go_enter Tryz.func23, Tryz.ntmps23
 go_wp2_with (go_at_call 65; refine (HR.out _).mono ?_; rintro e w1 ⟨rfl, b1⟩)
 exact bodyPost_ret (v := .tuple #[.string ⟨#[]⟩, .int .i64 1]) (by simp [results, Tryz.results23, go_sem]) rfl ⟨rfl, below_next (((Below.refl w.heap.size w).alloc (Nat.le_refl _) _).alloc (by simp) _) b1⟩
set_option maxRecDepth 100000 in
set_option maxHeartbeats 2000000 in
theorem tgaWrite_size {b al : Int} {pk l p : Bool} {nm : ByteArray} {W H : Int} {a : Option Addr} {n c : Nat} (hn : nm.size ≤ 300) (hmay : TgaMay b al nm.size) (hno : ¬ RightP W H n) (w : World) :
  Calls Tryz.prog 23 #[.agg #[.int .i64 W, .int .i64 H, .slice a n c], optV pk b al l p nm] w fun e w' => e = .returned (.tuple #[.string ⟨#[]⟩, .int .i64 11]) ∧ Below w.heap.size w w' := by
 have HR0 := fun w => optRightC (pk := pk) (b := b) (al := al) (l := l) (p := p) (nm := nm) hn w
 rw [decide_eq_true hmay] at HR0
 unfold optV at HR0 ⊢
 have HR := Lib.hid HR0
 have HG := Lib.hid (fun w => right_bool (W := W) (H := H) (n := n) (b := false) (decide_eq_false hno) (a := a) (c := c) w)
 clear HR0 hno hmay
 go_enter Tryz.func23, Tryz.ntmps23
 go_wp2_with (first
  | (go_at_call 65; refine (HR.out _).mono ?_; rintro e w1 ⟨rfl, b1⟩; have I1 : Blk w1 w.heap.size 24 #[.int .i64 W, .int .i64 H, .slice a n c] := Blk.below (Blk.alloc (Blk.new _ _ _) _) b1 (by simp; omega); have i0 : w1.cell? ⟨w.heap.size, 0, none⟩ = some (.int .i64 W) := Blk.cell I1 0; have i1 : w1.cell? ⟨w.heap.size, 1, none⟩ = some (.int .i64 H) := Blk.cell I1 1; have i2 : w1.cell? ⟨w.heap.size, 2, none⟩ = some (.slice a n c) := Blk.cell I1 2)
  | (go_at_call 28; refine (HG.out _).mono ?_; rintro e w2 ⟨rfl, b2⟩))
 exact bodyPost_ret (v := .tuple #[.string ⟨#[]⟩, .int .i64 11]) (by simp [results, Tryz.results23, go_sem]) rfl ⟨rfl, below_next (below_next (((Below.refl w.heap.size w).alloc (Nat.le_refl _) _).alloc (by simp) _) b1) b2⟩
end Go.Proofs.YtlehkgkomjojmaaGreat
namespace Go.Proofs.YtlehkgkomjojmaaGreat
open Go.RowKit
set_option linter.unusedVariables false
set_option linter.unusedSimpArgs false

theorem infoSt : (Tryz.prog.info? 9).map (fun i => (i.zero, i.size, i.bytes)) = some (some (.string ⟨#[]⟩), 1, 16) := by kernel_rfl
def wrC (L : List ByteArray) (N : Nat) : Array Value := (L.map Value.string ++ List.replicate (N - L.length) (Value.string ⟨#[]⟩)).toArray
theorem wrC_made (N : Nat) : madeCells #[.string ⟨#[]⟩] N = wrC [] N := by
 apply Array.ext
 ·simp [madeCells, wrC]
 ·intro i h1 h2
  simp [madeCells, wrC, Nat.mod_one]
theorem wrC_set {L : List ByteArray} {N : Nat} (s : ByteArray) (h : L.length < N) : (wrC L N).setIfInBounds L.length (.string s) = wrC (L ++ [s]) N := by
 unfold wrC
 apply Array.toList_inj.1
 rw [Array.toList_setIfInBounds, List.toList_toArray, List.toList_toArray]
 obtain ⟨d, hd⟩ : ∃ d, N - L.length = d + 1 := ⟨N - L.length - 1, by omega⟩
 have hd2 : N - (L ++ [s]).length = d := by rw [List.length_append, List.length_singleton]; omega
 rw [hd, hd2, List.replicate_succ]
 have e : (L.map Value.string).length = L.length := List.length_map _
 conv => lhs; rw [← e]
 rw [List.set_append_right _ _ (Nat.le_refl _), Nat.sub_self, List.set_cons_zero, List.map_append]
 simp
/-- the colour of a place in an image's bytes -/
def qcAt (l : List UInt8) (i : Nat) : Qc := ⟨l.getD (4 * i) 0, l.getD (4 * i + 1) 0, l.getD (4 * i + 2) 0, l.getD (4 * i + 3) 0⟩
theorem qcAt_take {l : List UInt8} {i : Nat} (h : 4 * i + 4 ≤ l.length) : (l.drop (4 * i)).take 4 = [(qcAt l i).r, (qcAt l i).g, (qcAt l i).b, (qcAt l i).a] := by
 have g : ∀ k, k < 4 → (l.drop (4 * i))[k]? = some (l.getD (4 * i + k) 0) := fun k hk => by
  rw [List.getElem?_drop, List.getD_eq_getElem?_getD, List.getElem?_eq_getElem (by omega)]; rfl
 apply List.ext_getElem?
 intro k
 by_cases hk : k < 4
 ·rw [List.getElem?_take_of_lt hk, g k hk]
  match k, hk with
  | 0, _ => rfl
  | 1, _ => rfl
  | 2, _ => rfl
  | 3, _ => rfl
 ·rw [List.getElem?_eq_none (by rw [List.length_take]; omega), List.getElem?_eq_none (by simp; omega)]
/-- the head that a file is written by -/
def wrHd (nm : ByteArray) (pk : Bool) (n al W H : Nat) (lf tp : Bool) : TgaHd := ⟨nm.size, false, tgaTyp pk (n : Int), 0, 0, 0, W, H, n, al, lf, tp⟩
/-- the bytes of the pixels, as they stand in a file -/
def WrOk (h : TgaHd) (l : List UInt8) (n al : Nat) (L : List ByteArray) : Prop := ∀ k s, L[k]? = some s → s.size = (n + 7) / 8 ∧ tgaPxOf s n al = qcAt l (h.place k)
theorem wr_in {nm : ByteArray} {pk : Bool} {n al W H : Nat} {lf tp : Bool} {k X Y : Nat} (hw : 1 ≤ W) (hh : 1 ≤ H) (hk : k < W * H) (hX : (wrHd nm pk n al W H lf tp).col k = X) (hY : (wrHd nm pk n al W H lf tp).rw k = Y) : X < W ∧ Y < H := by
 have q : k / W < H := Nat.div_lt_of_lt_mul hk
 have r : k % W < W := Nat.mod_lt _ (by omega)
 have eX : X = if lf then W - 1 - k % W else k % W := hX.symm
 have eY : Y = if tp then k / W else H - 1 - k / W := hY.symm
 rw [eX, eY]
 generalize k / W = y at q ⊢
 generalize k % W = x at r ⊢
 constructor
 ·split <;> omega
 ·split <;> omega
structure TwrI (w0 w : World) (pk : Bool) (n al : Nat) (lf tp : Bool) (nm : ByteArray) (W H t : Nat) (a : Option Addr) (m c kh ks N : Nat) (l : List UInt8) (L : List ByteArray) : Prop where
 I : Blk w w0.heap.size 24 #[.int .i64 (W : Int), .int .i64 (H : Int), .slice a m c]
 O : Blk w (w0.heap.size + 1) 56 #[.bool pk, .int .i64 (n : Int), .int .i64 (al : Int), .bool lf, .bool tp, .string nm]
 H : Blk w kh 121 #[.int .i64 (nm.size : Int), .bool false, .int .i64 (t : Int), .int .i64 0, .int .i64 0, .int .i64 0, .int .i64 (W : Int), .int .i64 (H : Int), .int .i64 (n : Int), .int .i64 (al : Int), .bool lf, .bool tp]
 S : Blk w ks 9 (wrC L N)
 A : BytesAt w a m l
 B : Below w0.heap.size w0 w
 ge : w0.heap.size ≤ ks
section
variable {w0 w w' : World} {pk : Bool} {n al : Nat} {lf tp : Bool} {nm : ByteArray} {W H t : Nat} {a : Option Addr} {m c kh ks N : Nat} {l : List UInt8} {L : List ByteArray}
theorem TwrI.below (X : TwrI w0 w pk n al lf tp nm W H t a m c kh ks N l L) (b : Below w.heap.size w w') : TwrI w0 w' pk n al lf tp nm W H t a m c kh ks N l L :=
 ⟨Blk.below X.I b (Blk.lt X.I), Blk.below X.O b (Blk.lt X.O), Blk.below X.H b (Blk.lt X.H), Blk.below X.S b (Blk.lt X.S), X.A.below b, below_next X.B b, X.ge⟩
theorem TwrI.store (X : TwrI w0 w pk n al lf tp nm W H t a m c kh ks N l L) {i : Nat} {s : ByteArray} (hL : L.length = i) (hi : i < N) : TwrI w0 (w.setCell ⟨ks, i, none⟩ (.string s)) pk n al lf tp nm W H t a m c kh ks N l (L ++ [s]) := by
 subst hL
 refine ⟨Blk.far X.I (p := ⟨ks, L.length, none⟩) (Blk.ne_ X.I X.S (by decide)) _, Blk.far X.O (p := ⟨ks, L.length, none⟩) (Blk.ne_ X.O X.S (by decide)) _, Blk.far X.H (p := ⟨ks, L.length, none⟩) (Blk.ne_ X.H X.S (by decide)) _, (Blk.set_ X.S L.length _).eq_ (wrC_set s hi), ?_, below_set X.B X.ge, X.ge⟩
 obtain ⟨h1, h2⟩ := X.A
 refine ⟨h1, h2.imp id ?_⟩
 rintro ⟨b, o, rfl, hc⟩
 refine ⟨b, o, rfl, fun j hj => ?_⟩
 have hne : ks ≠ b := by
  rintro rfl
  have e1 := hc j hj
  rw [Blk.cell X.S] at e1
  unfold wrC at e1
  rw [List.getElem?_toArray] at e1
  have := List.mem_of_getElem? e1
  simp [List.mem_append, List.mem_replicate] at this
 exact (World.cell?_setCell_far w ⟨ks, L.length, none⟩ ⟨b, o + j, none⟩ _ hne).trans (hc j hj)
end
end Go.Proofs.YtlehkgkomjojmaaGreat
