/- tgarle: a filler of a raster: how many pixels lack; a pixel is put in so many times. -/
import Derived.Test.YtlehkgkomjojmaaGreatSq
import Derived.Test.YtlehkgkomjojmaaGreatGTgaH
import Derived.Deep.RegionWith
namespace Go.Proofs.YtlehkgkomjojmaaGreat
open Go.RowKit
set_option linter.unusedVariables false
set_option linter.unusedSimpArgs false

def tgaXs (p : Nat) (h : TgaHd) (lv : Value) (r k : Nat) : Array Value := #[.pointer (some ⟨p, 0, none⟩), .int .i64 (h.name : Int), .bool h.map, .int .i64 (h.typ : Int), .int .i64 (h.first : Int), .int .i64 (h.count : Int), .int .i64 (h.entry : Int), .int .i64 (h.W : Int), .int .i64 (h.H : Int), .int .i64 (h.depth : Int), .int .i64 (h.alpha : Int), .bool h.left, .bool h.top, lv, .pointer (some ⟨r, 0, none⟩), .int .i64 (k : Int)]
def XF (w : World) (x p : Nat) (h : TgaHd) (lv : Value) (r k : Nat) : Prop := Blk w x 251 (tgaXs p h lv r k)
theorem XF.all {w : World} {x p : Nat} {h : TgaHd} {lv : Value} {r k : Nat} (H : XF w x p h lv r k) : w.cell? ⟨x, 0, none⟩ = some (.pointer (some ⟨p, 0, none⟩)) ∧ w.cell? ⟨x, 1, none⟩ = some (.int .i64 (h.name : Int)) ∧ w.cell? ⟨x, 2, none⟩ = some (.bool h.map) ∧ w.cell? ⟨x, 3, none⟩ = some (.int .i64 (h.typ : Int)) ∧ w.cell? ⟨x, 4, none⟩ = some (.int .i64 (h.first : Int)) ∧ w.cell? ⟨x, 5, none⟩ = some (.int .i64 (h.count : Int)) ∧ w.cell? ⟨x, 6, none⟩ = some (.int .i64 (h.entry : Int)) ∧ w.cell? ⟨x, 7, none⟩ = some (.int .i64 (h.W : Int)) ∧ w.cell? ⟨x, 8, none⟩ = some (.int .i64 (h.H : Int)) ∧ w.cell? ⟨x, 9, none⟩ = some (.int .i64 (h.depth : Int)) ∧ w.cell? ⟨x, 10, none⟩ = some (.int .i64 (h.alpha : Int)) ∧ w.cell? ⟨x, 11, none⟩ = some (.bool h.left) ∧ w.cell? ⟨x, 12, none⟩ = some (.bool h.top) ∧ w.cell? ⟨x, 13, none⟩ = some lv ∧ w.cell? ⟨x, 14, none⟩ = some (.pointer (some ⟨r, 0, none⟩)) ∧ w.cell? ⟨x, 15, none⟩ = some (.int .i64 (k : Int)) ∧ w.frozen? ⟨x, 15, none⟩ = false ∧ x < w.heap.size :=
  ⟨Blk.cell H 0, Blk.cell H 1, Blk.cell H 2, Blk.cell H 3, Blk.cell H 4, Blk.cell H 5, Blk.cell H 6, Blk.cell H 7, Blk.cell H 8, Blk.cell H 9, Blk.cell H 10, Blk.cell H 11, Blk.cell H 12, Blk.cell H 13, Blk.cell H 14, Blk.cell H 15, Blk.frozen H 15, Blk.lt H⟩
/-- a map, or none, beside a raster's bytes -/
def TPalX (w : World) (g : Nat) (h : TgaHd) (lv : Value) (M : List Qc) (d : Nat) : Prop :=
  (¬ h.mapped ∧ lv = .pointer none ∧ M = []) ∨ (h.mapped ∧ h.count ≤ 65535 ∧ M.length = h.count ∧ ∃ l b' d', lv = .pointer (some ⟨l, 0, none⟩) ∧ PalHas w l b' g d' h.count M ∧ d' ≠ d)
theorem TPalX.tp {w : World} {g : Nat} {h : TgaHd} {lv : Value} {M : List Qc} {d : Nat} (P : TPalX w g h lv M d) : ∃ m, TPal w g h lv M m 0 := by
  rcases P with ⟨h1, h2, h3⟩ | ⟨h1, h2, h3, l, b', d', h4, h5, h6⟩
  · exact ⟨0, .inl ⟨h1, h2, h3, rfl⟩⟩
  · exact ⟨4 * h.count, .inr ⟨h1, h2, h3, rfl, l, b', d', h4, h5, Nat.zero_le _, Nat.zero_le _, Nat.zero_le _⟩⟩
/-- a block that is no map's -/
def NoPal (w : World) (i : Nat) : Prop := ∃ t cs, Blk w i t cs ∧ t ≠ 232 ∧ t ≠ 225 ∧ t ≠ 5
theorem TPalX.turn {w w' : World} {g : Nat} {h : TgaHd} {lv : Value} {M : List Qc} {d : Nat} {S : List Nat} (P : TPalX w g h lv M d) (k : Turn S w w') (hS : ∀ i ∈ S, NoPal w i ∨ (i = d ∧ ∃ cs, Blk w d 5 cs)) : TPalX w' g h lv M d := by
  rcases P with ⟨h1, h2, h3⟩ | ⟨h1, h2, h3, l, b', d', h4, h5, h6⟩
  · exact .inl ⟨h1, h2, h3⟩
  · obtain ⟨k1, kl, rest, k3, kr⟩ := h5
    have f : ∀ i ∈ S, l ≠ i ∧ b' ≠ i ∧ d' ≠ i := fun i hi => by
      rcases hS i hi with ⟨t, cs, hb, n1, n2, n3⟩ | ⟨rfl, cs, hb⟩
      · exact ⟨Blk.ne_ k1 hb n1.symm, Blk.ne_ k3.blk hb n2.symm, Blk.ne_ k3.row hb n3.symm⟩
      · exact ⟨Blk.ne_ k1 hb (by decide), Blk.ne_ k3.blk hb (by decide), h6⟩
    exact .inr ⟨h1, h2, h3, l, b', d', h4, PalHas.turn ⟨k1, kl, rest, k3, kr⟩ k (fun e => (f l e).1 rfl) (fun e => (f b' e).2.1 rfl) (fun e => (f d' e).2.2 rfl), h6⟩
/-- a filler at work -/
structure TX (w0 w : World) (p g x r b d : Nat) (s : ByteArray) (h : TgaHd) (lv : Value) (M : List Qc) (a k : Nat) (L : List Qc) (y : Led) : Prop where
  S : SrcAt w p g s 0 s.size a
  G : LedAt w g y
  X : XF w x p h lv r k
  R : RasAt w r g b (h.W : Int) (h.H : Int) true
  D : BufAt w b g d (flat (tgaPerm h L))
  P : TPalX w g h lv M d
  T : Turn [p, g, x, d] w0 w
  ok : y.Ok
  ha : a ≤ s.size
  hL : L.length ≤ h.W * h.H
section
variable {w0 w w' : World} {p g x r b d : Nat} {s : ByteArray} {h : TgaHd} {lv : Value} {M : List Qc} {a k a' k' : Nat} {L L' : List Qc} {y y' : Led}
theorem TX.np_p (I : TX w0 w p g x r b d s h lv M a k L y) : NoPal w p := ⟨_, _, I.S, by decide, by decide, by decide⟩
theorem TX.np_g (I : TX w0 w p g x r b d s h lv M a k L y) : NoPal w g := ⟨_, _, I.G, by decide, by decide, by decide⟩
theorem TX.np_x (I : TX w0 w p g x r b d s h lv M a k L y) : NoPal w x := ⟨_, _, I.X, by decide, by decide, by decide⟩
theorem TX.read (I : TX w0 w p g x r b d s h lv M a k L y) (u : Turn [p, g] w w') (S' : SrcAt w' p g s 0 s.size a') (G' : LedAt w' g y') (ok' : y'.Ok) (ha' : a' ≤ s.size) : TX w0 w' p g x r b d s h lv M a' k L y' := by
  have I0 := I
  obtain ⟨S, G, X, R, D, P, T, ok, ha, hL⟩ := I
  refine ⟨S', G', Blk.turn X u ?_, Blk.turn R u ?_, D.turn u ?_ ?_, P.turn u ?_, T.trans (u.mono (by simp)), ok', ha', hL⟩
  · simp only [List.mem_cons, List.not_mem_nil, or_false, not_or]; exact ⟨Blk.ne_ X S (by decide), Blk.ne_ X G (by decide)⟩
  · simp only [List.mem_cons, List.not_mem_nil, or_false, not_or]; exact ⟨Blk.ne_ R S (by decide), Blk.ne_ R G (by decide)⟩
  · simp only [List.mem_cons, List.not_mem_nil, or_false, not_or]; exact ⟨Blk.ne_ D.blk S (by decide), Blk.ne_ D.blk G (by decide)⟩
  · simp only [List.mem_cons, List.not_mem_nil, or_false, not_or]; exact ⟨Blk.ne_ D.row S (by decide), Blk.ne_ D.row G (by decide)⟩
  · intro i hi
    simp only [List.mem_cons, List.not_mem_nil, or_false] at hi
    rcases hi with rfl | rfl
    · exact .inl I0.np_p
    · exact .inl I0.np_g
theorem TX.below (I : TX w0 w p g x r b d s h lv M a k L y) (u : Below w.heap.size w w') : TX w0 w' p g x r b d s h lv M a k L y :=
  I.read (Turn.of_below u) (Blk.below I.S u (Blk.lt I.S)) (Blk.below I.G u (Blk.lt I.G)) I.ok I.ha
theorem TX.alloc (I : TX w0 w p g x r b d s h lv M a k L y) (o : Obj) : TX w0 (w.alloc o) p g x r b d s h lv M a k L y := I.below ((Below.refl _ _).alloc (Nat.le_refl _) _)
theorem TX.drew (I : TX w0 w p g x r b d s h lv M a k L y) : TX w0 w.drew p g x r b d s h lv M a k L y := I.read ((Turn.refl _ _).drew) (Blk.drew I.S) (Blk.drew I.G) I.ok I.ha
theorem TX.led (I : TX w0 w p g x r b d s h lv M a k L y) (u : Turn [g] w w') (G' : LedAt w' g y') (ok' : y'.Ok) : TX w0 w' p g x r b d s h lv M a k L y' :=
  I.read (u.mono (by simp)) (I.S.turn u (by simpa using Blk.ne_ I.S I.G (by decide))) G' ok' I.ha
theorem TX.set (I : TX w0 w p g x r b d s h lv M a k L y) (u : Turn [g, d] w w') (D' : BufAt w' b g d (flat (tgaPerm h L'))) (G' : LedAt w' g y') (ok' : y'.Ok) (hL' : L'.length ≤ h.W * h.H) : TX w0 w' p g x r b d s h lv M a k L' y' := by
  have I0 := I
  obtain ⟨S, G, X, R, D, P, T, ok, ha, hL⟩ := I
  refine ⟨S.turn u ?_, G', Blk.turn X u ?_, Blk.turn R u ?_, D', P.turn u ?_, T.trans (u.mono (by simp)), ok', ha, hL'⟩
  · simp only [List.mem_cons, List.not_mem_nil, or_false, not_or]; exact ⟨Blk.ne_ S G (by decide), Blk.ne_ S D.row (by decide)⟩
  · simp only [List.mem_cons, List.not_mem_nil, or_false, not_or]; exact ⟨Blk.ne_ X G (by decide), Blk.ne_ X D.row (by decide)⟩
  · simp only [List.mem_cons, List.not_mem_nil, or_false, not_or]; exact ⟨Blk.ne_ R G (by decide), Blk.ne_ R D.row (by decide)⟩
  · intro i hi
    simp only [List.mem_cons, List.not_mem_nil, or_false] at hi
    rcases hi with rfl | rfl
    · exact .inl I0.np_g
    · exact .inr ⟨rfl, _, D.row⟩
theorem TX.count (I : TX w0 w p g x r b d s h lv M a k L y) (k' : Nat) : TX w0 (w.setCell ⟨x, 15, none⟩ (.int .i64 (k' : Int))) p g x r b d s h lv M a k' L y := by
  have I0 := I
  obtain ⟨S, G, X, R, D, P, T, ok, ha, hL⟩ := I
  have u : Turn [x] w (w.setCell ⟨x, 15, none⟩ (.int .i64 (k' : Int))) := (Turn.refl _ _).set_ 15 _ (.inl (by simp))
  refine ⟨S.turn u ?_, G.turn u ?_, (Blk.set_ X 15 _).eq_ (by simp [tgaXs]), Blk.turn R u ?_, D.turn u ?_ ?_, P.turn u ?_, T.trans (u.mono (by simp)), ok, ha, hL⟩
  · simpa using Blk.ne_ S X (by decide)
  · simpa using Blk.ne_ G X (by decide)
  · simpa using Blk.ne_ R X (by decide)
  · simpa using Blk.ne_ D.blk X (by decide)
  · simpa using Blk.ne_ D.row X (by decide)
  · intro i hi
    simp only [List.mem_cons, List.not_mem_nil, or_false] at hi
    subst hi
    exact .inl I0.np_x
/-- a step on a new block of another type -/
theorem TX.own (I : TX w0 w p g x r b d s h lv M a k L y) {q : Nat} {tt : TypeId} {cs : Array Value} (hq : Blk w q tt cs) (hn : w0.heap.size ≤ q) (u : Turn [q] w w') (h1 : tt ≠ 162) (h2 : tt ≠ 160) (h3 : tt ≠ 165) (h4 : tt ≠ 225) (h5 : tt ≠ 5) (h6 : tt ≠ 232) (h7 : tt ≠ 251) : TX w0 w' p g x r b d s h lv M a k L y := by
  obtain ⟨S, G, X, R, D, P, T, ok, ha, hL⟩ := I
  refine ⟨S.turn u (by simpa using Blk.ne_ S hq h1.symm), G.turn u (by simpa using Blk.ne_ G hq h2.symm), Blk.turn X u (by simpa using Blk.ne_ X hq h7.symm), Blk.turn R u (by simpa using Blk.ne_ R hq h3.symm), D.turn u (by simpa using Blk.ne_ D.blk hq h4.symm) (by simpa using Blk.ne_ D.row hq h5.symm), P.turn u ?_, T.next u (fun i hi => .inr (by simp only [List.mem_cons, List.not_mem_nil, or_false] at hi; omega)), ok, ha, hL⟩
  intro i hi
  simp only [List.mem_cons, List.not_mem_nil, or_false] at hi
  subst hi
  exact .inl ⟨tt, cs, hq, h6, h4, h5⟩
theorem TX.st3 (I : TX w0 w p g x r b d s h lv M a k L y) {q : Nat} {cs : Array Value} {u v e : Value} (hq : Blk w q 34 cs) (hn : w0.heap.size ≤ q) : TX w0 (st3 w q u v e) p g x r b d s h lv M a k L y :=
  I.own hq hn (Turn.st3 (Turn.refl [q] _) (.inl (by simp))) (by decide) (by decide) (by decide) (by decide) (by decide) (by decide) (by decide)
theorem TX.st4 (I : TX w0 w p g x r b d s h lv M a k L y) {q : Nat} {cs : Array Value} {c0 c1 c2 c3 : Int} (hq : Blk w q 68 cs) (hn : w0.heap.size ≤ q) : TX w0 (st4 w q c0 c1 c2 c3) p g x r b d s h lv M a k L y :=
  I.own hq hn (Turn.st4 (Turn.refl [q] _) (.inl (by simp))) (by decide) (by decide) (by decide) (by decide) (by decide) (by decide) (by decide)
/-- seen from a later beginning -/
theorem TX.from_ (I : TX w0 w p g x r b d s h lv M a k L y) : TX w w p g x r b d s h lv M a k L y := ⟨I.S, I.G, I.X, I.R, I.D, I.P, Turn.refl _ _, I.ok, I.ha, I.hL⟩
theorem TX.to_ (I : TX w w' p g x r b d s h lv M a k L y) (T : Turn [p, g, x, d] w0 w) : TX w0 w' p g x r b d s h lv M a k L y := ⟨I.S, I.G, I.X, I.R, I.D, I.P, T.trans I.T, I.ok, I.ha, I.hL⟩
set_option maxHeartbeats 1000000 in
theorem tgaLeftC {n N : Nat} (X : XF w x p h lv r k) (hN : h.W * h.H = N) (hk : k + n = N) (hB : N ≤ 268435456) : Calls Tryz.prog 180 #[.pointer (some ⟨x, 0, none⟩)] w fun e w' => e = .returned (.int .i64 (n : Int)) ∧ w' = w.drew := by
  have c7 := Blk.cell X 7
  have c8 := Blk.cell X 8
  have c15 := Blk.cell X 15
  have cl := Blk.lt X
  have d7 : w.cell? ⟨x, 7, none⟩ = some (.int .i64 (h.W : Int)) := c7
  have d8 : w.cell? ⟨x, 8, none⟩ = some (.int .i64 (h.H : Int)) := c8
  have d15 : w.cell? ⟨x, 15, none⟩ = some (.int .i64 (k : Int)) := c15
  have hNI : IntKind.i64.wrap ((h.W : Int) * (h.H : Int)) = (N : Int) := by rw [← Int.natCast_mul, hN]; exact IntWalk.i64_in _ (by omega)
  have hs : (N : Int) - (k : Int) = (n : Int) := by omega
  have hNB : (N : Int) ≤ 268435456 := by omega
  have hkB : (k : Int) ≤ 268435456 := by omega
  clear X c7 c8 c15 hN hk
  go_enter Tryz.func180, Tryz.ntmps180
  go_upto_region 1 with fail
  go_region
  go_wp2_with fail
  go_ret
  exact ⟨rfl, rfl⟩
end
theorem tgaColRw {h : TgaHd} {k X Y : Nat} (w1 : 1 ≤ h.W) (hk : k < h.W * h.H) (hX : h.col k = X) (hY : h.rw k = Y) : X < h.W ∧ Y < h.H ∧ h.place k = Y * h.W + X := by
  have q : k / h.W < h.H := Nat.div_lt_of_lt_mul hk
  have r : k % h.W < h.W := Nat.mod_lt _ (by omega)
  unfold TgaHd.col at hX
  unfold TgaHd.rw at hY
  unfold TgaHd.place
  rw [hX, hY]
  generalize k / h.W = u at q hY
  generalize k % h.W = v at r hX
  exact ⟨by rw [← hX]; split <;> omega, by rw [← hY]; split <;> omega, rfl⟩
theorem rasSetU {w : World} {r g b d : Nat} {l : List UInt8} {x : Led} {X Y W H P : Nat} {q : Qc} (h : RasAt w r g b (W : Int) (H : Int) true) (hm : BufAt w b g d l) (hL : LedAt w g x) (ok : x.Ok) (hx : x.reason = 0) (hX : X < W) (hY : Y < H) (hP : P = Y * W + X) (hW : W ≤ 16384) (hH : H ≤ 16384) (hl : l.length = 4 * (W * H)) :
    Calls Tryz.prog 109 #[.pointer (some ⟨r, 0, none⟩), .int .i64 (X : Int), .int .i64 (Y : Int), q.v] w fun e w' => ∃ v, e = .returned (.bool v) ∧ ∃ y, LedAt w' g y ∧ y.Ok ∧ y.bytes = x.bytes ∧
      ((v = false ∧ Turn [g] w w' ∧ y.reason ≠ 0 ∧ ∀ z a k, (Dec.work 1 z a k).run x = ((y.give (z : Int)).1, .bad 4 a)) ∨
       (v = true ∧ Turn [g, d] w w' ∧ BufAt w' b g d (over l (4 * (Y * W + X)) [q.r, q.g, q.b, q.a]) ∧ y.reason = 0 ∧ ∀ z a k, (Dec.work 1 z a k).run x = k.run y)) := by
  have h1 : Y * W + W ≤ W * H := by
    have := Nat.mul_le_mul_left W (show Y + 1 ≤ H from hY)
    rw [Nat.mul_add, Nat.mul_one, Nat.mul_comm W Y] at this
    exact this
  have h2 : W * H ≤ 16384 * 16384 := Nat.mul_le_mul hW hH
  refine (rasSet_ways (c0 := q.r) (c1 := q.g) (c2 := q.b) (c3 := q.a) h hm hL ok hx hX hY rfl rfl (by omega) hW hH (by omega) (by omega)).mono ?_
  rintro e w' ⟨y, q1, q2, q3, hor⟩
  rcases hor with ⟨rfl, h4, h5, h6⟩ | ⟨rfl, h4, h5, h6, h7⟩
  · exact ⟨false, rfl, y, q1, q2, q3, .inl ⟨rfl, h4, h5, h6⟩⟩
  · exact ⟨true, rfl, y, q1, q2, q3, .inr ⟨rfl, h4, h5, h6, h7⟩⟩
def TPutPost (w w' : World) (p g x r b d : Nat) (s : ByteArray) (h : TgaHd) (lv : Value) (M : List Qc) (a n : Nat) (L : List Qc) (q : Qc) (y : Led) (e : Ending) : Prop :=
  ∃ y' L', TX w w' p g x r b d s h lv M a L'.length L' y' ∧ y'.bytes = y.bytes ∧
    ((e = .returned (tFlt 4 a) ∧ y'.reason ≠ 0 ∧ ∀ z k, (tgaPuts z a n L q k).run y = ((y'.give (z : Int)).1, .bad 4 a)) ∨
     (e = .returned tFlt0 ∧ L' = L ++ List.replicate n q ∧ y'.reason = 0 ∧ ∀ z k, (tgaPuts z a n L q k).run y = (k L').run y'))
set_option maxRecDepth 100000 in
set_option maxHeartbeats 4000000 in
theorem tgaPutC {w : World} {p g x r b d : Nat} {s : ByteArray} {h : TgaHd} {lv : Value} {M : List Qc} {a n : Nat} {L : List Qc} {q : Qc} {y : Led} (hh : h.Ok) (I0 : TX w w p g x r b d s h lv M a L.length L y) (hr : y.reason = 0) (hn : L.length + n ≤ h.W * h.H) :
    Calls Tryz.prog 199 #[.pointer (some ⟨x, 0, none⟩), q.v, .int .i64 (n : Int)] w fun e w' => TPutPost w w' p g x r b d s h lv M a n L q y e := by
  have I1 := (I0.alloc (.cells #[.int .u8 (q.r.toNat : Int), .int .u8 (q.g.toNat : Int), .int .u8 (q.b.toNat : Int), .int .u8 (q.a.toNat : Int)] 68)).alloc (.cells #[.int .i64 0, .int .i64 0, .int .i64 0] 34)
  have C1 : Blk ((w.alloc (.cells #[.int .u8 (q.r.toNat : Int), .int .u8 (q.g.toNat : Int), .int .u8 (q.b.toNat : Int), .int .u8 (q.a.toNat : Int)] 68)).alloc (.cells #[.int .i64 0, .int .i64 0, .int .i64 0] 34)) w.heap.size 68 #[.int .u8 (q.r.toNat : Int), .int .u8 (q.g.toNat : Int), .int .u8 (q.b.toNat : Int), .int .u8 (q.a.toNat : Int)] := Blk.alloc (Blk.new _ _ _) _
  have F1 : FB ((w.alloc (.cells #[.int .u8 (q.r.toNat : Int), .int .u8 (q.g.toNat : Int), .int .u8 (q.b.toNat : Int), .int .u8 (q.a.toNat : Int)] 68)).alloc (.cells #[.int .i64 0, .int .i64 0, .int .i64 0] 34)) (w.heap.size + 1) 0 0 0 := Blk.new_at _ _ _ (by simp)
  have hxl := Blk.lt I0.X
  have hP : h.W * h.H ≤ 16384 * 16384 := Nat.mul_le_mul hh.w2 hh.h2
  obtain ⟨N, hN⟩ : ∃ N, h.W * h.H = N := ⟨_, rfl⟩
  rw [hN] at hP hn
  have HN := Lib.hid hN
  have HH := Lib.hid hh
  have hnB : (n : Int) ≤ 268435456 := by omega
  have hfl : w.heap.size ≤ w.heap.size + 1 := by omega
  clear hN I0
  unfold Qc.v
  go_enter Tryz.func199, Tryz.ntmps199
  go_upto_region 1 with fail
  generalize (w.alloc (.cells #[.int .u8 (q.r.toNat : Int), .int .u8 (q.g.toNat : Int), .int .u8 (q.b.toNat : Int), .int .u8 (q.a.toNat : Int)] 68)).alloc (.cells #[.int .i64 0, .int .i64 0, .int .i64 0] 34) = w1 at I1 C1 F1 ⊢
  have HI : Hid (TX w w1 p g x r b d s h lv M a L.length L y ∧ Blk w1 w.heap.size 68 #[.int .u8 (q.r.toNat : Int), .int .u8 (q.g.toNat : Int), .int .u8 (q.b.toNat : Int), .int .u8 (q.a.toNat : Int)] ∧ FB w1 (w.heap.size + 1) 0 0 0 ∧ y.reason = 0) := Lib.hid ⟨I1, C1, F1, hr⟩
  clear I1 C1 F1 hr
  go_wp2_with fail
  go_loopg [10] n (fun gh v wr => ∃ (i gk : Nat) (y' : Led) (L' : List Qc), gk = gh ∧ i + gk = n ∧ v = .int .i64 (i : Int) ∧ Hid (L' = L ++ List.replicate i q) ∧ Hid (TX w wr p g x r b d s h lv M a L'.length L' y' ∧ Blk wr w.heap.size 68 #[.int .u8 (q.r.toNat : Int), .int .u8 (q.g.toNat : Int), .int .u8 (q.b.toNat : Int), .int .u8 (q.a.toNat : Int)] ∧ FB wr (w.heap.size + 1) 0 0 0 ∧ y'.reason = 0 ∧ y'.bytes = y.bytes ∧ ∀ z k, (tgaPuts z a n L q k).run y = (tgaPuts z a gk L' q k).run y'))
  case atStart => exact ⟨0, n, y, L, rfl, by omega, rfl, Lib.hid (by simp), Lib.hid ⟨HI.out.1, HI.out.2.1, HI.out.2.2.1, HI.out.2.2.2, rfl, fun _ _ => rfl⟩⟩
  case round =>
    obtain ⟨i, gk, y', L', rfl, hi, rfl, HL', HR⟩ := hrel
    clear HI
    by_cases hin : i < n
    · have hinI : (i : Int) < (n : Int) := by omega
      obtain ⟨j, hj⟩ : ∃ j, L'.length = j := ⟨_, rfl⟩
      have hjl : j = L.length + i := by rw [← hj, HL'.out, List.length_append, List.length_replicate]
      have hjN : j < N := by omega
      have hjB : (j : Int) ≤ 268435456 := by omega
      obtain ⟨X, hX⟩ : ∃ X, h.col j = X := ⟨_, rfl⟩
      obtain ⟨Y, hY⟩ : ∃ Y, h.rw j = Y := ⟨_, rfl⟩
      have HPL := Lib.hid (fun w => tgaPlaceC (h := h) (by rw [HN.out]; exact hjN) HH.out.w1 HH.out.w2 HH.out.h2 hX hY w)
      have hXY := tgaColRw HH.out.w1 (by rw [HN.out]; exact hjN) hX hY
      have HXY := Lib.hid hXY
      have HJ := Lib.hid hj
      have HGK := Lib.hid hi
      have HJL := Lib.hid hjl
      have HR1 := HR.out.1
      rw [hj] at HR1
      have HI1 := Lib.hid HR1
      obtain ⟨c0, c1, c2, c3, c4, c5, c6, c7, c8, c9, c10, c11, c12, c13, c14, c15, c15z, cl⟩ := HR1.X.all
      have hXB : (X : Int) ≤ 16384 := by have := hXY.1; have := HH.out.w2; omega
      have hYB : (Y : Int) ≤ 16384 := by have := hXY.2.1; have := HH.out.h2; omega
      clear hX hY hj hi hjl HR1 hXY
      go_upto_region 3 with fail
      refine wp_region_held_drew (S := (fun w9 => w9.cell? ⟨x, 1, none⟩ = some (.int .i64 (h.name : Int)) ∧ w9.cell? ⟨x, 2, none⟩ = some (.bool h.map) ∧ w9.cell? ⟨x, 3, none⟩ = some (.int .i64 (h.typ : Int)) ∧ w9.cell? ⟨x, 4, none⟩ = some (.int .i64 (h.first : Int)) ∧ w9.cell? ⟨x, 5, none⟩ = some (.int .i64 (h.count : Int)) ∧ w9.cell? ⟨x, 6, none⟩ = some (.int .i64 (h.entry : Int)) ∧ w9.cell? ⟨x, 7, none⟩ = some (.int .i64 (h.W : Int)) ∧ w9.cell? ⟨x, 8, none⟩ = some (.int .i64 (h.H : Int)) ∧ w9.cell? ⟨x, 9, none⟩ = some (.int .i64 (h.depth : Int)) ∧ w9.cell? ⟨x, 10, none⟩ = some (.int .i64 (h.alpha : Int)) ∧ w9.cell? ⟨x, 11, none⟩ = some (.bool h.left) ∧ w9.cell? ⟨x, 12, none⟩ = some (.bool h.top) ∧ w9.cell? ⟨x, 15, none⟩ = some (.int .i64 (j : Int)))) (by kernel_rfl) ⟨c1, c2, c3, c4, c5, c6, c7, c8, c9, c10, c11, c12, c15⟩ (fun hHeld => ?_)
      refine tk 0 ?_
      (try simp only [sps])
      refine tk 1 ?_
      (try simp only [sps])
      refine tk 2 ?_
      (try simp only [sps])
      refine tk 3 ?_
      (try simp only [sps])
      refine tk 4 ?_
      (try simp only [sps])
      refine tk 5 ?_
      (try simp only [sps])
      refine tk 6 ?_
      (try simp only [sps])
      refine tk 7 ?_
      (try simp only [sps])
      refine rdy 8 (fun K hK => ?_)
      go_simp
      have hP0 := HPL.out
      unfold tHdV at hP0
      refine (hP0 _).mono ?_
      clear hP0
      rintro e w2 ⟨rfl, b2⟩
      have I2 := HI1.out.drew.below b2
      refine hK.out _ _ ⟨Blk.cell I2.X 1, Blk.cell I2.X 2, Blk.cell I2.X 3, Blk.cell I2.X 4, Blk.cell I2.X 5, Blk.cell I2.X 6, Blk.cell I2.X 7, Blk.cell I2.X 8, Blk.cell I2.X 9, Blk.cell I2.X 10, Blk.cell I2.X 11, Blk.cell I2.X 12, Blk.cell I2.X 15⟩ ?_
      clear hK K hHeld
      intro hHeld
      (try simp only [sps])
      refine tk 9 ?_
      (try simp only [sps])
      refine tk 10 ?_
      (try simp only [sps])
      refine tk 11 ?_
      (try simp only [sps])
      refine tk 12 ?_
      (try simp only [sps])
      refine tk 13 ?_
      (try simp only [sps])
      refine wpAnyH_done (by kernel_rfl) ?_ _
      (try simp only [sps])
      have C2 : Blk w2 w.heap.size 68 #[.int .u8 (q.r.toNat : Int), .int .u8 (q.g.toNat : Int), .int .u8 (q.b.toNat : Int), .int .u8 (q.a.toNat : Int)] := Blk.below (Blk.drew HR.out.2.1) b2 (Blk.lt HR.out.2.1)
      have F2 : FB w2 (w.heap.size + 1) 0 0 0 := FB.below (Blk.drew HR.out.2.2.1) b2
      clear c0 c1 c2 c3 c4 c5 c6 c7 c8 c9 c10 c11 c12 c13 c14 c15 c15z cl
      obtain ⟨c0, c1, c2, c3, c4, c5, c6, c7, c8, c9, c10, c11, c12, c13, c14, c15, c15z, cl⟩ := I2.X.all
      have q0 := Blk.cell C2 0
      have q1 := Blk.cell C2 1
      have q2 := Blk.cell C2 2
      have q3 := Blk.cell C2 3
      have HI2 := Lib.hid (And.intro I2 (And.intro C2 F2))
      have HST := Lib.hid (rasSetU (q := q) I2.drew.R I2.drew.D I2.drew.G HR.out.1.ok HR.out.2.2.2.1 HXY.out.1 HXY.out.2.1 rfl HH.out.w2 HH.out.h2 (by rw [flat_len, tgaPerm_len]))
      clear I2 C2 F2 b2
      go_upto_region 4 with fail
      refine wp_region_held_drew (S := (fun w9 => w9.cell? ⟨x, 14, none⟩ = some (.pointer (some ⟨r, 0, none⟩)) ∧ w9.cell? ⟨w.heap.size, 0, none⟩ = some (.int .u8 (q.r.toNat : Int)) ∧ w9.cell? ⟨w.heap.size, 1, none⟩ = some (.int .u8 (q.g.toNat : Int)) ∧ w9.cell? ⟨w.heap.size, 2, none⟩ = some (.int .u8 (q.b.toNat : Int)) ∧ w9.cell? ⟨w.heap.size, 3, none⟩ = some (.int .u8 (q.a.toNat : Int)))) (by kernel_rfl) ⟨c14, q0, q1, q2, q3⟩ (fun hHeld => ?_)
      refine tk 0 ?_
      (try simp only [sps])
      refine tk 1 ?_
      (try simp only [sps])
      refine tk 2 ?_
      (try simp only [sps])
      refine tk 3 ?_
      (try simp only [sps])
      refine tk 4 ?_
      (try simp only [sps])
      refine tk 5 ?_
      (try simp only [sps])
      refine tk 6 ?_
      (try simp only [sps])
      refine rdy 7 (fun K hK => ?_)
      go_simp
      have hS0 := HST.out
      unfold Qc.v at hS0
      refine hS0.mono ?_
      clear hS0
      rintro e w3 ⟨v, rfl, y3, l3, ok3, b3, hor⟩
      have u3 : Turn [g, d] w2.drew w3 := by rcases hor with h3 | h3; exact h3.2.1.mono (by simp); exact h3.2.1
      have X3 : XF w3 x p h lv r j := Blk.turn HI2.out.1.drew.X u3 (by simp only [List.mem_cons, List.not_mem_nil, or_false, not_or]; exact ⟨Blk.ne_ HI2.out.1.X HI2.out.1.G (by decide), Blk.ne_ HI2.out.1.X HI2.out.1.D.row (by decide)⟩)
      have K3 : Blk w3 w.heap.size 68 #[.int .u8 (q.r.toNat : Int), .int .u8 (q.g.toNat : Int), .int .u8 (q.b.toNat : Int), .int .u8 (q.a.toNat : Int)] := Blk.turn (Blk.drew HI2.out.2.1) u3 (by simp only [List.mem_cons, List.not_mem_nil, or_false, not_or]; exact ⟨Blk.ne_ HI2.out.2.1 HI2.out.1.G (by decide), Blk.ne_ HI2.out.2.1 HI2.out.1.D.row (by decide)⟩)
      refine hK.out _ _ ⟨Blk.cell X3 14, Blk.cell K3 0, Blk.cell K3 1, Blk.cell K3 2, Blk.cell K3 3⟩ ?_
      clear hK K hHeld
      intro hHeld
      (try simp only [sps])
      refine tk 8 ?_
      (try simp only [sps])
      refine wpAnyH_done (by kernel_rfl) ?_ _
      (try simp only [sps])
      rcases hor with ⟨rfl, t3, yr3, hrun3⟩ | ⟨rfl, t3, D3, yr3, hrun3⟩
      · have I3 := HI2.out.1.drew.led t3 l3 ok3
        have F3 : FB w3 (w.heap.size + 1) 0 0 0 := FB.turn (Blk.drew HI2.out.2.2) t3 (by simpa using Blk.ne_ HI2.out.2.2 HI2.out.1.G (by decide))
        clear c0 c1 c2 c3 c4 c5 c6 c7 c8 c9 c10 c11 c12 c13 c14 c15 c15z cl
        obtain ⟨c0, c1, c2, c3, c4, c5, c6, c7, c8, c9, c10, c11, c12, c13, c14, c15, c15z, cl⟩ := I3.X.all
        go_wp2_with (go_at_call 43; refine (srcFault_is 2 I3.S I3.G (.inl ⟨yr3, rfl, rfl⟩)).mono ?_; rintro e w4 ⟨rfl, b4⟩; have I4 := I3.below b4; have F4 := FB.below F3 b4; obtain ⟨f0, f1, f2', z0, z1, z2, fl⟩ := FB.all F4)
        exact bodyPost_ret (v := tFlt 4 a) (by simp [results, Tryz.results199, go_sem, f0, f1, f2', tFlt]) rfl ⟨y3, L', by rw [HJ.out]; exact I4.st3 F4 hfl, b3.trans HR.out.2.2.2.2.1, .inl ⟨rfl, yr3, fun z k => by rw [HR.out.2.2.2.2.2, show gk = gk - 1 + 1 by have := HGK.out; omega]; exact hrun3 z a _⟩⟩
      · have hset : over (flat (tgaPerm h L')) (4 * (Y * h.W + X)) [q.r, q.g, q.b, q.a] = flat (tgaPerm h (L' ++ [q])) := by
          have h1 := tgaPerm_over h L' q HH.out.w1 (by rw [HJ.out, HN.out]; exact hjN)
          rw [HJ.out, HXY.out.2.2] at h1
          exact h1
        rw [hset] at D3
        have I3 : TX w w3 p g x r b d s h lv M a j (L' ++ [q]) y3 := HI2.out.1.drew.set t3 D3 l3 ok3 (by rw [List.length_append, HJ.out, HN.out]; simp; omega)
        have C3 : Blk w3 w.heap.size 68 #[.int .u8 (q.r.toNat : Int), .int .u8 (q.g.toNat : Int), .int .u8 (q.b.toNat : Int), .int .u8 (q.a.toNat : Int)] := Blk.turn (Blk.drew HI2.out.2.1) t3 (by simp only [List.mem_cons, List.not_mem_nil, or_false, not_or]; exact ⟨Blk.ne_ HI2.out.2.1 HI2.out.1.G (by decide), Blk.ne_ HI2.out.2.1 HI2.out.1.D.row (by decide)⟩)
        have F3 : FB w3 (w.heap.size + 1) 0 0 0 := FB.turn (Blk.drew HI2.out.2.2) t3 (by simp only [List.mem_cons, List.not_mem_nil, or_false, not_or]; exact ⟨Blk.ne_ HI2.out.2.2 HI2.out.1.G (by decide), Blk.ne_ HI2.out.2.2 HI2.out.1.D.row (by decide)⟩)
        clear c0 c1 c2 c3 c4 c5 c6 c7 c8 c9 c10 c11 c12 c13 c14 c15 c15z cl hset D3
        obtain ⟨c0, c1, c2, c3, c4, c5, c6, c7, c8, c9, c10, c11, c12, c13, c14, c15, c15z, cl⟩ := I3.X.all
        have hxF := Blk.ne_ I3.X F3 (by decide)
        have hxC := Blk.ne_ I3.X C3 (by decide)
        have hj1 : (j : Int) + 1 = ((j + 1 : Nat) : Int) := by omega
        have I4 := I3.count (j + 1)
        have C4 : Blk (w3.setCell ⟨x, 15, none⟩ (.int .i64 ((j + 1 : Nat) : Int))) w.heap.size 68 #[.int .u8 (q.r.toNat : Int), .int .u8 (q.g.toNat : Int), .int .u8 (q.b.toNat : Int), .int .u8 (q.a.toNat : Int)] := Blk.far C3 (p := ⟨x, 15, none⟩) (Ne.symm hxC) _
        have F4 : FB (w3.setCell ⟨x, 15, none⟩ (.int .i64 ((j + 1 : Nat) : Int))) (w.heap.size + 1) 0 0 0 := Blk.far F3 (p := ⟨x, 15, none⟩) (Ne.symm hxF) _
        rw [← hj1] at I4 C4 F4
        have HQ4 := Lib.hid (And.intro I4 (And.intro C4 F4))
        clear I4 C4 F4 I3 C3 F3 hj1
        go_wp2_with fail
        go_roundg (n - (i + 1))
        case measure => have := HGK.out; omega
        case rel =>
          refine ⟨i + 1, n - (i + 1), y3, L' ++ [q], rfl, by omega, by go_num, Lib.hid ?_, Lib.hid ⟨?_, HQ4.out.2.1, HQ4.out.2.2, yr3, b3.trans HR.out.2.2.2.2.1, fun z k => ?_⟩⟩
          · rw [HL'.out, List.append_assoc, ← List.replicate_succ']
          · rw [List.length_append, HJ.out]; exact HQ4.out.1
          · rw [HR.out.2.2.2.2.2, show gk = n - (i + 1) + 1 by have := HGK.out; omega]
            exact hrun3 z a _
    · obtain rfl : gk = 0 := by omega
      have hinI : ¬ (i : Int) < (n : Int) := by omega
      obtain ⟨f0, f1, f2', z0, z1, z2, fl⟩ := FB.all HR.out.2.2.1
      have hin2 : i = n := by omega
      have HE := Lib.hid hin2
      clear hi hin hin2
      go_wp2_with fail
      exact bodyPost_ret (v := tFlt0) (by simp [results, Tryz.results199, go_sem, f0, f1, f2', tFlt0]) rfl ⟨y', L', HR.out.1.st3 HR.out.2.2.1 hfl, HR.out.2.2.2.2.1, .inr ⟨rfl, by rw [HL'.out, HE.out], HR.out.2.2.2.1, fun z k => HR.out.2.2.2.2.2 z k⟩⟩
end Go.Proofs.YtlehkgkomjojmaaGreat
